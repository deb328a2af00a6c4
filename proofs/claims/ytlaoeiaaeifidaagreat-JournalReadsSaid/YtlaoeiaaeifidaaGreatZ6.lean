/- The document's digest: turns, primes, products, roots, tables. No condition. (and what it stands on) -/
import Derived.Test.YtlaoeiaaeifidaaGreatZ5
namespace Go.Proofs.YtlaoeiaaeifidaaGreat
open Go.Sw Go.Lib Go.Vf Go.Sha Go.Jr Go.RowKit
theorem addTrue_ {s : DS} {M : DM} (hs : s.ok M) (hm : Small M) (K : List Grp) (jb d : Nat) (dir : ByteArray) (rv : Value) (rg : Grp) (L : List ByteArray) (size : Int) (down : Bool) (ho : Go.Sw.Own 9 1 rv rg L.length (strs L)) (hdir : dir.size ≤ 1000000) (hL : L.length ≤ 1000000) (hz : 0 ≤ size ∧ size ≤ 1000000000000) (t : ByteArray) (ht : t.size ≤ 100000000) (hm1 : Small (appendM M (pathJ dir logB) (lineB t)).2) (W0 : World) (H : List Grp) : Tri Tryz.prog 17 #[pt jb, .string t] W0 ([(jb, .cells #[pt d, .string dir, rv, .int .i64 size, .bool down, .bool true] 83 (0, 0))] :: rg :: (K ++ (s.G d M ++ H))) (CallR (addM ⟨dir, L, size, down, true⟩ M t) jb d K H) := by
 have hls := lineB_size t
 refine Tri_of (args := [pt jb, .string t]) (n := 60) Tryz.func17 rfl rfl (Nat.le_of_ble_eq_true rfl) ?_
 refine G_seq ?_
 refine G_region ?_
 refine GL_box (i:=0) (ch:=[]) (v:=pt jb) rfl rfl kr kr kr kr (fun b1=>?_)
 refine GL_fin (E':=[⟨1,[],.string t⟩,⟨2,[],pt b1⟩]) [0] [1,2] rfl kr ?_
 refine N_then ?_
 refine G_seq ?_
 refine G_seq ?_
 refine G_region ?_
 refine GL_load (i:=0) (ch:=[]) (b:=b1) (off:=0) (v:=pt jb) rfl rfl kr kr kr kr kr (At.grp 0 0 rfl rfl) rfl ?_
 refine GL_p [0] kr (j:=2) rfl ?_
 refine GL_buildSlice (i:=2) (ch:=[]) (e:=9) (l:=[(0,.string t)]) (c:=[.string t]) rfl rfl kr kr kr kr kr (fun b2=>?_)
 refine GL_callQ (i:=3) (ch:=[]) (f:=45) (fst:=#[]) (caps:=#[]) (vs:=[pt jb,.slice (some ⟨b2,0,none⟩) 1 1]) (v:=.int .i64 (mayI [t] down)) rfl rfl rfl kr kr Tryz.func45 rfl rfl kr kr kr (fun _=>may_ (some ⟨b2,0,none⟩) 1 [t] (inG [(b2,.cells #[.string t] 9 (0,0))]) Rd.lit (by first | (show 1 ≤ 1000000000; omega) | omega) jb (pt d) rv (.int .i64 size) (.bool true) dir down _ _ (At.grp 2 0 rfl rfl) (at_inG 0 rfl)) ?_
 refine GL_fin (E':=[⟨1,[],.string t⟩,⟨2,[],pt b1⟩,⟨5,[],.int .i64 (mayI [t] down)⟩]) [0] [1,2,5] rfl kr ?_
 refine N_then ?_
 refine G_seq ?_
 refine G_pure (E':=[⟨1,[],.string t⟩,⟨2,[],pt b1⟩,⟨5,[],.int .i64 (mayI [t] down)⟩,⟨13,[],.bool ((mayI [t] down) != 0)⟩]) [0,0] [1,2,5,13] rfl kr ?_
 refine N_then ?_
 refine G_cond (b:=(mayI [t] down) != 0) kr (fun hc3=>?_) (fun hc3=>?_)
 ·
  have hmc := hc3
  refine G_seq ?_
  refine G_pure (E':=[⟨4,[],.int .i64 (mayI [t] down)⟩]) [0,0] [4] rfl kr ?_
  refine N_then ?_
  refine G_ret ?_
  refine N_then_ret ?_
  refine N_heap (H':=([(jb,.cells #[pt d,.string dir,rv,.int .i64 size,.bool down,.bool true] 83 (0,0))]::rg::(K++(s.G d M++H)))) (fun w h=>((h.erase 1).erase 0)) ?_
  refine N_ret [.tmp 4] [.int .i64 (mayI [t] down)] rfl kr rfl ?_
  rw [mayI_add hmc]; exact ⟨rv, rg, s, rfl, ho, hs, rfl⟩
 ·
  have hmn := Bool.eq_false_iff.1 hc3
  refine G_skip ?_
  refine N_then ?_
  refine G_seq ?_
  refine G_region ?_
  refine GL_p [0] kr (j:=1) rfl ?_
  refine GL_callQ (i:=1) (ch:=[]) (f:=46) (fst:=#[]) (caps:=#[]) (vs:=[.string t]) (v:=.string (lineB t)) rfl rfl rfl kr kr Tryz.func46 rfl rfl kr kr kr (fun _=>line_ _ (by omega) _ _) ?_
  refine GL_alloc (i:=2) (ch:=[]) (z:=.string (ByteArray.mk #[])) rfl rfl kr kr kr kr (fun b4=>?_)
  refine GL_st (i:=3) (ch:=[]) (b:=b4) (off:=0) (v:=.string (lineB t)) (j:=0) ([(b4,.cells #[.string (lineB t)] 9 (0,0))]::[(b2,.cells #[.string t] 9 (0,0))]::[(b1,.cells #[pt jb] 28 (0,0))]::[(jb,.cells #[pt d,.string dir,rv,.int .i64 size,.bool down,.bool true] 83 (0,0))]::rg::(K++(s.G d M++H))) rfl rfl kr kr kr kr kr kr kr rfl rfl (Nat.le_of_ble_eq_true rfl) (fun _ _=>thaw0) kr ?_
  refine GL_fin (E':=[⟨1,[],.string t⟩,⟨2,[],pt b1⟩,⟨6,[],pt b4⟩]) [] [1,2,6] rfl kr ?_
  refine N_then ?_
  refine G_seq ?_
  refine G_pure (E':=[⟨1,[],.string t⟩,⟨2,[],pt b1⟩,⟨6,[],pt b4⟩]) [0] [1,2,6] rfl kr ?_
  refine N_then ?_
  refine G_seq ?_
  refine G_seq ?_
  refine G_region ?_
  refine GL_load (i:=0) (ch:=[]) (b:=b1) (off:=0) (v:=pt jb) rfl rfl kr kr kr kr kr (At.grp 2 0 rfl rfl) rfl ?_
  refine GL_p [0,0] kr (j:=3) rfl ?_
  refine GL_load (i:=3) (ch:=[]) (b:=jb) (off:=5) (v:=.bool true) rfl rfl kr kr kr kr kr (At.grp 3 0 rfl rfl) rfl ?_
  refine GL_fin (E':=[⟨1,[],.string t⟩,⟨2,[],pt b1⟩,⟨6,[],pt b4⟩,⟨20,[],.bool true⟩]) [] [1,2,6,20] rfl kr ?_
  refine N_then ?_
  refine G_condt kr ?_
  refine G_regionH ([(b4,.cells #[.string (lineB t)] 9 (0,0))]::[(b2,.cells #[.string t] 9 (0,0))]::[(b1,.cells #[pt jb] 28 (0,0))]::K) kr ?_
  refine GH_take' 0 kr (fun w h=>(Sat.takeMid (K:=[_,_,_]) (A:=K) ((h.erase 4).erase 3))) (GL_load (i:=0) (ch:=[]) (b:=b1) (off:=0) (v:=pt jb) rfl rfl kr kr kr kr kr (At.grp 2 0 rfl rfl) rfl (GL_yend kr rfl)) ?_
  refine GH_p (fuel:=5) [(1,0)] (fun w h=>(Sat.takeMid (K:=[_,_,_]) (A:=K) ((h.erase 4).erase 3))) kr rfl ?_
  refine GH_take' 2 kr (fun w h=>(Sat.takeMid (K:=[_,_,_]) (A:=K) ((h.erase 4).erase 3))) (GL_load (i:=2) (ch:=[]) (b:=b1) (off:=0) (v:=pt jb) rfl rfl kr kr kr kr kr (At.grp 2 0 rfl rfl) rfl (GL_yend kr rfl)) ?_
  refine GH_eff 3 kr kr kr ?_
  refine GL_call (i:=3) (ch:=[]) (f:=49) (fst:=#[]) (caps:=#[]) (vs:=[pt jb,.string (ByteArray.mk #[108,111,103])]) rfl rfl rfl kr kr Tryz.func49 rfl rfl kr kr (chSure_of kr) (mkSync_ jb (ByteArray.mk #[108,111,103]) _ _) ?_
  rintro v H' ⟨b5, b6, rfl, rfl⟩
  refine GH_back kr (fun w h=>(Sat.takeMid (K:=[_,_,_]) (A:=K) ((((h.erase 6).erase 5).erase 1).erase 0))) ?_
  refine GH_more ([(b6,.cells #[.string (ByteArray.mk #[108,111,103])] 9 (0,0))]::[(b5,.cells #[pt jb] 28 (0,0))]::[(b4,.cells #[.string (lineB t)] 9 (0,0))]::[(b2,.cells #[.string t] 9 (0,0))]::[(b1,.cells #[pt jb] 28 (0,0))]::K) (fun w h=>((h.erase 1).erase 0)) ?_
  refine GH_eff 4 kr kr kr ?_
  refine GL_buildSlice (i:=4) (ch:=[]) (e:=91) (l:=[(0,.func (.func 48) #[] #[pt b1,pt b4]),(1,.func (.func 85) #[] #[pt b5,pt b6])]) (c:=[.func (.func 48) #[] #[pt b1,pt b4],.func (.func 85) #[] #[pt b5,pt b6]]) rfl rfl kr kr kr kr kr (fun b7=>?_)
  refine GH_back kr (fun w h=>(Sat.takeMid (K:=[_,_,_,_,_]) (A:=K) (((h.erase 7).erase 6).erase 0))) ?_
  refine GH_more ([(b7,.cells #[.func (.func 48) #[] #[pt b1,pt b4],.func (.func 85) #[] #[pt b5,pt b6]] 91 (0,0))]::[(b6,.cells #[.string (ByteArray.mk #[108,111,103])] 9 (0,0))]::[(b5,.cells #[pt jb] 28 (0,0))]::[(b4,.cells #[.string (lineB t)] 9 (0,0))]::[(b2,.cells #[.string t] 9 (0,0))]::[(b1,.cells #[pt jb] 28 (0,0))]::K) (fun w h=>(h.erase 0)) ?_
  refine GH_eff 5 kr kr kr ?_
  refine GL_heap rfl (H':=([(jb,.cells #[pt d,.string dir,rv,.int .i64 size,.bool down,.bool true] 83 (0,0))]::[(b7,.cells #[.func (.func 48) #[] #[pt b1,pt b4],.func (.func 85) #[] #[pt b5,pt b6]] 91 (0,0))]::[(b6,.cells #[.string (ByteArray.mk #[108,111,103])] 9 (0,0))]::[(b5,.cells #[pt jb] 28 (0,0))]::[(b4,.cells #[.string (lineB t)] 9 (0,0))]::[(b2,.cells #[.string t] 9 (0,0))]::[(b1,.cells #[pt jb] 28 (0,0))]::rg::(K++(s.G d M++H)))) (fun w h=>(h.front (j:=6) rfl)) ?_
  refine GL_call (i:=5) (ch:=[]) (f:=47) (fst:=#[]) (caps:=#[]) (vs:=[pt jb,.slice (some ⟨b7,0,none⟩) 2 2]) rfl rfl rfl kr kr Tryz.func47 rfl rfl kr kr (chSure_of kr) (tryApp hs dir (lineB t) (by rw [hls]; omega) hdir hm hm1 jb d b1 b4 b5 b6 b7 rv size down true ([[(b7,.cells #[.func (.func 48) #[] #[pt b1,pt b4],.func (.func 85) #[] #[pt b5,pt b6]] 91 (0,0))],[(b6,.cells #[.string (ByteArray.mk #[108,111,103])] 9 (0,0))],[(b5,.cells #[pt jb] 28 (0,0))],[(b4,.cells #[.string (lineB t)] 9 (0,0))],[(b2,.cells #[.string t] 9 (0,0))],[(b1,.cells #[pt jb] 28 (0,0))],rg]++K) _ H (At.grp 0 0 rfl rfl) (At.grp 5 0 rfl rfl) (At.grp 3 0 rfl rfl) (At.grp 2 0 rfl rfl) (At.grp 1 0 rfl rfl)) ?_
  rintro v H' ⟨rfl, s2, hs2, rfl⟩
  refine GH_back kr (fun w h=>(Sat.takeMid (K:=[_,_,_,_,_,_]) (A:=K) ((h.erase 7).erase 0))) ?_
  refine GH_p (fuel:=0) [(6,0)] (fun w h=>(Sat.takeMid (K:=[_,_,_,_,_,_]) (A:=K) ((h.erase 7).erase 0))) kr rfl ?_
  refine GH_done (E':=[⟨1,[],.string t⟩,⟨2,[],pt b1⟩,⟨6,[],pt b4⟩,⟨7,[],.int .i64 ((tryM (stApp dir (lineB t)) M).1)⟩]) [1,2,6,7] kr kr ?_
  refine N_then ?_
  refine G_seq ?_
  refine G_seq ?_
  refine G_pure (E':=[⟨1,[],.string t⟩,⟨2,[],pt b1⟩,⟨6,[],pt b4⟩,⟨7,[],.int .i64 ((tryM (stApp dir (lineB t)) M).1)⟩,⟨36,[],.bool (((tryM (stApp dir (lineB t)) M).1) != 0)⟩]) [0,0] [1,2,6,7,36] rfl kr ?_
  refine N_then ?_
  refine G_cond (b:=((tryM (stApp dir (lineB t)) M).1) != 0) kr (fun hc8=>?_) (fun hc8=>?_)
  ·
   have hec := hc8
   refine G_seq ?_
   refine G_pure (E':=[⟨4,[],.int .i64 ((tryM (stApp dir (lineB t)) M).1)⟩]) [0,0] [4] rfl kr ?_
   refine N_then ?_
   refine G_ret ?_
   refine N_then_ret ?_
   refine N_heap (H':=([(jb,.cells #[pt d,.string dir,rv,.int .i64 size,.bool (if (tryM (stApp dir (lineB t)) M).1 != 0 then down||((tryM (stApp dir (lineB t)) M).1 != 61) else down),.bool true] 83 (0,0))]::rg::(K++(s2.G d (tryM (stApp dir (lineB t)) M).2++H)))) (fun w h=>((((((h.erase 6).erase 5).erase 4).erase 3).erase 2).erase 1)) ?_
   refine N_ret [.tmp 4] [.int .i64 ((tryM (stApp dir (lineB t)) M).1)] rfl kr rfl ?_
   rw [add_err hmn (show addSteps ⟨dir, L, size, down, true⟩ (lineB t) = (stApp dir (lineB t)) from rfl) hec]; exact ⟨rv, rg, _, rfl, ho, hs2, by simp only [hec, if_true]; rfl⟩
  ·
   have hen := Bool.eq_false_iff.1 hc8
   refine G_skip ?_
   refine N_then ?_
   refine G_seq ?_
   refine G_region ?_
   refine GL_load (i:=0) (ch:=[]) (b:=b1) (off:=0) (v:=pt jb) rfl rfl kr kr kr kr kr (At.grp 6 0 rfl rfl) rfl ?_
   refine GL_p [0,0] kr (j:=3) rfl ?_
   refine GL_st (i:=3) (ch:=[]) (b:=jb) (off:=5) (v:=.bool true) (j:=0) ([(jb,.cells #[pt d,.string dir,rv,.int .i64 size,.bool (if (tryM (stApp dir (lineB t)) M).1 != 0 then down||((tryM (stApp dir (lineB t)) M).1 != 61) else down),.bool true] 83 (0,0))]::[(b7,.cells #[.func (.func 48) #[] #[pt b1,pt b4],.func (.func 85) #[] #[pt b5,pt b6]] 91 (0,0))]::[(b6,.cells #[.string (ByteArray.mk #[108,111,103])] 9 (0,0))]::[(b5,.cells #[pt jb] 28 (0,0))]::[(b4,.cells #[.string (lineB t)] 9 (0,0))]::[(b2,.cells #[.string t] 9 (0,0))]::[(b1,.cells #[pt jb] 28 (0,0))]::rg::(K++(s2.G d (tryM (stApp dir (lineB t)) M).2++H))) rfl rfl kr kr kr kr kr kr kr rfl rfl (Nat.le_of_ble_eq_true rfl) (fun _ _=>thaw0) kr ?_
   refine GL_fin (E':=[⟨1,[],.string t⟩,⟨2,[],pt b1⟩,⟨6,[],pt b4⟩]) [] [1,2,6] rfl kr ?_
   refine N_then ?_
   refine G_seq ?_
   refine G_regionH ([(b7,.cells #[.func (.func 48) #[] #[pt b1,pt b4],.func (.func 85) #[] #[pt b5,pt b6]] 91 (0,0))]::[(b6,.cells #[.string (ByteArray.mk #[108,111,103])] 9 (0,0))]::[(b5,.cells #[pt jb] 28 (0,0))]::[(b4,.cells #[.string (lineB t)] 9 (0,0))]::[(b2,.cells #[.string t] 9 (0,0))]::[(b1,.cells #[pt jb] 28 (0,0))]::K) kr ?_
   refine GH_take' 0 kr (fun w h=>(Sat.takeMid (K:=[_,_,_,_,_,_]) (A:=K) ((h.erase 7).erase 0))) (GL_load (i:=0) (ch:=[]) (b:=b1) (off:=0) (v:=pt jb) rfl rfl kr kr kr kr kr (At.grp 5 0 rfl rfl) rfl (GL_yend kr rfl)) ?_
   refine GH_take' 1 kr (fun w h=>(Sat.takeMid (K:=[_,_,_,_,_,_]) (A:=K) ((h.erase 7).erase 0))) (GL_load (i:=1) (ch:=[]) (b:=b1) (off:=0) (v:=pt jb) rfl rfl kr kr kr kr kr (At.grp 5 0 rfl rfl) rfl (GL_yend kr rfl)) ?_
   refine GH_nil (ad:=⟨jb,0,none⟩) 2 rfl rfl rfl kr kr kr kr kr (fun w h=>(Sat.takeMid (K:=[_,_,_,_,_,_]) (A:=K) ((h.erase 7).erase 0))) ?_
   refine GH_p (fuel:=6) [(3,0),(5,0)] (fun w h=>(Sat.takeMid (K:=[_,_,_,_,_,_]) (A:=K) ((h.erase 7).erase 0))) kr rfl ?_
   refine GH_eff2 4 6 kr kr kr kr kr ?_ ?_
   ·
    refine GL_load (i:=4) (ch:=[]) (b:=jb) (off:=2) (v:=rv) rfl rfl kr kr kr kr kr (At.grp 0 0 rfl rfl) rfl ?_
    refine GH_back kr (fun w h=>(Sat.takeMid (K:=[_,_,_,_,_,_]) (A:=K) ((h.erase 7).erase 0))) ?_
    refine GH_eff 6 kr kr kr ?_
    refine GL_buildSlice (i:=6) (ch:=[]) (e:=9) (l:=[(0,.string t)]) (c:=[.string t]) rfl rfl kr kr kr kr kr (fun b9=>?_)
    refine GH_back kr (fun w h=>(Sat.takeMid (K:=[_,_,_,_,_,_]) (A:=K) (((h.erase 8).erase 1).erase 0))) ?_
    refine GH_more ([(b9,.cells #[.string t] 9 (0,0))]::[(b7,.cells #[.func (.func 48) #[] #[pt b1,pt b4],.func (.func 85) #[] #[pt b5,pt b6]] 91 (0,0))]::[(b6,.cells #[.string (ByteArray.mk #[108,111,103])] 9 (0,0))]::[(b5,.cells #[pt jb] 28 (0,0))]::[(b4,.cells #[.string (lineB t)] 9 (0,0))]::[(b2,.cells #[.string t] 9 (0,0))]::[(b1,.cells #[pt jb] 28 (0,0))]::K) (fun w h=>(h.erase 0)) ?_
    refine GH_eff 7 kr kr kr ?_
    refine GL_append (i:=7) (ch:=[]) (t:=32) (tx:=32) (e:=9) (inf:=Tryz.t9) (s:=rv) (x:=.slice (some ⟨b9,0,none⟩) 1 1) (n:=L.length) (m:=1) (j:=8) (cs:=(strs L)) (news:=[.string t]) (g:=rg) (S:=(inG [(b9,.cells #[.string t] 9 (0,0))])) rfl rfl rfl rfl kr kr kr rfl rfl (.inl ⟨9,kr⟩) (fun ⟨_,h⟩=>by cases h) (fun _=>⟨9,kr⟩) kr kr kr rfl ho (SrcOf.slice _ _ _ _ Rd.lit (fun h=>by cases h)) (at_inG 0 rfl) rfl (strs_one (ts:=[t])) (by omega) (by show (L.length+1) * 16 ≤ 140737488355328; omega) (fun v10 g11 hO12=>?_)
    obtain ⟨a13, cap14, rfl, hcap15, hrd16⟩ := hO12.shape
    refine GH_back kr (fun w h=>(Sat.takeMid (K:=[_,_,_,_,_,_,_]) (A:=K) ((h.erase 8).erase 1))) ?_
    refine GH_more ([(b9,.cells #[.string t] 9 (0,0))]::[(b7,.cells #[.func (.func 48) #[] #[pt b1,pt b4],.func (.func 85) #[] #[pt b5,pt b6]] 91 (0,0))]::[(b6,.cells #[.string (ByteArray.mk #[108,111,103])] 9 (0,0))]::[(b5,.cells #[pt jb] 28 (0,0))]::[(b4,.cells #[.string (lineB t)] 9 (0,0))]::[(b2,.cells #[.string t] 9 (0,0))]::[(b1,.cells #[pt jb] 28 (0,0))]::g11::K) (fun w h=>(h.erase 7)) ?_
    refine GH_nil (ad:=⟨jb,0,none⟩) 8 rfl rfl rfl kr kr kr kr kr (fun w h=>(Sat.takeMid (K:=[_,_,_,_,_,_,_,_]) (A:=K) (h.erase 1))) ?_
    refine GH_p (fuel:=1) [(9,0)] (fun w h=>(Sat.takeMid (K:=[_,_,_,_,_,_,_,_]) (A:=K) (h.erase 1))) kr rfl ?_
    refine GH_eff 10 kr kr kr ?_
    refine GL_st (i:=10) (ch:=[]) (b:=jb) (off:=2) (v:=.slice a13 (L.length+1) cap14) (j:=1) ([(b9,.cells #[.string t] 9 (0,0))]::[(jb,.cells #[pt d,.string dir,.slice a13 (L.length+1) cap14,.int .i64 size,.bool (if (tryM (stApp dir (lineB t)) M).1 != 0 then down||((tryM (stApp dir (lineB t)) M).1 != 61) else down),.bool true] 83 (0,0))]::[(b7,.cells #[.func (.func 48) #[] #[pt b1,pt b4],.func (.func 85) #[] #[pt b5,pt b6]] 91 (0,0))]::[(b6,.cells #[.string (ByteArray.mk #[108,111,103])] 9 (0,0))]::[(b5,.cells #[pt jb] 28 (0,0))]::[(b4,.cells #[.string (lineB t)] 9 (0,0))]::[(b2,.cells #[.string t] 9 (0,0))]::[(b1,.cells #[pt jb] 28 (0,0))]::g11::(K++(s2.G d (tryM (stApp dir (lineB t)) M).2++H))) rfl rfl kr kr kr kr kr kr kr rfl rfl (Nat.le_of_ble_eq_true rfl) (fun _ _=>thaw0) kr ?_
    refine GH_back kr (fun w h=>(Sat.takeMid (K:=[_,_,_,_,_,_,_,_]) (A:=K) (h.erase 1))) ?_
    refine GH_done (E':=[⟨2,[],pt b1⟩,⟨6,[],pt b4⟩]) [2,6] kr kr ?_
    refine N_then ?_
    refine G_seq ?_
    refine G_regionH ([(b9,.cells #[.string t] 9 (0,0))]::[(b7,.cells #[.func (.func 48) #[] #[pt b1,pt b4],.func (.func 85) #[] #[pt b5,pt b6]] 91 (0,0))]::[(b6,.cells #[.string (ByteArray.mk #[108,111,103])] 9 (0,0))]::[(b5,.cells #[pt jb] 28 (0,0))]::[(b4,.cells #[.string (lineB t)] 9 (0,0))]::[(b2,.cells #[.string t] 9 (0,0))]::[(b1,.cells #[pt jb] 28 (0,0))]::g11::K) kr ?_
    refine GH_take' 0 kr (fun w h=>(Sat.takeMid (K:=[_,_,_,_,_,_,_,_]) (A:=K) (h.erase 1))) (GL_load (i:=0) (ch:=[]) (b:=b1) (off:=0) (v:=pt jb) rfl rfl kr kr kr kr kr (At.grp 6 0 rfl rfl) rfl (GL_yend kr rfl)) ?_
    refine GH_nil (ad:=⟨jb,0,none⟩) 1 rfl rfl rfl kr kr kr kr kr (fun w h=>(Sat.takeMid (K:=[_,_,_,_,_,_,_,_]) (A:=K) (h.erase 1))) ?_
    refine GH_p (fuel:=7) [(2,0)] (fun w h=>(Sat.takeMid (K:=[_,_,_,_,_,_,_,_]) (A:=K) (h.erase 1))) kr rfl ?_
    refine GH_take' 4 kr (fun w h=>(Sat.takeMid (K:=[_,_,_,_,_,_,_,_]) (A:=K) (h.erase 1))) (GL_load (i:=4) (ch:=[]) (b:=b4) (off:=0) (v:=.string (lineB t)) rfl rfl kr kr kr kr kr (At.grp 4 0 rfl rfl) rfl (GL_yend kr rfl)) ?_
    refine GH_pev (v:=.int .i64 ((lineB t).size : Int)) 5 rfl rfl kr kr kr kr kr (fun w h=>(Sat.takeMid (K:=[_,_,_,_,_,_,_,_]) (A:=K) (h.erase 1))) ?_
    refine GH_eff 3 kr kr kr ?_
    refine GL_load (i:=3) (ch:=[]) (b:=jb) (off:=3) (v:=.int .i64 size) rfl rfl kr kr kr kr kr (At.grp 1 0 rfl rfl) rfl ?_
    refine GH_back kr (fun w h=>(Sat.takeMid (K:=[_,_,_,_,_,_,_,_]) (A:=K) (h.erase 1))) ?_
    refine GH_p (fuel:=3) [(6,0)] (fun w h=>(Sat.takeMid (K:=[_,_,_,_,_,_,_,_]) (A:=K) (h.erase 1))) kr rfl ?_
    refine GH_wi 57 (size+((lineB t).size : Int)) (by omega) (by omega) kr ?_
    refine GH_nil (ad:=⟨jb,0,none⟩) 7 rfl rfl rfl kr kr kr kr kr (fun w h=>(Sat.takeMid (K:=[_,_,_,_,_,_,_,_]) (A:=K) (h.erase 1))) ?_
    refine GH_p (fuel:=1) [(8,0)] (fun w h=>(Sat.takeMid (K:=[_,_,_,_,_,_,_,_]) (A:=K) (h.erase 1))) kr rfl ?_
    refine GH_eff 9 kr kr kr ?_
    refine GL_st (i:=9) (ch:=[]) (b:=jb) (off:=3) (v:=.int .i64 (size+((lineB t).size : Int))) (j:=1) ([(b9,.cells #[.string t] 9 (0,0))]::[(jb,.cells #[pt d,.string dir,.slice a13 (L.length+1) cap14,.int .i64 (size+((lineB t).size : Int)),.bool (if (tryM (stApp dir (lineB t)) M).1 != 0 then down||((tryM (stApp dir (lineB t)) M).1 != 61) else down),.bool true] 83 (0,0))]::[(b7,.cells #[.func (.func 48) #[] #[pt b1,pt b4],.func (.func 85) #[] #[pt b5,pt b6]] 91 (0,0))]::[(b6,.cells #[.string (ByteArray.mk #[108,111,103])] 9 (0,0))]::[(b5,.cells #[pt jb] 28 (0,0))]::[(b4,.cells #[.string (lineB t)] 9 (0,0))]::[(b2,.cells #[.string t] 9 (0,0))]::[(b1,.cells #[pt jb] 28 (0,0))]::g11::(K++(s2.G d (tryM (stApp dir (lineB t)) M).2++H))) rfl rfl kr kr kr kr kr kr kr rfl rfl (Nat.le_of_ble_eq_true rfl) (fun _ _=>thaw0) kr ?_
    refine GH_back kr (fun w h=>(Sat.takeMid (K:=[_,_,_,_,_,_,_,_]) (A:=K) (h.erase 1))) ?_
    refine GH_done (E':=[]) [] kr kr ?_
    refine N_then ?_
    refine G_seq ?_
    refine G_pure (E':=[⟨4,[],.int .i64 0⟩]) [0] [4] rfl kr ?_
    refine N_then ?_
    refine G_ret ?_
    refine N_heap (H':=([(jb,.cells #[pt d,.string dir,.slice a13 (L.length+1) cap14,.int .i64 (size+((lineB t).size : Int)),.bool (if (tryM (stApp dir (lineB t)) M).1 != 0 then down||((tryM (stApp dir (lineB t)) M).1 != 61) else down),.bool true] 83 (0,0))]::g11::(K++(s2.G d (tryM (stApp dir (lineB t)) M).2++H)))) (fun w h=>(((((((h.erase 7).erase 6).erase 5).erase 4).erase 3).erase 2).erase 0)) ?_
    refine N_ret [.tmp 4] [.int .i64 0] rfl kr rfl ?_
    rw [add_ok hmn (show addSteps ⟨dir, L, size, down, true⟩ (lineB t) = (stApp dir (lineB t)) from rfl) hen]; exact ⟨_, _, _, rfl, (own_add hO12), hs2, by simp only [hen]; rfl⟩
   ·
    refine GL_buildSlice (i:=6) (ch:=[]) (e:=9) (l:=[(0,.string t)]) (c:=[.string t]) rfl rfl kr kr kr kr kr (fun b18=>?_)
    refine GH_back kr (fun w h=>(Sat.takeMid (K:=[_,_,_,_,_,_]) (A:=K) (((h.erase 8).erase 1).erase 0))) ?_
    refine GH_more ([(b18,.cells #[.string t] 9 (0,0))]::[(b7,.cells #[.func (.func 48) #[] #[pt b1,pt b4],.func (.func 85) #[] #[pt b5,pt b6]] 91 (0,0))]::[(b6,.cells #[.string (ByteArray.mk #[108,111,103])] 9 (0,0))]::[(b5,.cells #[pt jb] 28 (0,0))]::[(b4,.cells #[.string (lineB t)] 9 (0,0))]::[(b2,.cells #[.string t] 9 (0,0))]::[(b1,.cells #[pt jb] 28 (0,0))]::K) (fun w h=>(h.erase 0)) ?_
    refine GH_eff 4 kr kr kr ?_
    refine GL_load (i:=4) (ch:=[]) (b:=jb) (off:=2) (v:=rv) rfl rfl kr kr kr kr kr (At.grp 1 0 rfl rfl) rfl ?_
    refine GH_back kr (fun w h=>(Sat.takeMid (K:=[_,_,_,_,_,_,_]) (A:=K) ((h.erase 8).erase 1))) ?_
    refine GH_eff 7 kr kr kr ?_
    refine GL_append (i:=7) (ch:=[]) (t:=32) (tx:=32) (e:=9) (inf:=Tryz.t9) (s:=rv) (x:=.slice (some ⟨b18,0,none⟩) 1 1) (n:=L.length) (m:=1) (j:=8) (cs:=(strs L)) (news:=[.string t]) (g:=rg) (S:=(inG [(b18,.cells #[.string t] 9 (0,0))])) rfl rfl rfl rfl kr kr kr rfl rfl (.inl ⟨9,kr⟩) (fun ⟨_,h⟩=>by cases h) (fun _=>⟨9,kr⟩) kr kr kr rfl ho (SrcOf.slice _ _ _ _ Rd.lit (fun h=>by cases h)) (at_inG 0 rfl) rfl (strs_one (ts:=[t])) (by omega) (by show (L.length+1) * 16 ≤ 140737488355328; omega) (fun v19 g20 hO21=>?_)
    obtain ⟨a22, cap23, rfl, hcap24, hrd25⟩ := hO21.shape
    refine GH_back kr (fun w h=>(Sat.takeMid (K:=[_,_,_,_,_,_,_]) (A:=K) ((h.erase 8).erase 1))) ?_
    refine GH_more ([(b18,.cells #[.string t] 9 (0,0))]::[(b7,.cells #[.func (.func 48) #[] #[pt b1,pt b4],.func (.func 85) #[] #[pt b5,pt b6]] 91 (0,0))]::[(b6,.cells #[.string (ByteArray.mk #[108,111,103])] 9 (0,0))]::[(b5,.cells #[pt jb] 28 (0,0))]::[(b4,.cells #[.string (lineB t)] 9 (0,0))]::[(b2,.cells #[.string t] 9 (0,0))]::[(b1,.cells #[pt jb] 28 (0,0))]::g20::K) (fun w h=>(h.erase 7)) ?_
    refine GH_nil (ad:=⟨jb,0,none⟩) 8 rfl rfl rfl kr kr kr kr kr (fun w h=>(Sat.takeMid (K:=[_,_,_,_,_,_,_,_]) (A:=K) (h.erase 1))) ?_
    refine GH_p (fuel:=1) [(9,0)] (fun w h=>(Sat.takeMid (K:=[_,_,_,_,_,_,_,_]) (A:=K) (h.erase 1))) kr rfl ?_
    refine GH_eff 10 kr kr kr ?_
    refine GL_st (i:=10) (ch:=[]) (b:=jb) (off:=2) (v:=.slice a22 (L.length+1) cap23) (j:=1) ([(b18,.cells #[.string t] 9 (0,0))]::[(jb,.cells #[pt d,.string dir,.slice a22 (L.length+1) cap23,.int .i64 size,.bool (if (tryM (stApp dir (lineB t)) M).1 != 0 then down||((tryM (stApp dir (lineB t)) M).1 != 61) else down),.bool true] 83 (0,0))]::[(b7,.cells #[.func (.func 48) #[] #[pt b1,pt b4],.func (.func 85) #[] #[pt b5,pt b6]] 91 (0,0))]::[(b6,.cells #[.string (ByteArray.mk #[108,111,103])] 9 (0,0))]::[(b5,.cells #[pt jb] 28 (0,0))]::[(b4,.cells #[.string (lineB t)] 9 (0,0))]::[(b2,.cells #[.string t] 9 (0,0))]::[(b1,.cells #[pt jb] 28 (0,0))]::g20::(K++(s2.G d (tryM (stApp dir (lineB t)) M).2++H))) rfl rfl kr kr kr kr kr kr kr rfl rfl (Nat.le_of_ble_eq_true rfl) (fun _ _=>thaw0) kr ?_
    refine GH_back kr (fun w h=>(Sat.takeMid (K:=[_,_,_,_,_,_,_,_]) (A:=K) (h.erase 1))) ?_
    refine GH_done (E':=[⟨2,[],pt b1⟩,⟨6,[],pt b4⟩]) [2,6] kr kr ?_
    refine N_then ?_
    refine G_seq ?_
    refine G_regionH ([(b18,.cells #[.string t] 9 (0,0))]::[(b7,.cells #[.func (.func 48) #[] #[pt b1,pt b4],.func (.func 85) #[] #[pt b5,pt b6]] 91 (0,0))]::[(b6,.cells #[.string (ByteArray.mk #[108,111,103])] 9 (0,0))]::[(b5,.cells #[pt jb] 28 (0,0))]::[(b4,.cells #[.string (lineB t)] 9 (0,0))]::[(b2,.cells #[.string t] 9 (0,0))]::[(b1,.cells #[pt jb] 28 (0,0))]::g20::K) kr ?_
    refine GH_take' 0 kr (fun w h=>(Sat.takeMid (K:=[_,_,_,_,_,_,_,_]) (A:=K) (h.erase 1))) (GL_load (i:=0) (ch:=[]) (b:=b1) (off:=0) (v:=pt jb) rfl rfl kr kr kr kr kr (At.grp 6 0 rfl rfl) rfl (GL_yend kr rfl)) ?_
    refine GH_nil (ad:=⟨jb,0,none⟩) 1 rfl rfl rfl kr kr kr kr kr (fun w h=>(Sat.takeMid (K:=[_,_,_,_,_,_,_,_]) (A:=K) (h.erase 1))) ?_
    refine GH_p (fuel:=7) [(2,0)] (fun w h=>(Sat.takeMid (K:=[_,_,_,_,_,_,_,_]) (A:=K) (h.erase 1))) kr rfl ?_
    refine GH_take' 4 kr (fun w h=>(Sat.takeMid (K:=[_,_,_,_,_,_,_,_]) (A:=K) (h.erase 1))) (GL_load (i:=4) (ch:=[]) (b:=b4) (off:=0) (v:=.string (lineB t)) rfl rfl kr kr kr kr kr (At.grp 4 0 rfl rfl) rfl (GL_yend kr rfl)) ?_
    refine GH_pev (v:=.int .i64 ((lineB t).size : Int)) 5 rfl rfl kr kr kr kr kr (fun w h=>(Sat.takeMid (K:=[_,_,_,_,_,_,_,_]) (A:=K) (h.erase 1))) ?_
    refine GH_eff 3 kr kr kr ?_
    refine GL_load (i:=3) (ch:=[]) (b:=jb) (off:=3) (v:=.int .i64 size) rfl rfl kr kr kr kr kr (At.grp 1 0 rfl rfl) rfl ?_
    refine GH_back kr (fun w h=>(Sat.takeMid (K:=[_,_,_,_,_,_,_,_]) (A:=K) (h.erase 1))) ?_
    refine GH_p (fuel:=3) [(6,0)] (fun w h=>(Sat.takeMid (K:=[_,_,_,_,_,_,_,_]) (A:=K) (h.erase 1))) kr rfl ?_
    refine GH_wi 57 (size+((lineB t).size : Int)) (by omega) (by omega) kr ?_
    refine GH_nil (ad:=⟨jb,0,none⟩) 7 rfl rfl rfl kr kr kr kr kr (fun w h=>(Sat.takeMid (K:=[_,_,_,_,_,_,_,_]) (A:=K) (h.erase 1))) ?_
    refine GH_p (fuel:=1) [(8,0)] (fun w h=>(Sat.takeMid (K:=[_,_,_,_,_,_,_,_]) (A:=K) (h.erase 1))) kr rfl ?_
    refine GH_eff 9 kr kr kr ?_
    refine GL_st (i:=9) (ch:=[]) (b:=jb) (off:=3) (v:=.int .i64 (size+((lineB t).size : Int))) (j:=1) ([(b18,.cells #[.string t] 9 (0,0))]::[(jb,.cells #[pt d,.string dir,.slice a22 (L.length+1) cap23,.int .i64 (size+((lineB t).size : Int)),.bool (if (tryM (stApp dir (lineB t)) M).1 != 0 then down||((tryM (stApp dir (lineB t)) M).1 != 61) else down),.bool true] 83 (0,0))]::[(b7,.cells #[.func (.func 48) #[] #[pt b1,pt b4],.func (.func 85) #[] #[pt b5,pt b6]] 91 (0,0))]::[(b6,.cells #[.string (ByteArray.mk #[108,111,103])] 9 (0,0))]::[(b5,.cells #[pt jb] 28 (0,0))]::[(b4,.cells #[.string (lineB t)] 9 (0,0))]::[(b2,.cells #[.string t] 9 (0,0))]::[(b1,.cells #[pt jb] 28 (0,0))]::g20::(K++(s2.G d (tryM (stApp dir (lineB t)) M).2++H))) rfl rfl kr kr kr kr kr kr kr rfl rfl (Nat.le_of_ble_eq_true rfl) (fun _ _=>thaw0) kr ?_
    refine GH_back kr (fun w h=>(Sat.takeMid (K:=[_,_,_,_,_,_,_,_]) (A:=K) (h.erase 1))) ?_
    refine GH_done (E':=[]) [] kr kr ?_
    refine N_then ?_
    refine G_seq ?_
    refine G_pure (E':=[⟨4,[],.int .i64 0⟩]) [0] [4] rfl kr ?_
    refine N_then ?_
    refine G_ret ?_
    refine N_heap (H':=([(jb,.cells #[pt d,.string dir,.slice a22 (L.length+1) cap23,.int .i64 (size+((lineB t).size : Int)),.bool (if (tryM (stApp dir (lineB t)) M).1 != 0 then down||((tryM (stApp dir (lineB t)) M).1 != 61) else down),.bool true] 83 (0,0))]::g20::(K++(s2.G d (tryM (stApp dir (lineB t)) M).2++H)))) (fun w h=>(((((((h.erase 7).erase 6).erase 5).erase 4).erase 3).erase 2).erase 0)) ?_
    refine N_ret [.tmp 4] [.int .i64 0] rfl kr rfl ?_
    rw [add_ok hmn (show addSteps ⟨dir, L, size, down, true⟩ (lineB t) = (stApp dir (lineB t)) from rfl) hen]; exact ⟨_, _, _, rfl, (own_add hO21), hs2, by simp only [hen]; rfl⟩
theorem addFalse_ {s : DS} {M : DM} (hs : s.ok M) (hm : Small M) (K : List Grp) (jb d : Nat) (dir : ByteArray) (rv : Value) (rg : Grp) (L : List ByteArray) (size : Int) (down : Bool) (ho : Go.Sw.Own 9 1 rv rg L.length (strs L)) (hdir : dir.size ≤ 1000000) (hL : L.length ≤ 1000000) (hz : 0 ≤ size ∧ size ≤ 1000000000000) (t : ByteArray) (ht : t.size ≤ 100000000) (hm1 : Small (writeM M (pathJ dir logB) (lineB t)).2) (hm2 : Small (syncM (writeM M (pathJ dir logB) (lineB t)).2 (pathJ dir logB)).2) (W0 : World) (H : List Grp) : Tri Tryz.prog 17 #[pt jb, .string t] W0 ([(jb, .cells #[pt d, .string dir, rv, .int .i64 size, .bool down, .bool false] 83 (0, 0))] :: rg :: (K ++ (s.G d M ++ H))) (CallR (addM ⟨dir, L, size, down, false⟩ M t) jb d K H) := by
 have hls := lineB_size t
 refine Tri_of (args := [pt jb, .string t]) (n := 60) Tryz.func17 rfl rfl (Nat.le_of_ble_eq_true rfl) ?_
 refine G_seq ?_
 refine G_region ?_
 refine GL_box (i:=0) (ch:=[]) (v:=pt jb) rfl rfl kr kr kr kr (fun b1=>?_)
 refine GL_fin (E':=[⟨1,[],.string t⟩,⟨2,[],pt b1⟩]) [0] [1,2] rfl kr ?_
 refine N_then ?_
 refine G_seq ?_
 refine G_seq ?_
 refine G_region ?_
 refine GL_load (i:=0) (ch:=[]) (b:=b1) (off:=0) (v:=pt jb) rfl rfl kr kr kr kr kr (At.grp 0 0 rfl rfl) rfl ?_
 refine GL_p [0] kr (j:=2) rfl ?_
 refine GL_buildSlice (i:=2) (ch:=[]) (e:=9) (l:=[(0,.string t)]) (c:=[.string t]) rfl rfl kr kr kr kr kr (fun b2=>?_)
 refine GL_callQ (i:=3) (ch:=[]) (f:=45) (fst:=#[]) (caps:=#[]) (vs:=[pt jb,.slice (some ⟨b2,0,none⟩) 1 1]) (v:=.int .i64 (mayI [t] down)) rfl rfl rfl kr kr Tryz.func45 rfl rfl kr kr kr (fun _=>may_ (some ⟨b2,0,none⟩) 1 [t] (inG [(b2,.cells #[.string t] 9 (0,0))]) Rd.lit (by first | (show 1 ≤ 1000000000; omega) | omega) jb (pt d) rv (.int .i64 size) (.bool false) dir down _ _ (At.grp 2 0 rfl rfl) (at_inG 0 rfl)) ?_
 refine GL_fin (E':=[⟨1,[],.string t⟩,⟨2,[],pt b1⟩,⟨5,[],.int .i64 (mayI [t] down)⟩]) [0] [1,2,5] rfl kr ?_
 refine N_then ?_
 refine G_seq ?_
 refine G_pure (E':=[⟨1,[],.string t⟩,⟨2,[],pt b1⟩,⟨5,[],.int .i64 (mayI [t] down)⟩,⟨13,[],.bool ((mayI [t] down) != 0)⟩]) [0,0] [1,2,5,13] rfl kr ?_
 refine N_then ?_
 refine G_cond (b:=(mayI [t] down) != 0) kr (fun hc3=>?_) (fun hc3=>?_)
 ·
  have hmc := hc3
  refine G_seq ?_
  refine G_pure (E':=[⟨4,[],.int .i64 (mayI [t] down)⟩]) [0,0] [4] rfl kr ?_
  refine N_then ?_
  refine G_ret ?_
  refine N_then_ret ?_
  refine N_heap (H':=([(jb,.cells #[pt d,.string dir,rv,.int .i64 size,.bool down,.bool false] 83 (0,0))]::rg::(K++(s.G d M++H)))) (fun w h=>((h.erase 1).erase 0)) ?_
  refine N_ret [.tmp 4] [.int .i64 (mayI [t] down)] rfl kr rfl ?_
  rw [mayI_add hmc]; exact ⟨rv, rg, s, rfl, ho, hs, rfl⟩
 ·
  have hmn := Bool.eq_false_iff.1 hc3
  refine G_skip ?_
  refine N_then ?_
  refine G_seq ?_
  refine G_region ?_
  refine GL_p [0] kr (j:=1) rfl ?_
  refine GL_callQ (i:=1) (ch:=[]) (f:=46) (fst:=#[]) (caps:=#[]) (vs:=[.string t]) (v:=.string (lineB t)) rfl rfl rfl kr kr Tryz.func46 rfl rfl kr kr kr (fun _=>line_ _ (by omega) _ _) ?_
  refine GL_alloc (i:=2) (ch:=[]) (z:=.string (ByteArray.mk #[])) rfl rfl kr kr kr kr (fun b4=>?_)
  refine GL_st (i:=3) (ch:=[]) (b:=b4) (off:=0) (v:=.string (lineB t)) (j:=0) ([(b4,.cells #[.string (lineB t)] 9 (0,0))]::[(b2,.cells #[.string t] 9 (0,0))]::[(b1,.cells #[pt jb] 28 (0,0))]::[(jb,.cells #[pt d,.string dir,rv,.int .i64 size,.bool down,.bool false] 83 (0,0))]::rg::(K++(s.G d M++H))) rfl rfl kr kr kr kr kr kr kr rfl rfl (Nat.le_of_ble_eq_true rfl) (fun _ _=>thaw0) kr ?_
  refine GL_fin (E':=[⟨1,[],.string t⟩,⟨2,[],pt b1⟩,⟨6,[],pt b4⟩]) [] [1,2,6] rfl kr ?_
  refine N_then ?_
  refine G_seq ?_
  refine G_pure (E':=[⟨1,[],.string t⟩,⟨2,[],pt b1⟩,⟨6,[],pt b4⟩]) [0] [1,2,6] rfl kr ?_
  refine N_then ?_
  refine G_seq ?_
  refine G_seq ?_
  refine G_region ?_
  refine GL_load (i:=0) (ch:=[]) (b:=b1) (off:=0) (v:=pt jb) rfl rfl kr kr kr kr kr (At.grp 2 0 rfl rfl) rfl ?_
  refine GL_p [0,0] kr (j:=3) rfl ?_
  refine GL_load (i:=3) (ch:=[]) (b:=jb) (off:=5) (v:=.bool false) rfl rfl kr kr kr kr kr (At.grp 3 0 rfl rfl) rfl ?_
  refine GL_fin (E':=[⟨1,[],.string t⟩,⟨2,[],pt b1⟩,⟨6,[],pt b4⟩,⟨20,[],.bool false⟩]) [] [1,2,6,20] rfl kr ?_
  refine N_then ?_
  refine G_condf kr ?_
  refine G_regionH ([(b4,.cells #[.string (lineB t)] 9 (0,0))]::[(b2,.cells #[.string t] 9 (0,0))]::[(b1,.cells #[pt jb] 28 (0,0))]::K) kr ?_
  refine GH_take' 0 kr (fun w h=>(Sat.takeMid (K:=[_,_,_]) (A:=K) ((h.erase 4).erase 3))) (GL_load (i:=0) (ch:=[]) (b:=b1) (off:=0) (v:=pt jb) rfl rfl kr kr kr kr kr (At.grp 2 0 rfl rfl) rfl (GL_yend kr rfl)) ?_
  refine GH_p (fuel:=7) [(1,0)] (fun w h=>(Sat.takeMid (K:=[_,_,_]) (A:=K) ((h.erase 4).erase 3))) kr rfl ?_
  refine GH_take' 2 kr (fun w h=>(Sat.takeMid (K:=[_,_,_]) (A:=K) ((h.erase 4).erase 3))) (GL_load (i:=2) (ch:=[]) (b:=b1) (off:=0) (v:=pt jb) rfl rfl kr kr kr kr kr (At.grp 2 0 rfl rfl) rfl (GL_yend kr rfl)) ?_
  refine GH_take' 4 kr (fun w h=>(Sat.takeMid (K:=[_,_,_]) (A:=K) ((h.erase 4).erase 3))) (GL_load (i:=4) (ch:=[]) (b:=b1) (off:=0) (v:=pt jb) rfl rfl kr kr kr kr kr (At.grp 2 0 rfl rfl) rfl (GL_yend kr rfl)) ?_
  refine GH_p (fuel:=4) [(5,0)] (fun w h=>(Sat.takeMid (K:=[_,_,_]) (A:=K) ((h.erase 4).erase 3))) kr rfl ?_
  refine GH_eff 3 kr kr kr ?_
  refine GL_call (i:=3) (ch:=[]) (f:=49) (fst:=#[]) (caps:=#[]) (vs:=[pt jb,.string (ByteArray.mk #[108,111,103])]) rfl rfl rfl kr kr Tryz.func49 rfl rfl kr kr (chSure_of kr) (mkSync_ jb (ByteArray.mk #[108,111,103]) _ _) ?_
  rintro v H' ⟨b5, b6, rfl, rfl⟩
  refine GH_back kr (fun w h=>(Sat.takeMid (K:=[_,_,_]) (A:=K) ((((h.erase 6).erase 5).erase 1).erase 0))) ?_
  refine GH_more ([(b6,.cells #[.string (ByteArray.mk #[108,111,103])] 9 (0,0))]::[(b5,.cells #[pt jb] 28 (0,0))]::[(b4,.cells #[.string (lineB t)] 9 (0,0))]::[(b2,.cells #[.string t] 9 (0,0))]::[(b1,.cells #[pt jb] 28 (0,0))]::K) (fun w h=>((h.erase 1).erase 0)) ?_
  refine GH_eff 6 kr kr kr ?_
  refine GL_buildSlice (i:=6) (ch:=[]) (e:=91) (l:=[(0,.func (.func 50) #[] #[pt b1,pt b4]),(1,.func (.func 85) #[] #[pt b5,pt b6]),(2,.func (.func 51) #[pt jb] #[])]) (c:=[.func (.func 50) #[] #[pt b1,pt b4],.func (.func 85) #[] #[pt b5,pt b6],.func (.func 51) #[pt jb] #[]]) rfl rfl kr kr kr kr kr (fun b7=>?_)
  refine GH_back kr (fun w h=>(Sat.takeMid (K:=[_,_,_,_,_]) (A:=K) (((h.erase 7).erase 6).erase 0))) ?_
  refine GH_more ([(b7,.cells #[.func (.func 50) #[] #[pt b1,pt b4],.func (.func 85) #[] #[pt b5,pt b6],.func (.func 51) #[pt jb] #[]] 91 (0,0))]::[(b6,.cells #[.string (ByteArray.mk #[108,111,103])] 9 (0,0))]::[(b5,.cells #[pt jb] 28 (0,0))]::[(b4,.cells #[.string (lineB t)] 9 (0,0))]::[(b2,.cells #[.string t] 9 (0,0))]::[(b1,.cells #[pt jb] 28 (0,0))]::K) (fun w h=>(h.erase 0)) ?_
  refine GH_eff 7 kr kr kr ?_
  refine GL_heap rfl (H':=([(jb,.cells #[pt d,.string dir,rv,.int .i64 size,.bool down,.bool false] 83 (0,0))]::[(b7,.cells #[.func (.func 50) #[] #[pt b1,pt b4],.func (.func 85) #[] #[pt b5,pt b6],.func (.func 51) #[pt jb] #[]] 91 (0,0))]::[(b6,.cells #[.string (ByteArray.mk #[108,111,103])] 9 (0,0))]::[(b5,.cells #[pt jb] 28 (0,0))]::[(b4,.cells #[.string (lineB t)] 9 (0,0))]::[(b2,.cells #[.string t] 9 (0,0))]::[(b1,.cells #[pt jb] 28 (0,0))]::rg::(K++(s.G d M++H)))) (fun w h=>(h.front (j:=6) rfl)) ?_
  refine GL_call (i:=7) (ch:=[]) (f:=47) (fst:=#[]) (caps:=#[]) (vs:=[pt jb,.slice (some ⟨b7,0,none⟩) 3 3]) rfl rfl rfl kr kr Tryz.func47 rfl rfl kr kr (chSure_of kr) (tryWri hs dir (lineB t) (by rw [hls]; omega) hdir hm hm1 hm2 jb d b1 b4 b5 b6 b7 rv size down false ([[(b7,.cells #[.func (.func 50) #[] #[pt b1,pt b4],.func (.func 85) #[] #[pt b5,pt b6],.func (.func 51) #[pt jb] #[]] 91 (0,0))],[(b6,.cells #[.string (ByteArray.mk #[108,111,103])] 9 (0,0))],[(b5,.cells #[pt jb] 28 (0,0))],[(b4,.cells #[.string (lineB t)] 9 (0,0))],[(b2,.cells #[.string t] 9 (0,0))],[(b1,.cells #[pt jb] 28 (0,0))],rg]++K) _ H (At.grp 0 0 rfl rfl) (At.grp 5 0 rfl rfl) (At.grp 3 0 rfl rfl) (At.grp 2 0 rfl rfl) (At.grp 1 0 rfl rfl)) ?_
  rintro v H' ⟨rfl, s2, hs2, rfl⟩
  refine GH_back kr (fun w h=>(Sat.takeMid (K:=[_,_,_,_,_,_]) (A:=K) ((h.erase 7).erase 0))) ?_
  refine GH_p (fuel:=0) [(8,0)] (fun w h=>(Sat.takeMid (K:=[_,_,_,_,_,_]) (A:=K) ((h.erase 7).erase 0))) kr rfl ?_
  refine GH_done (E':=[⟨1,[],.string t⟩,⟨2,[],pt b1⟩,⟨6,[],pt b4⟩,⟨7,[],.int .i64 ((tryM (stWri dir (lineB t)) M).1)⟩]) [1,2,6,7] kr kr ?_
  refine N_then ?_
  refine G_seq ?_
  refine G_seq ?_
  refine G_pure (E':=[⟨1,[],.string t⟩,⟨2,[],pt b1⟩,⟨6,[],pt b4⟩,⟨7,[],.int .i64 ((tryM (stWri dir (lineB t)) M).1)⟩,⟨36,[],.bool (((tryM (stWri dir (lineB t)) M).1) != 0)⟩]) [0,0] [1,2,6,7,36] rfl kr ?_
  refine N_then ?_
  refine G_cond (b:=((tryM (stWri dir (lineB t)) M).1) != 0) kr (fun hc8=>?_) (fun hc8=>?_)
  ·
   have hec := hc8
   refine G_seq ?_
   refine G_pure (E':=[⟨4,[],.int .i64 ((tryM (stWri dir (lineB t)) M).1)⟩]) [0,0] [4] rfl kr ?_
   refine N_then ?_
   refine G_ret ?_
   refine N_then_ret ?_
   refine N_heap (H':=([(jb,.cells #[pt d,.string dir,rv,.int .i64 size,.bool (if (tryM (stWri dir (lineB t)) M).1 != 0 then down||((tryM (stWri dir (lineB t)) M).1 != 61) else down),.bool false] 83 (0,0))]::rg::(K++(s2.G d (tryM (stWri dir (lineB t)) M).2++H)))) (fun w h=>((((((h.erase 6).erase 5).erase 4).erase 3).erase 2).erase 1)) ?_
   refine N_ret [.tmp 4] [.int .i64 ((tryM (stWri dir (lineB t)) M).1)] rfl kr rfl ?_
   rw [add_err hmn (show addSteps ⟨dir, L, size, down, false⟩ (lineB t) = (stWri dir (lineB t)) from rfl) hec]; exact ⟨rv, rg, _, rfl, ho, hs2, by simp only [hec, if_true]; rfl⟩
  ·
   have hen := Bool.eq_false_iff.1 hc8
   refine G_skip ?_
   refine N_then ?_
   refine G_seq ?_
   refine G_region ?_
   refine GL_load (i:=0) (ch:=[]) (b:=b1) (off:=0) (v:=pt jb) rfl rfl kr kr kr kr kr (At.grp 6 0 rfl rfl) rfl ?_
   refine GL_p [0,0] kr (j:=3) rfl ?_
   refine GL_st (i:=3) (ch:=[]) (b:=jb) (off:=5) (v:=.bool true) (j:=0) ([(jb,.cells #[pt d,.string dir,rv,.int .i64 size,.bool (if (tryM (stWri dir (lineB t)) M).1 != 0 then down||((tryM (stWri dir (lineB t)) M).1 != 61) else down),.bool true] 83 (0,0))]::[(b7,.cells #[.func (.func 50) #[] #[pt b1,pt b4],.func (.func 85) #[] #[pt b5,pt b6],.func (.func 51) #[pt jb] #[]] 91 (0,0))]::[(b6,.cells #[.string (ByteArray.mk #[108,111,103])] 9 (0,0))]::[(b5,.cells #[pt jb] 28 (0,0))]::[(b4,.cells #[.string (lineB t)] 9 (0,0))]::[(b2,.cells #[.string t] 9 (0,0))]::[(b1,.cells #[pt jb] 28 (0,0))]::rg::(K++(s2.G d (tryM (stWri dir (lineB t)) M).2++H))) rfl rfl kr kr kr kr kr kr kr rfl rfl (Nat.le_of_ble_eq_true rfl) (fun _ _=>thaw0) kr ?_
   refine GL_fin (E':=[⟨1,[],.string t⟩,⟨2,[],pt b1⟩,⟨6,[],pt b4⟩]) [] [1,2,6] rfl kr ?_
   refine N_then ?_
   refine G_seq ?_
   refine G_regionH ([(b7,.cells #[.func (.func 50) #[] #[pt b1,pt b4],.func (.func 85) #[] #[pt b5,pt b6],.func (.func 51) #[pt jb] #[]] 91 (0,0))]::[(b6,.cells #[.string (ByteArray.mk #[108,111,103])] 9 (0,0))]::[(b5,.cells #[pt jb] 28 (0,0))]::[(b4,.cells #[.string (lineB t)] 9 (0,0))]::[(b2,.cells #[.string t] 9 (0,0))]::[(b1,.cells #[pt jb] 28 (0,0))]::K) kr ?_
   refine GH_take' 0 kr (fun w h=>(Sat.takeMid (K:=[_,_,_,_,_,_]) (A:=K) ((h.erase 7).erase 0))) (GL_load (i:=0) (ch:=[]) (b:=b1) (off:=0) (v:=pt jb) rfl rfl kr kr kr kr kr (At.grp 5 0 rfl rfl) rfl (GL_yend kr rfl)) ?_
   refine GH_take' 1 kr (fun w h=>(Sat.takeMid (K:=[_,_,_,_,_,_]) (A:=K) ((h.erase 7).erase 0))) (GL_load (i:=1) (ch:=[]) (b:=b1) (off:=0) (v:=pt jb) rfl rfl kr kr kr kr kr (At.grp 5 0 rfl rfl) rfl (GL_yend kr rfl)) ?_
   refine GH_nil (ad:=⟨jb,0,none⟩) 2 rfl rfl rfl kr kr kr kr kr (fun w h=>(Sat.takeMid (K:=[_,_,_,_,_,_]) (A:=K) ((h.erase 7).erase 0))) ?_
   refine GH_p (fuel:=6) [(3,0),(5,0)] (fun w h=>(Sat.takeMid (K:=[_,_,_,_,_,_]) (A:=K) ((h.erase 7).erase 0))) kr rfl ?_
   refine GH_eff2 4 6 kr kr kr kr kr ?_ ?_
   ·
    refine GL_load (i:=4) (ch:=[]) (b:=jb) (off:=2) (v:=rv) rfl rfl kr kr kr kr kr (At.grp 0 0 rfl rfl) rfl ?_
    refine GH_back kr (fun w h=>(Sat.takeMid (K:=[_,_,_,_,_,_]) (A:=K) ((h.erase 7).erase 0))) ?_
    refine GH_eff 6 kr kr kr ?_
    refine GL_buildSlice (i:=6) (ch:=[]) (e:=9) (l:=[(0,.string t)]) (c:=[.string t]) rfl rfl kr kr kr kr kr (fun b9=>?_)
    refine GH_back kr (fun w h=>(Sat.takeMid (K:=[_,_,_,_,_,_]) (A:=K) (((h.erase 8).erase 1).erase 0))) ?_
    refine GH_more ([(b9,.cells #[.string t] 9 (0,0))]::[(b7,.cells #[.func (.func 50) #[] #[pt b1,pt b4],.func (.func 85) #[] #[pt b5,pt b6],.func (.func 51) #[pt jb] #[]] 91 (0,0))]::[(b6,.cells #[.string (ByteArray.mk #[108,111,103])] 9 (0,0))]::[(b5,.cells #[pt jb] 28 (0,0))]::[(b4,.cells #[.string (lineB t)] 9 (0,0))]::[(b2,.cells #[.string t] 9 (0,0))]::[(b1,.cells #[pt jb] 28 (0,0))]::K) (fun w h=>(h.erase 0)) ?_
    refine GH_eff 7 kr kr kr ?_
    refine GL_append (i:=7) (ch:=[]) (t:=32) (tx:=32) (e:=9) (inf:=Tryz.t9) (s:=rv) (x:=.slice (some ⟨b9,0,none⟩) 1 1) (n:=L.length) (m:=1) (j:=8) (cs:=(strs L)) (news:=[.string t]) (g:=rg) (S:=(inG [(b9,.cells #[.string t] 9 (0,0))])) rfl rfl rfl rfl kr kr kr rfl rfl (.inl ⟨9,kr⟩) (fun ⟨_,h⟩=>by cases h) (fun _=>⟨9,kr⟩) kr kr kr rfl ho (SrcOf.slice _ _ _ _ Rd.lit (fun h=>by cases h)) (at_inG 0 rfl) rfl (strs_one (ts:=[t])) (by omega) (by show (L.length+1) * 16 ≤ 140737488355328; omega) (fun v10 g11 hO12=>?_)
    obtain ⟨a13, cap14, rfl, hcap15, hrd16⟩ := hO12.shape
    refine GH_back kr (fun w h=>(Sat.takeMid (K:=[_,_,_,_,_,_,_]) (A:=K) ((h.erase 8).erase 1))) ?_
    refine GH_more ([(b9,.cells #[.string t] 9 (0,0))]::[(b7,.cells #[.func (.func 50) #[] #[pt b1,pt b4],.func (.func 85) #[] #[pt b5,pt b6],.func (.func 51) #[pt jb] #[]] 91 (0,0))]::[(b6,.cells #[.string (ByteArray.mk #[108,111,103])] 9 (0,0))]::[(b5,.cells #[pt jb] 28 (0,0))]::[(b4,.cells #[.string (lineB t)] 9 (0,0))]::[(b2,.cells #[.string t] 9 (0,0))]::[(b1,.cells #[pt jb] 28 (0,0))]::g11::K) (fun w h=>(h.erase 7)) ?_
    refine GH_nil (ad:=⟨jb,0,none⟩) 8 rfl rfl rfl kr kr kr kr kr (fun w h=>(Sat.takeMid (K:=[_,_,_,_,_,_,_,_]) (A:=K) (h.erase 1))) ?_
    refine GH_p (fuel:=1) [(9,0)] (fun w h=>(Sat.takeMid (K:=[_,_,_,_,_,_,_,_]) (A:=K) (h.erase 1))) kr rfl ?_
    refine GH_eff 10 kr kr kr ?_
    refine GL_st (i:=10) (ch:=[]) (b:=jb) (off:=2) (v:=.slice a13 (L.length+1) cap14) (j:=1) ([(b9,.cells #[.string t] 9 (0,0))]::[(jb,.cells #[pt d,.string dir,.slice a13 (L.length+1) cap14,.int .i64 size,.bool (if (tryM (stWri dir (lineB t)) M).1 != 0 then down||((tryM (stWri dir (lineB t)) M).1 != 61) else down),.bool true] 83 (0,0))]::[(b7,.cells #[.func (.func 50) #[] #[pt b1,pt b4],.func (.func 85) #[] #[pt b5,pt b6],.func (.func 51) #[pt jb] #[]] 91 (0,0))]::[(b6,.cells #[.string (ByteArray.mk #[108,111,103])] 9 (0,0))]::[(b5,.cells #[pt jb] 28 (0,0))]::[(b4,.cells #[.string (lineB t)] 9 (0,0))]::[(b2,.cells #[.string t] 9 (0,0))]::[(b1,.cells #[pt jb] 28 (0,0))]::g11::(K++(s2.G d (tryM (stWri dir (lineB t)) M).2++H))) rfl rfl kr kr kr kr kr kr kr rfl rfl (Nat.le_of_ble_eq_true rfl) (fun _ _=>thaw0) kr ?_
    refine GH_back kr (fun w h=>(Sat.takeMid (K:=[_,_,_,_,_,_,_,_]) (A:=K) (h.erase 1))) ?_
    refine GH_done (E':=[⟨2,[],pt b1⟩,⟨6,[],pt b4⟩]) [2,6] kr kr ?_
    refine N_then ?_
    refine G_seq ?_
    refine G_regionH ([(b9,.cells #[.string t] 9 (0,0))]::[(b7,.cells #[.func (.func 50) #[] #[pt b1,pt b4],.func (.func 85) #[] #[pt b5,pt b6],.func (.func 51) #[pt jb] #[]] 91 (0,0))]::[(b6,.cells #[.string (ByteArray.mk #[108,111,103])] 9 (0,0))]::[(b5,.cells #[pt jb] 28 (0,0))]::[(b4,.cells #[.string (lineB t)] 9 (0,0))]::[(b2,.cells #[.string t] 9 (0,0))]::[(b1,.cells #[pt jb] 28 (0,0))]::g11::K) kr ?_
    refine GH_take' 0 kr (fun w h=>(Sat.takeMid (K:=[_,_,_,_,_,_,_,_]) (A:=K) (h.erase 1))) (GL_load (i:=0) (ch:=[]) (b:=b1) (off:=0) (v:=pt jb) rfl rfl kr kr kr kr kr (At.grp 6 0 rfl rfl) rfl (GL_yend kr rfl)) ?_
    refine GH_nil (ad:=⟨jb,0,none⟩) 1 rfl rfl rfl kr kr kr kr kr (fun w h=>(Sat.takeMid (K:=[_,_,_,_,_,_,_,_]) (A:=K) (h.erase 1))) ?_
    refine GH_p (fuel:=7) [(2,0)] (fun w h=>(Sat.takeMid (K:=[_,_,_,_,_,_,_,_]) (A:=K) (h.erase 1))) kr rfl ?_
    refine GH_take' 4 kr (fun w h=>(Sat.takeMid (K:=[_,_,_,_,_,_,_,_]) (A:=K) (h.erase 1))) (GL_load (i:=4) (ch:=[]) (b:=b4) (off:=0) (v:=.string (lineB t)) rfl rfl kr kr kr kr kr (At.grp 4 0 rfl rfl) rfl (GL_yend kr rfl)) ?_
    refine GH_pev (v:=.int .i64 ((lineB t).size : Int)) 5 rfl rfl kr kr kr kr kr (fun w h=>(Sat.takeMid (K:=[_,_,_,_,_,_,_,_]) (A:=K) (h.erase 1))) ?_
    refine GH_eff 3 kr kr kr ?_
    refine GL_load (i:=3) (ch:=[]) (b:=jb) (off:=3) (v:=.int .i64 size) rfl rfl kr kr kr kr kr (At.grp 1 0 rfl rfl) rfl ?_
    refine GH_back kr (fun w h=>(Sat.takeMid (K:=[_,_,_,_,_,_,_,_]) (A:=K) (h.erase 1))) ?_
    refine GH_p (fuel:=3) [(6,0)] (fun w h=>(Sat.takeMid (K:=[_,_,_,_,_,_,_,_]) (A:=K) (h.erase 1))) kr rfl ?_
    refine GH_wi 57 (size+((lineB t).size : Int)) (by omega) (by omega) kr ?_
    refine GH_nil (ad:=⟨jb,0,none⟩) 7 rfl rfl rfl kr kr kr kr kr (fun w h=>(Sat.takeMid (K:=[_,_,_,_,_,_,_,_]) (A:=K) (h.erase 1))) ?_
    refine GH_p (fuel:=1) [(8,0)] (fun w h=>(Sat.takeMid (K:=[_,_,_,_,_,_,_,_]) (A:=K) (h.erase 1))) kr rfl ?_
    refine GH_eff 9 kr kr kr ?_
    refine GL_st (i:=9) (ch:=[]) (b:=jb) (off:=3) (v:=.int .i64 (size+((lineB t).size : Int))) (j:=1) ([(b9,.cells #[.string t] 9 (0,0))]::[(jb,.cells #[pt d,.string dir,.slice a13 (L.length+1) cap14,.int .i64 (size+((lineB t).size : Int)),.bool (if (tryM (stWri dir (lineB t)) M).1 != 0 then down||((tryM (stWri dir (lineB t)) M).1 != 61) else down),.bool true] 83 (0,0))]::[(b7,.cells #[.func (.func 50) #[] #[pt b1,pt b4],.func (.func 85) #[] #[pt b5,pt b6],.func (.func 51) #[pt jb] #[]] 91 (0,0))]::[(b6,.cells #[.string (ByteArray.mk #[108,111,103])] 9 (0,0))]::[(b5,.cells #[pt jb] 28 (0,0))]::[(b4,.cells #[.string (lineB t)] 9 (0,0))]::[(b2,.cells #[.string t] 9 (0,0))]::[(b1,.cells #[pt jb] 28 (0,0))]::g11::(K++(s2.G d (tryM (stWri dir (lineB t)) M).2++H))) rfl rfl kr kr kr kr kr kr kr rfl rfl (Nat.le_of_ble_eq_true rfl) (fun _ _=>thaw0) kr ?_
    refine GH_back kr (fun w h=>(Sat.takeMid (K:=[_,_,_,_,_,_,_,_]) (A:=K) (h.erase 1))) ?_
    refine GH_done (E':=[]) [] kr kr ?_
    refine N_then ?_
    refine G_seq ?_
    refine G_pure (E':=[⟨4,[],.int .i64 0⟩]) [0] [4] rfl kr ?_
    refine N_then ?_
    refine G_ret ?_
    refine N_heap (H':=([(jb,.cells #[pt d,.string dir,.slice a13 (L.length+1) cap14,.int .i64 (size+((lineB t).size : Int)),.bool (if (tryM (stWri dir (lineB t)) M).1 != 0 then down||((tryM (stWri dir (lineB t)) M).1 != 61) else down),.bool true] 83 (0,0))]::g11::(K++(s2.G d (tryM (stWri dir (lineB t)) M).2++H)))) (fun w h=>(((((((h.erase 7).erase 6).erase 5).erase 4).erase 3).erase 2).erase 0)) ?_
    refine N_ret [.tmp 4] [.int .i64 0] rfl kr rfl ?_
    rw [add_ok hmn (show addSteps ⟨dir, L, size, down, false⟩ (lineB t) = (stWri dir (lineB t)) from rfl) hen]; exact ⟨_, _, _, rfl, (own_add hO12), hs2, by simp only [hen]; rfl⟩
   ·
    refine GL_buildSlice (i:=6) (ch:=[]) (e:=9) (l:=[(0,.string t)]) (c:=[.string t]) rfl rfl kr kr kr kr kr (fun b18=>?_)
    refine GH_back kr (fun w h=>(Sat.takeMid (K:=[_,_,_,_,_,_]) (A:=K) (((h.erase 8).erase 1).erase 0))) ?_
    refine GH_more ([(b18,.cells #[.string t] 9 (0,0))]::[(b7,.cells #[.func (.func 50) #[] #[pt b1,pt b4],.func (.func 85) #[] #[pt b5,pt b6],.func (.func 51) #[pt jb] #[]] 91 (0,0))]::[(b6,.cells #[.string (ByteArray.mk #[108,111,103])] 9 (0,0))]::[(b5,.cells #[pt jb] 28 (0,0))]::[(b4,.cells #[.string (lineB t)] 9 (0,0))]::[(b2,.cells #[.string t] 9 (0,0))]::[(b1,.cells #[pt jb] 28 (0,0))]::K) (fun w h=>(h.erase 0)) ?_
    refine GH_eff 4 kr kr kr ?_
    refine GL_load (i:=4) (ch:=[]) (b:=jb) (off:=2) (v:=rv) rfl rfl kr kr kr kr kr (At.grp 1 0 rfl rfl) rfl ?_
    refine GH_back kr (fun w h=>(Sat.takeMid (K:=[_,_,_,_,_,_,_]) (A:=K) ((h.erase 8).erase 1))) ?_
    refine GH_eff 7 kr kr kr ?_
    refine GL_append (i:=7) (ch:=[]) (t:=32) (tx:=32) (e:=9) (inf:=Tryz.t9) (s:=rv) (x:=.slice (some ⟨b18,0,none⟩) 1 1) (n:=L.length) (m:=1) (j:=8) (cs:=(strs L)) (news:=[.string t]) (g:=rg) (S:=(inG [(b18,.cells #[.string t] 9 (0,0))])) rfl rfl rfl rfl kr kr kr rfl rfl (.inl ⟨9,kr⟩) (fun ⟨_,h⟩=>by cases h) (fun _=>⟨9,kr⟩) kr kr kr rfl ho (SrcOf.slice _ _ _ _ Rd.lit (fun h=>by cases h)) (at_inG 0 rfl) rfl (strs_one (ts:=[t])) (by omega) (by show (L.length+1) * 16 ≤ 140737488355328; omega) (fun v19 g20 hO21=>?_)
    obtain ⟨a22, cap23, rfl, hcap24, hrd25⟩ := hO21.shape
    refine GH_back kr (fun w h=>(Sat.takeMid (K:=[_,_,_,_,_,_,_]) (A:=K) ((h.erase 8).erase 1))) ?_
    refine GH_more ([(b18,.cells #[.string t] 9 (0,0))]::[(b7,.cells #[.func (.func 50) #[] #[pt b1,pt b4],.func (.func 85) #[] #[pt b5,pt b6],.func (.func 51) #[pt jb] #[]] 91 (0,0))]::[(b6,.cells #[.string (ByteArray.mk #[108,111,103])] 9 (0,0))]::[(b5,.cells #[pt jb] 28 (0,0))]::[(b4,.cells #[.string (lineB t)] 9 (0,0))]::[(b2,.cells #[.string t] 9 (0,0))]::[(b1,.cells #[pt jb] 28 (0,0))]::g20::K) (fun w h=>(h.erase 7)) ?_
    refine GH_nil (ad:=⟨jb,0,none⟩) 8 rfl rfl rfl kr kr kr kr kr (fun w h=>(Sat.takeMid (K:=[_,_,_,_,_,_,_,_]) (A:=K) (h.erase 1))) ?_
    refine GH_p (fuel:=1) [(9,0)] (fun w h=>(Sat.takeMid (K:=[_,_,_,_,_,_,_,_]) (A:=K) (h.erase 1))) kr rfl ?_
    refine GH_eff 10 kr kr kr ?_
    refine GL_st (i:=10) (ch:=[]) (b:=jb) (off:=2) (v:=.slice a22 (L.length+1) cap23) (j:=1) ([(b18,.cells #[.string t] 9 (0,0))]::[(jb,.cells #[pt d,.string dir,.slice a22 (L.length+1) cap23,.int .i64 size,.bool (if (tryM (stWri dir (lineB t)) M).1 != 0 then down||((tryM (stWri dir (lineB t)) M).1 != 61) else down),.bool true] 83 (0,0))]::[(b7,.cells #[.func (.func 50) #[] #[pt b1,pt b4],.func (.func 85) #[] #[pt b5,pt b6],.func (.func 51) #[pt jb] #[]] 91 (0,0))]::[(b6,.cells #[.string (ByteArray.mk #[108,111,103])] 9 (0,0))]::[(b5,.cells #[pt jb] 28 (0,0))]::[(b4,.cells #[.string (lineB t)] 9 (0,0))]::[(b2,.cells #[.string t] 9 (0,0))]::[(b1,.cells #[pt jb] 28 (0,0))]::g20::(K++(s2.G d (tryM (stWri dir (lineB t)) M).2++H))) rfl rfl kr kr kr kr kr kr kr rfl rfl (Nat.le_of_ble_eq_true rfl) (fun _ _=>thaw0) kr ?_
    refine GH_back kr (fun w h=>(Sat.takeMid (K:=[_,_,_,_,_,_,_,_]) (A:=K) (h.erase 1))) ?_
    refine GH_done (E':=[⟨2,[],pt b1⟩,⟨6,[],pt b4⟩]) [2,6] kr kr ?_
    refine N_then ?_
    refine G_seq ?_
    refine G_regionH ([(b18,.cells #[.string t] 9 (0,0))]::[(b7,.cells #[.func (.func 50) #[] #[pt b1,pt b4],.func (.func 85) #[] #[pt b5,pt b6],.func (.func 51) #[pt jb] #[]] 91 (0,0))]::[(b6,.cells #[.string (ByteArray.mk #[108,111,103])] 9 (0,0))]::[(b5,.cells #[pt jb] 28 (0,0))]::[(b4,.cells #[.string (lineB t)] 9 (0,0))]::[(b2,.cells #[.string t] 9 (0,0))]::[(b1,.cells #[pt jb] 28 (0,0))]::g20::K) kr ?_
    refine GH_take' 0 kr (fun w h=>(Sat.takeMid (K:=[_,_,_,_,_,_,_,_]) (A:=K) (h.erase 1))) (GL_load (i:=0) (ch:=[]) (b:=b1) (off:=0) (v:=pt jb) rfl rfl kr kr kr kr kr (At.grp 6 0 rfl rfl) rfl (GL_yend kr rfl)) ?_
    refine GH_nil (ad:=⟨jb,0,none⟩) 1 rfl rfl rfl kr kr kr kr kr (fun w h=>(Sat.takeMid (K:=[_,_,_,_,_,_,_,_]) (A:=K) (h.erase 1))) ?_
    refine GH_p (fuel:=7) [(2,0)] (fun w h=>(Sat.takeMid (K:=[_,_,_,_,_,_,_,_]) (A:=K) (h.erase 1))) kr rfl ?_
    refine GH_take' 4 kr (fun w h=>(Sat.takeMid (K:=[_,_,_,_,_,_,_,_]) (A:=K) (h.erase 1))) (GL_load (i:=4) (ch:=[]) (b:=b4) (off:=0) (v:=.string (lineB t)) rfl rfl kr kr kr kr kr (At.grp 4 0 rfl rfl) rfl (GL_yend kr rfl)) ?_
    refine GH_pev (v:=.int .i64 ((lineB t).size : Int)) 5 rfl rfl kr kr kr kr kr (fun w h=>(Sat.takeMid (K:=[_,_,_,_,_,_,_,_]) (A:=K) (h.erase 1))) ?_
    refine GH_eff 3 kr kr kr ?_
    refine GL_load (i:=3) (ch:=[]) (b:=jb) (off:=3) (v:=.int .i64 size) rfl rfl kr kr kr kr kr (At.grp 1 0 rfl rfl) rfl ?_
    refine GH_back kr (fun w h=>(Sat.takeMid (K:=[_,_,_,_,_,_,_,_]) (A:=K) (h.erase 1))) ?_
    refine GH_p (fuel:=3) [(6,0)] (fun w h=>(Sat.takeMid (K:=[_,_,_,_,_,_,_,_]) (A:=K) (h.erase 1))) kr rfl ?_
    refine GH_wi 57 (size+((lineB t).size : Int)) (by omega) (by omega) kr ?_
    refine GH_nil (ad:=⟨jb,0,none⟩) 7 rfl rfl rfl kr kr kr kr kr (fun w h=>(Sat.takeMid (K:=[_,_,_,_,_,_,_,_]) (A:=K) (h.erase 1))) ?_
    refine GH_p (fuel:=1) [(8,0)] (fun w h=>(Sat.takeMid (K:=[_,_,_,_,_,_,_,_]) (A:=K) (h.erase 1))) kr rfl ?_
    refine GH_eff 9 kr kr kr ?_
    refine GL_st (i:=9) (ch:=[]) (b:=jb) (off:=3) (v:=.int .i64 (size+((lineB t).size : Int))) (j:=1) ([(b18,.cells #[.string t] 9 (0,0))]::[(jb,.cells #[pt d,.string dir,.slice a22 (L.length+1) cap23,.int .i64 (size+((lineB t).size : Int)),.bool (if (tryM (stWri dir (lineB t)) M).1 != 0 then down||((tryM (stWri dir (lineB t)) M).1 != 61) else down),.bool true] 83 (0,0))]::[(b7,.cells #[.func (.func 50) #[] #[pt b1,pt b4],.func (.func 85) #[] #[pt b5,pt b6],.func (.func 51) #[pt jb] #[]] 91 (0,0))]::[(b6,.cells #[.string (ByteArray.mk #[108,111,103])] 9 (0,0))]::[(b5,.cells #[pt jb] 28 (0,0))]::[(b4,.cells #[.string (lineB t)] 9 (0,0))]::[(b2,.cells #[.string t] 9 (0,0))]::[(b1,.cells #[pt jb] 28 (0,0))]::g20::(K++(s2.G d (tryM (stWri dir (lineB t)) M).2++H))) rfl rfl kr kr kr kr kr kr kr rfl rfl (Nat.le_of_ble_eq_true rfl) (fun _ _=>thaw0) kr ?_
    refine GH_back kr (fun w h=>(Sat.takeMid (K:=[_,_,_,_,_,_,_,_]) (A:=K) (h.erase 1))) ?_
    refine GH_done (E':=[]) [] kr kr ?_
    refine N_then ?_
    refine G_seq ?_
    refine G_pure (E':=[⟨4,[],.int .i64 0⟩]) [0] [4] rfl kr ?_
    refine N_then ?_
    refine G_ret ?_
    refine N_heap (H':=([(jb,.cells #[pt d,.string dir,.slice a22 (L.length+1) cap23,.int .i64 (size+((lineB t).size : Int)),.bool (if (tryM (stWri dir (lineB t)) M).1 != 0 then down||((tryM (stWri dir (lineB t)) M).1 != 61) else down),.bool true] 83 (0,0))]::g20::(K++(s2.G d (tryM (stWri dir (lineB t)) M).2++H)))) (fun w h=>(((((((h.erase 7).erase 6).erase 5).erase 4).erase 3).erase 2).erase 0)) ?_
    refine N_ret [.tmp 4] [.int .i64 0] rfl kr rfl ?_
    rw [add_ok hmn (show addSteps ⟨dir, L, size, down, false⟩ (lineB t) = (stWri dir (lineB t)) from rfl) hen]; exact ⟨_, _, _, rfl, (own_add hO21), hs2, by simp only [hen]; rfl⟩
theorem repTrue_ {s : DS} {M : DM} (hs : s.ok M) (hm : Small M) (K : List Grp) (jb d : Nat) (dir : ByteArray) (rv : Value) (rg : Grp) (L : List ByteArray) (size : Int) (down : Bool) (ho : Go.Sw.Own 9 1 rv rg L.length (strs L)) (hdir : dir.size ≤ 1000000) (hL : L.length ≤ 1000000) (hz : 0 ≤ size ∧ size ≤ 1000000000000) (a : Option Addr) (c : Nat) (ts : List ByteArray) (S : Nat → Obj → Prop) (hrd : Rd S a (strs ts)) (hts : ts.length ≤ 1000000) (hn : a = none → ts.length = 0) (hlb : (linesB ts).size ≤ 1000000000) (hm1 : Small (writeM M (pathJ dir newB) (linesB ts)).2) (hm2 : Small (syncM (writeM M (pathJ dir newB) (linesB ts)).2 (pathJ dir newB)).2) (hm3 : Small (renameM (syncM (writeM M (pathJ dir newB) (linesB ts)).2 (pathJ dir newB)).2 (pathJ dir newB) (pathJ dir logB)).2) (W0 : World) (H : List Grp) (hS : ∀ y o, S y o → At W0 (rg :: K) y o) : Tri Tryz.prog 18 #[pt jb, .slice a ts.length c] W0 ([(jb, .cells #[pt d, .string dir, rv, .int .i64 size, .bool down, .bool true] 83 (0, 0))] :: rg :: (K ++ (s.G d M ++ H))) (CallR (replaceM ⟨dir, L, size, down, true⟩ M ts) jb d K H) := by
 refine Tri_of (args := [pt jb, .slice a ts.length c]) (n := 50) Tryz.func18 rfl rfl (Nat.le_of_ble_eq_true rfl) ?_
 refine G_seq ?_
 refine G_region ?_
 refine GL_box (i:=0) (ch:=[]) (v:=pt jb) rfl rfl kr kr kr kr (fun b1=>?_)
 refine GL_fin (E':=[⟨1,[],.slice a ts.length c⟩,⟨2,[],pt b1⟩]) [0] [1,2] rfl kr ?_
 refine N_then ?_
 refine G_seq ?_
 refine G_seq ?_
 refine G_region ?_
 refine GL_load (i:=0) (ch:=[]) (b:=b1) (off:=0) (v:=pt jb) rfl rfl kr kr kr kr kr (At.grp 0 0 rfl rfl) rfl ?_
 refine GL_p [0] kr (j:=2) rfl ?_
 refine GL_callQ (i:=2) (ch:=[]) (f:=45) (fst:=#[]) (caps:=#[]) (vs:=[pt jb,.slice a ts.length c]) (v:=.int .i64 (mayI ts down)) rfl rfl rfl kr kr Tryz.func45 rfl rfl kr kr kr (fun _=>may_ a c ts S hrd (by first | (show 1 ≤ 1000000000; omega) | omega) jb (pt d) rv (.int .i64 size) (.bool true) dir down _ _ (At.grp 1 0 rfl rfl) (fun y o h=>At.sub (hS y o h) (fun q hq=>by simp only [List.flatten_cons,List.flatten_append,List.mem_append] at hq ⊢; rcases hq with hq | hq <;> simp [hq]))) ?_
 refine GL_fin (E':=[⟨1,[],.slice a ts.length c⟩,⟨2,[],pt b1⟩,⟨5,[],.int .i64 (mayI ts down)⟩]) [0] [1,2,5] rfl kr ?_
 refine N_then ?_
 refine G_seq ?_
 refine G_pure (E':=[⟨1,[],.slice a ts.length c⟩,⟨2,[],pt b1⟩,⟨5,[],.int .i64 (mayI ts down)⟩,⟨14,[],.bool ((mayI ts down) != 0)⟩]) [0,0] [1,2,5,14] rfl kr ?_
 refine N_then ?_
 refine G_cond (b:=(mayI ts down) != 0) kr (fun hc2=>?_) (fun hc2=>?_)
 ·
  have hmc := hc2
  refine G_seq ?_
  refine G_pure (E':=[⟨4,[],.int .i64 (mayI ts down)⟩]) [0,0] [4] rfl kr ?_
  refine N_then ?_
  refine G_ret ?_
  refine N_then_ret ?_
  refine N_heap (H':=([(jb,.cells #[pt d,.string dir,rv,.int .i64 size,.bool down,.bool true] 83 (0,0))]::rg::(K++(s.G d M++H)))) (fun w h=>(h.erase 0)) ?_
  refine N_ret [.tmp 4] [.int .i64 (mayI ts down)] rfl kr rfl ?_
  rw [mayI_rep hmc]; exact ⟨rv, rg, s, rfl, ho, hs, rfl⟩
 ·
  have hmn := Bool.eq_false_iff.1 hc2
  refine G_skip ?_
  refine N_then ?_
  refine G_seq ?_
  refine G_region ?_
  refine GL_alloc (i:=0) (ch:=[]) (z:=.agg #[.pointer none,.slice none 0 0]) rfl rfl kr kr kr kr (fun b3=>?_)
  refine GL_fin (E':=[⟨1,[],.slice a ts.length c⟩,⟨2,[],pt b1⟩,⟨6,[],pt b3⟩]) [] [1,2,6] rfl kr ?_
  refine N_then ?_
  refine G_seq ?_
  refine G_seq ?_
  refine G_pure (E':=[⟨1,[],.slice a ts.length c⟩,⟨2,[],pt b1⟩,⟨6,[],pt b3⟩,⟨16,[],.slice a ts.length c⟩,⟨17,[],.int .i64 ((ts.length : Nat) : Int)⟩,⟨18,[],.int .i64 0⟩]) [0,0,0] [1,2,6,16,17,18] rfl kr ?_
  refine N_then ?_
  refine G_block ?_
  refine G_heap (H':=([(b3,.cells #[.pointer none,.slice none 0 0] 95 (0,0))]::[]::[(b1,.cells #[pt jb] 28 (0,0))]::[(jb,.cells #[pt d,.string dir,rv,.int .i64 size,.bool down,.bool true] 83 (0,0))]::rg::(K++(s.G d M++H)))) (fun w h=>Sat.flat h (List.Perm.refl _)) ?_
  refine G_loop (EI:=(fun ξ : Nat × Value × Value × Grp=>[⟨1,[],.slice a ts.length c⟩,⟨2,[],pt b1⟩,⟨6,[],pt b3⟩,⟨16,[],.slice a ts.length c⟩,⟨17,[],.int .i64 ((ts.length : Nat) : Int)⟩,⟨18,[],.int .i64 ((ξ.1 : Nat) : Int)⟩])) (HI:=(fun ξ : Nat × Value × Value × Grp=>([(b3,.cells #[ξ.2.1,ξ.2.2.1] 95 (0,0))]::ξ.2.2.2::[(b1,.cells #[pt jb] 28 (0,0))]::[(jb,.cells #[pt d,.string dir,rv,.int .i64 size,.bool down,.bool true] 83 (0,0))]::rg::(K++(s.G d M++H))))) (Φ:=(fun ξ : Nat × Value × Value × Grp=>(ξ.1 ≤ ts.length)∧(Bld b3 ξ.2.1)∧(BOwn ξ.2.2.1 ξ.2.2.2 (linesB (ts.take ξ.1))))) (μ:=(fun ξ : Nat × Value × Value × Grp=>ts.length - ξ.1)) (s0:=(0,.pointer none,.slice none 0 0,[])) [1,2,6,16,17,18] kr rfl ⟨(by omega),bld0,(by simpa [BOwn,linesB,u8s] using Go.Sw.Own.nil)⟩ ?_
  rintro ⟨k, p, v, g⟩ ⟨hk, hbp, hB⟩
  refine G_seq ?_
  refine G_pure (E':=[⟨1,[],.slice a ts.length c⟩,⟨2,[],pt b1⟩,⟨6,[],pt b3⟩,⟨16,[],.slice a ts.length c⟩,⟨17,[],.int .i64 ((ts.length : Nat) : Int)⟩,⟨18,[],.int .i64 ((k : Nat) : Int)⟩,⟨19,[],.bool (decide (((k : Nat) : Int) < ((ts.length : Nat) : Int)))⟩]) [0] [1,2,6,16,17,18,19] rfl kr ?_
  refine N_then ?_
  refine G_seq ?_
  refine G_cond (b:=decide (((k : Nat) : Int) < ((ts.length : Nat) : Int))) kr (fun hc4=>?_) (fun hc4=>?_)
  ·
   simp at hc4
   refine G_skip ?_
   refine N_then ?_
   refine G_seq ?_
   refine G_block ?_
   refine G_seq ?_
   refine G_region ?_
   refine GL_indexAddr (i:=0) (ch:=[]) (a:=a) (len:=ts.length) (cap:=c) (kd:=.i64) (j:=((k : Nat) : Int)) (e:=9) (sz:=1) (S:=S) (cs:=(strs ts)) rfl rfl kr kr kr kr kr kr kr hrd (fun _=>by exact ⟨by omega,by omega,strs_ne (by omega)⟩) ?_
   refine GL_loadS (i:=1) (ch:=[]) (a:=a) (q:=k * 1) (S:=S) (cs:=(strs ts)) (v:=.string (ts.getD k default)) rfl rfl kr kr kr kr kr hrd (fun y o h=>At.sub (hS y o h) (fun q hq=>by simp only [List.flatten_cons,List.flatten_append,List.mem_append] at hq ⊢; rcases hq with hq | hq <;> simp [hq])) (fun _=>(by rw [Nat.mul_one]; exact strs_at (by omega))) ?_
   refine GL_fin (E':=[⟨1,[],.slice a ts.length c⟩,⟨2,[],pt b1⟩,⟨6,[],pt b3⟩,⟨8,[],.string (ts.getD k default)⟩,⟨16,[],.slice a ts.length c⟩,⟨17,[],.int .i64 ((ts.length : Nat) : Int)⟩,⟨18,[],.int .i64 ((k : Nat) : Int)⟩]) [0] [1,2,6,8,16,17,18] rfl kr ?_
   refine N_then ?_
   refine G_region ?_
   refine GL_p [0] kr (j:=1) rfl ?_
   refine GL_callQ (i:=1) (ch:=[]) (f:=46) (fst:=#[]) (caps:=#[]) (vs:=[.string (ts.getD k default)]) (v:=.string (lineB (ts.getD k default))) rfl rfl rfl kr kr Tryz.func46 rfl rfl kr kr kr (fun _=>line_ _ (by have:=lines_at (show k < ts.length by omega); have:=lineB_size (ts.getD k default); omega) _ _) ?_
   refine GL_call (i:=2) (ch:=[]) (f:=52) (fst:=#[]) (caps:=#[]) (vs:=[pt b3,.string (lineB (ts.getD k default))]) rfl rfl rfl kr kr Tryz.func52 rfl rfl kr kr (chSure_of kr) (writeString b3 (p) (v) g (linesB (ts.take k)) (lineB (ts.getD k default)) hbp hB (by have:=lines_at (show k < ts.length by omega); omega) _ _) ?_
   rintro r H' ⟨rfl, v5, g6, hB7, rfl⟩
   refine GL_fin (E':=[⟨1,[],.slice a ts.length c⟩,⟨2,[],pt b1⟩,⟨6,[],pt b3⟩,⟨16,[],.slice a ts.length c⟩,⟨17,[],.int .i64 ((ts.length : Nat) : Int)⟩,⟨18,[],.int .i64 ((k : Nat) : Int)⟩]) [] [1,2,6,16,17,18] rfl kr ?_
   refine N_block ?_
   refine N_then ?_
   refine G_region ?_
   refine GL_p [0] kr (j:=1) rfl ?_
   refine GL_wi 25 (((k : Nat) : Int)+1) (by omega) (by omega) kr ?_
   refine GL_fin (E':=[⟨1,[],.slice a ts.length c⟩,⟨2,[],pt b1⟩,⟨6,[],pt b3⟩,⟨16,[],.slice a ts.length c⟩,⟨17,[],.int .i64 ((ts.length : Nat) : Int)⟩,⟨18,[],.int .i64 (((k : Nat) : Int)+1)⟩]) [0] [1,2,6,16,17,18] rfl kr ?_
   refine N_round (s':=(k+1,.pointer (some ⟨b3,0,none⟩),v5,g6)) [1,2,6,16,17,18] kr rfl ⟨(by omega),bld1,(bown_succ hB7 (by omega))⟩ (by omega)
  ·
   simp at hc4
   refine G_exit ?_
   refine N_then_exit ?_
   refine N_then_exit ?_
   refine N_block_exit ?_
   refine N_then ?_
   refine G_seq ?_
   refine G_regionH ([(b3,.cells #[p,v] 95 (0,0))]::[(b1,.cells #[pt jb] 28 (0,0))]::K) kr ?_
   refine GH_take' 0 kr (fun w h=>(Sat.takeMid (K:=[_,_]) (A:=K) (((h.erase 4).erase 3).erase 1))) (GL_load (i:=0) (ch:=[]) (b:=b1) (off:=0) (v:=pt jb) rfl rfl kr kr kr kr kr (At.grp 1 0 rfl rfl) rfl (GL_yend kr rfl)) ?_
   refine GH_p (fuel:=8) [(1,0)] (fun w h=>(Sat.takeMid (K:=[_,_]) (A:=K) (((h.erase 4).erase 3).erase 1))) kr rfl ?_
   refine GH_take' 2 kr (fun w h=>(Sat.takeMid (K:=[_,_]) (A:=K) (((h.erase 4).erase 3).erase 1))) (GL_load (i:=2) (ch:=[]) (b:=b1) (off:=0) (v:=pt jb) rfl rfl kr kr kr kr kr (At.grp 1 0 rfl rfl) rfl (GL_yend kr rfl)) ?_
   refine GH_p (fuel:=6) [(4,0)] (fun w h=>(Sat.takeMid (K:=[_,_]) (A:=K) (((h.erase 4).erase 3).erase 1))) kr rfl ?_
   refine GH_take' 5 kr (fun w h=>(Sat.takeMid (K:=[_,_]) (A:=K) (((h.erase 4).erase 3).erase 1))) (GL_load (i:=5) (ch:=[]) (b:=b1) (off:=0) (v:=pt jb) rfl rfl kr kr kr kr kr (At.grp 1 0 rfl rfl) rfl (GL_yend kr rfl)) ?_
   refine GH_p (fuel:=4) [(6,0)] (fun w h=>(Sat.takeMid (K:=[_,_]) (A:=K) (((h.erase 4).erase 3).erase 1))) kr rfl ?_
   refine GH_eff 3 kr kr kr ?_
   refine GL_call (i:=3) (ch:=[]) (f:=49) (fst:=#[]) (caps:=#[]) (vs:=[pt jb,.string (ByteArray.mk #[110,101,119])]) rfl rfl rfl kr kr Tryz.func49 rfl rfl kr kr (chSure_of kr) (mkSync_ jb (ByteArray.mk #[110,101,119]) _ _) ?_
   rintro v H' ⟨b9, b10, rfl, rfl⟩
   refine GH_back kr (fun w h=>(Sat.takeMid (K:=[_,_]) (A:=K) (((((h.erase 6).erase 5).erase 3).erase 1).erase 0))) ?_
   refine GH_more ([(b10,.cells #[.string (ByteArray.mk #[110,101,119])] 9 (0,0))]::[(b9,.cells #[pt jb] 28 (0,0))]::[(b3,.cells #[p,v] 95 (0,0))]::[(b1,.cells #[pt jb] 28 (0,0))]::K) (fun w h=>((h.erase 1).erase 0)) ?_
   refine GH_eff 7 kr kr kr ?_
   refine GL_buildSlice (i:=7) (ch:=[]) (e:=91) (l:=[(0,.func (.func 53) #[] #[pt b1,pt b3]),(1,.func (.func 85) #[] #[pt b9,pt b10]),(2,.func (.func 55) #[] #[pt b1]),(3,.func (.func 51) #[pt jb] #[])]) (c:=[.func (.func 53) #[] #[pt b1,pt b3],.func (.func 85) #[] #[pt b9,pt b10],.func (.func 55) #[] #[pt b1],.func (.func 51) #[pt jb] #[]]) rfl rfl kr kr kr kr kr (fun b11=>?_)
   refine GH_back kr (fun w h=>(Sat.takeMid (K:=[_,_,_,_]) (A:=K) ((((h.erase 7).erase 6).erase 4).erase 0))) ?_
   refine GH_more ([(b11,.cells #[.func (.func 53) #[] #[pt b1,pt b3],.func (.func 85) #[] #[pt b9,pt b10],.func (.func 55) #[] #[pt b1],.func (.func 51) #[pt jb] #[]] 91 (0,0))]::[(b10,.cells #[.string (ByteArray.mk #[110,101,119])] 9 (0,0))]::[(b9,.cells #[pt jb] 28 (0,0))]::[(b3,.cells #[p,v] 95 (0,0))]::[(b1,.cells #[pt jb] 28 (0,0))]::K) (fun w h=>(h.erase 0)) ?_
   refine GH_eff 8 kr kr kr ?_
   refine GL_heap rfl (H':=([(jb,.cells #[pt d,.string dir,rv,.int .i64 size,.bool down,.bool true] 83 (0,0))]::g::[(b3,.cells #[p,v] 95 (0,0))]::[(b11,.cells #[.func (.func 53) #[] #[pt b1,pt b3],.func (.func 85) #[] #[pt b9,pt b10],.func (.func 55) #[] #[pt b1],.func (.func 51) #[pt jb] #[]] 91 (0,0))]::[(b10,.cells #[.string (ByteArray.mk #[110,101,119])] 9 (0,0))]::[(b9,.cells #[pt jb] 28 (0,0))]::[(b1,.cells #[pt jb] 28 (0,0))]::rg::(K++(s.G d M++H)))) (fun w h=>(((h.front (j:=3) rfl).front (j:=4) rfl).front (j:=6) rfl)) ?_
   refine GL_call (i:=8) (ch:=[]) (f:=47) (fst:=#[]) (caps:=#[]) (vs:=[pt jb,.slice (some ⟨b11,0,none⟩) 4 4]) rfl rfl rfl kr kr Tryz.func47 rfl rfl kr kr (chSure_of kr) (tryRep hs dir (linesB ts) hlb hdir hm hm1 hm2 hm3 jb d b1 b3 b9 b10 b11 (p) (v) g (bown_all hB (by omega)) rv size down true ([[(b11,.cells #[.func (.func 53) #[] #[pt b1,pt b3],.func (.func 85) #[] #[pt b9,pt b10],.func (.func 55) #[] #[pt b1],.func (.func 51) #[pt jb] #[]] 91 (0,0))],[(b10,.cells #[.string (ByteArray.mk #[110,101,119])] 9 (0,0))],[(b9,.cells #[pt jb] 28 (0,0))],[(b1,.cells #[pt jb] 28 (0,0))],rg]++K) _ H (At.grp 0 0 rfl rfl) (At.grp 3 0 rfl rfl) (At.grp 2 0 rfl rfl) (At.grp 1 0 rfl rfl)) ?_
   rintro v H' ⟨rfl, s2, hs2, rfl⟩
   refine GH_back kr (fun w h=>(Sat.takeMid (K:=[_,_,_,_,_]) (A:=K) (((((((h.front (j:=5) rfl).front (j:=2) rfl).front (j:=5) rfl).front (j:=5) rfl).front (j:=5) rfl).erase 6).erase 5))) ?_
   refine GH_p (fuel:=0) [(9,0)] (fun w h=>(Sat.takeMid (K:=[_,_,_,_,_]) (A:=K) (((((((h.front (j:=5) rfl).front (j:=2) rfl).front (j:=5) rfl).front (j:=5) rfl).front (j:=5) rfl).erase 6).erase 5))) kr rfl ?_
   refine GH_done (E':=[⟨1,[],.slice a ts.length c⟩,⟨2,[],pt b1⟩,⟨6,[],pt b3⟩,⟨9,[],.int .i64 ((tryM (repSteps dir (linesB ts)) M).1)⟩]) [1,2,6,9] kr kr ?_
   refine N_then ?_
   refine G_seq ?_
   refine G_seq ?_
   refine G_pure (E':=[⟨1,[],.slice a ts.length c⟩,⟨2,[],pt b1⟩,⟨6,[],pt b3⟩,⟨9,[],.int .i64 ((tryM (repSteps dir (linesB ts)) M).1)⟩,⟨36,[],.bool (((tryM (repSteps dir (linesB ts)) M).1) != 0)⟩]) [0,0] [1,2,6,9,36] rfl kr ?_
   refine N_then ?_
   refine G_cond (b:=((tryM (repSteps dir (linesB ts)) M).1) != 0) kr (fun hc12=>?_) (fun hc12=>?_)
   ·
    have hec := hc12
    refine G_seq ?_
    refine G_pure (E':=[⟨4,[],.int .i64 ((tryM (repSteps dir (linesB ts)) M).1)⟩]) [0,0] [4] rfl kr ?_
    refine N_then ?_
    refine G_ret ?_
    refine N_then_ret ?_
    refine N_heap (H':=([(jb,.cells #[pt d,.string dir,rv,.int .i64 size,.bool (if (tryM (repSteps dir (linesB ts)) M).1 != 0 then down||((tryM (repSteps dir (linesB ts)) M).1 != 61) else down),.bool true] 83 (0,0))]::rg::(K++(s2.G d (tryM (repSteps dir (linesB ts)) M).2++H)))) (fun w h=>(((((h.erase 5).erase 4).erase 3).erase 2).erase 1)) ?_
    refine N_ret [.tmp 4] [.int .i64 ((tryM (repSteps dir (linesB ts)) M).1)] rfl kr rfl ?_
    rw [rep_err hmn hec]; exact ⟨rv, rg, _, rfl, ho, hs2, by simp only [hec, if_true]; rfl⟩
   ·
    have hen := Bool.eq_false_iff.1 hc12
    refine G_skip ?_
    refine N_then ?_
    refine G_seq ?_
    refine G_region ?_
    refine GL_load (i:=0) (ch:=[]) (b:=b1) (off:=0) (v:=pt jb) rfl rfl kr kr kr kr kr (At.grp 5 0 rfl rfl) rfl ?_
    refine GL_p [0,0] kr (j:=3) rfl ?_
    refine GL_st (i:=3) (ch:=[]) (b:=jb) (off:=5) (v:=.bool true) (j:=0) ([(jb,.cells #[pt d,.string dir,rv,.int .i64 size,.bool (if (tryM (repSteps dir (linesB ts)) M).1 != 0 then down||((tryM (repSteps dir (linesB ts)) M).1 != 61) else down),.bool true] 83 (0,0))]::[(b3,.cells #[p,v] 95 (0,0))]::[(b11,.cells #[.func (.func 53) #[] #[pt b1,pt b3],.func (.func 85) #[] #[pt b9,pt b10],.func (.func 55) #[] #[pt b1],.func (.func 51) #[pt jb] #[]] 91 (0,0))]::[(b10,.cells #[.string (ByteArray.mk #[110,101,119])] 9 (0,0))]::[(b9,.cells #[pt jb] 28 (0,0))]::[(b1,.cells #[pt jb] 28 (0,0))]::rg::(K++(s2.G d (tryM (repSteps dir (linesB ts)) M).2++H))) rfl rfl kr kr kr kr kr kr kr rfl rfl (Nat.le_of_ble_eq_true rfl) (fun _ _=>thaw0) kr ?_
    refine GL_fin (E':=[⟨1,[],.slice a ts.length c⟩,⟨2,[],pt b1⟩,⟨6,[],pt b3⟩]) [] [1,2,6] rfl kr ?_
    refine N_then ?_
    refine G_seq ?_
    refine G_regionH ([(b3,.cells #[p,v] 95 (0,0))]::[(b11,.cells #[.func (.func 53) #[] #[pt b1,pt b3],.func (.func 85) #[] #[pt b9,pt b10],.func (.func 55) #[] #[pt b1],.func (.func 51) #[pt jb] #[]] 91 (0,0))]::[(b10,.cells #[.string (ByteArray.mk #[110,101,119])] 9 (0,0))]::[(b9,.cells #[pt jb] 28 (0,0))]::[(b1,.cells #[pt jb] 28 (0,0))]::K) kr ?_
    refine GH_take' 0 kr (fun w h=>(Sat.takeMid (K:=[_,_,_,_,_]) (A:=K) ((h.erase 6).erase 0))) (GL_load (i:=0) (ch:=[]) (b:=b1) (off:=0) (v:=pt jb) rfl rfl kr kr kr kr kr (At.grp 4 0 rfl rfl) rfl (GL_yend kr rfl)) ?_
    refine GH_take' 1 kr (fun w h=>(Sat.takeMid (K:=[_,_,_,_,_]) (A:=K) ((h.erase 6).erase 0))) (GL_load (i:=1) (ch:=[]) (b:=b1) (off:=0) (v:=pt jb) rfl rfl kr kr kr kr kr (At.grp 4 0 rfl rfl) rfl (GL_yend kr rfl)) ?_
    refine GH_p (fuel:=8) [(2,0)] (fun w h=>(Sat.takeMid (K:=[_,_,_,_,_]) (A:=K) ((h.erase 6).erase 0))) kr rfl ?_
    refine GH_eff 3 kr kr kr ?_
    refine GL_call (i:=3) (ch:=[]) (f:=44) (fst:=#[]) (caps:=#[]) (vs:=[.slice a ts.length c]) rfl rfl rfl kr kr Tryz.func44 rfl rfl kr kr (chSure_of kr) (clone_ a c ts S hrd hts hn _ _ (fun y o h=>At.sub (hS y o h) (fun q hq=>by simp only [List.flatten_cons,List.flatten_append,List.mem_append] at hq ⊢; rcases hq with hq | hq <;> simp [hq]))) ?_
    rintro v H' ⟨g13, hO14, rfl⟩
    obtain ⟨a15, c16, rfl, hc17, hrd18⟩ := Go.Sw.Own.shape hO14
    refine GH_back kr (fun w h=>(Sat.takeMid (K:=[_,_,_,_,_]) (A:=K) (((h.erase 7).erase 1).erase 0))) ?_
    refine GH_more (g13::[(b3,.cells #[p,v] 95 (0,0))]::[(b11,.cells #[.func (.func 53) #[] #[pt b1,pt b3],.func (.func 85) #[] #[pt b9,pt b10],.func (.func 55) #[] #[pt b1],.func (.func 51) #[pt jb] #[]] 91 (0,0))]::[(b10,.cells #[.string (ByteArray.mk #[110,101,119])] 9 (0,0))]::[(b9,.cells #[pt jb] 28 (0,0))]::[(b1,.cells #[pt jb] 28 (0,0))]::K) (fun w h=>(h.erase 0)) ?_
    refine GH_eff 4 kr kr kr ?_
    refine GL_heap rfl (H':=([(b3,.cells #[p,v] 95 (0,0))]::g13::[(jb,.cells #[pt d,.string dir,rv,.int .i64 size,.bool (if (tryM (repSteps dir (linesB ts)) M).1 != 0 then down||((tryM (repSteps dir (linesB ts)) M).1 != 61) else down),.bool true] 83 (0,0))]::[(b11,.cells #[.func (.func 53) #[] #[pt b1,pt b3],.func (.func 85) #[] #[pt b9,pt b10],.func (.func 55) #[] #[pt b1],.func (.func 51) #[pt jb] #[]] 91 (0,0))]::[(b10,.cells #[.string (ByteArray.mk #[110,101,119])] 9 (0,0))]::[(b9,.cells #[pt jb] 28 (0,0))]::[(b1,.cells #[pt jb] 28 (0,0))]::rg::(K++(s2.G d (tryM (repSteps dir (linesB ts)) M).2++H)))) (fun w h=>(h.front (j:=2) rfl)) ?_
    refine GL_call (i:=4) (ch:=[]) (f:=57) (fst:=#[]) (caps:=#[]) (vs:=[pt b3]) rfl rfl rfl kr kr Tryz.func57 rfl rfl kr kr (chSure_of kr) (builderLen b3 (p) (v) _ (linesB ts) (bown_all hB (by omega)) _ _) ?_
    rintro r H' ⟨rfl, rfl⟩
    refine GH_back kr (fun w h=>(Sat.takeMid (K:=[_,_,_,_,_,_]) (A:=K) ((((((((h.front (j:=6) rfl).front (j:=6) rfl).front (j:=6) rfl).front (j:=6) rfl).front (j:=4) rfl).front (j:=5) rfl).erase 7).erase 6))) ?_
    refine GH_nil (ad:=⟨jb,0,none⟩) 5 rfl rfl rfl kr kr kr kr kr (fun w h=>(Sat.takeMid (K:=[_,_,_,_,_,_]) (A:=K) ((((((((h.front (j:=6) rfl).front (j:=6) rfl).front (j:=6) rfl).front (j:=6) rfl).front (j:=4) rfl).front (j:=5) rfl).erase 7).erase 6))) ?_
    refine GH_p (fuel:=4) [(6,0)] (fun w h=>(Sat.takeMid (K:=[_,_,_,_,_,_]) (A:=K) ((((((((h.front (j:=6) rfl).front (j:=6) rfl).front (j:=6) rfl).front (j:=6) rfl).front (j:=4) rfl).front (j:=5) rfl).erase 7).erase 6))) kr rfl ?_
    refine GH_eff 7 kr kr kr ?_
    refine GL_st (i:=7) (ch:=[]) (b:=jb) (off:=2) (v:=.slice a15 ts.length c16) (j:=2) ([(b3,.cells #[p,v] 95 (0,0))]::g13::[(jb,.cells #[pt d,.string dir,.slice a15 ts.length c16,.int .i64 size,.bool (if (tryM (repSteps dir (linesB ts)) M).1 != 0 then down||((tryM (repSteps dir (linesB ts)) M).1 != 61) else down),.bool true] 83 (0,0))]::[(b11,.cells #[.func (.func 53) #[] #[pt b1,pt b3],.func (.func 85) #[] #[pt b9,pt b10],.func (.func 55) #[] #[pt b1],.func (.func 51) #[pt jb] #[]] 91 (0,0))]::[(b10,.cells #[.string (ByteArray.mk #[110,101,119])] 9 (0,0))]::[(b9,.cells #[pt jb] 28 (0,0))]::[(b1,.cells #[pt jb] 28 (0,0))]::rg::(K++(s2.G d (tryM (repSteps dir (linesB ts)) M).2++H))) rfl rfl kr kr kr kr kr kr kr rfl rfl (Nat.le_of_ble_eq_true rfl) (fun _ _=>thaw0) kr ?_
    refine GH_back kr (fun w h=>(Sat.takeMid (K:=[_,_,_,_,_,_]) (A:=K) ((((((((h.front (j:=6) rfl).front (j:=6) rfl).front (j:=6) rfl).front (j:=6) rfl).front (j:=4) rfl).front (j:=5) rfl).erase 7).erase 6))) ?_
    refine GH_nil (ad:=⟨jb,0,none⟩) 8 rfl rfl rfl kr kr kr kr kr (fun w h=>(Sat.takeMid (K:=[_,_,_,_,_,_]) (A:=K) ((((((((h.front (j:=6) rfl).front (j:=6) rfl).front (j:=6) rfl).front (j:=6) rfl).front (j:=4) rfl).front (j:=5) rfl).erase 7).erase 6))) ?_
    refine GH_p (fuel:=1) [(9,0)] (fun w h=>(Sat.takeMid (K:=[_,_,_,_,_,_]) (A:=K) ((((((((h.front (j:=6) rfl).front (j:=6) rfl).front (j:=6) rfl).front (j:=6) rfl).front (j:=4) rfl).front (j:=5) rfl).erase 7).erase 6))) kr rfl ?_
    refine GH_eff 10 kr kr kr ?_
    refine GL_st (i:=10) (ch:=[]) (b:=jb) (off:=3) (v:=.int .i64 (((linesB ts).size : Nat) : Int)) (j:=2) ([(b3,.cells #[p,v] 95 (0,0))]::g13::[(jb,.cells #[pt d,.string dir,.slice a15 ts.length c16,.int .i64 (((linesB ts).size : Nat) : Int),.bool (if (tryM (repSteps dir (linesB ts)) M).1 != 0 then down||((tryM (repSteps dir (linesB ts)) M).1 != 61) else down),.bool true] 83 (0,0))]::[(b11,.cells #[.func (.func 53) #[] #[pt b1,pt b3],.func (.func 85) #[] #[pt b9,pt b10],.func (.func 55) #[] #[pt b1],.func (.func 51) #[pt jb] #[]] 91 (0,0))]::[(b10,.cells #[.string (ByteArray.mk #[110,101,119])] 9 (0,0))]::[(b9,.cells #[pt jb] 28 (0,0))]::[(b1,.cells #[pt jb] 28 (0,0))]::rg::(K++(s2.G d (tryM (repSteps dir (linesB ts)) M).2++H))) rfl rfl kr kr kr kr kr kr kr rfl rfl (Nat.le_of_ble_eq_true rfl) (fun _ _=>thaw0) kr ?_
    refine GH_back kr (fun w h=>(Sat.takeMid (K:=[_,_,_,_,_,_]) (A:=K) ((((((((h.front (j:=6) rfl).front (j:=6) rfl).front (j:=6) rfl).front (j:=6) rfl).front (j:=4) rfl).front (j:=5) rfl).erase 7).erase 6))) ?_
    refine GH_done (E':=[]) [] kr kr ?_
    refine N_then ?_
    refine G_seq ?_
    refine G_pure (E':=[⟨4,[],.int .i64 0⟩]) [0] [4] rfl kr ?_
    refine N_then ?_
    refine G_ret ?_
    refine N_heap (H':=([(jb,.cells #[pt d,.string dir,.slice a15 ts.length c16,.int .i64 (((linesB ts).size : Nat) : Int),.bool (if (tryM (repSteps dir (linesB ts)) M).1 != 0 then down||((tryM (repSteps dir (linesB ts)) M).1 != 61) else down),.bool true] 83 (0,0))]::g13::(K++(s2.G d (tryM (repSteps dir (linesB ts)) M).2++H)))) (fun w h=>((((((((h.front (j:=1) rfl).front (j:=2) rfl).erase 7).erase 6).erase 5).erase 4).erase 3).erase 2)) ?_
    refine N_ret [.tmp 4] [.int .i64 0] rfl kr rfl ?_
    rw [rep_ok hmn hen]; exact ⟨_, _, _, rfl, hO14, hs2, by simp only [hen]; rfl⟩
theorem repFalse_ {s : DS} {M : DM} (hs : s.ok M) (hm : Small M) (K : List Grp) (jb d : Nat) (dir : ByteArray) (rv : Value) (rg : Grp) (L : List ByteArray) (size : Int) (down : Bool) (ho : Go.Sw.Own 9 1 rv rg L.length (strs L)) (hdir : dir.size ≤ 1000000) (hL : L.length ≤ 1000000) (hz : 0 ≤ size ∧ size ≤ 1000000000000) (a : Option Addr) (c : Nat) (ts : List ByteArray) (S : Nat → Obj → Prop) (hrd : Rd S a (strs ts)) (hts : ts.length ≤ 1000000) (hn : a = none → ts.length = 0) (hlb : (linesB ts).size ≤ 1000000000) (hm1 : Small (writeM M (pathJ dir newB) (linesB ts)).2) (hm2 : Small (syncM (writeM M (pathJ dir newB) (linesB ts)).2 (pathJ dir newB)).2) (hm3 : Small (renameM (syncM (writeM M (pathJ dir newB) (linesB ts)).2 (pathJ dir newB)).2 (pathJ dir newB) (pathJ dir logB)).2) (W0 : World) (H : List Grp) (hS : ∀ y o, S y o → At W0 (rg :: K) y o) : Tri Tryz.prog 18 #[pt jb, .slice a ts.length c] W0 ([(jb, .cells #[pt d, .string dir, rv, .int .i64 size, .bool down, .bool false] 83 (0, 0))] :: rg :: (K ++ (s.G d M ++ H))) (CallR (replaceM ⟨dir, L, size, down, false⟩ M ts) jb d K H) := by
 refine Tri_of (args := [pt jb, .slice a ts.length c]) (n := 50) Tryz.func18 rfl rfl (Nat.le_of_ble_eq_true rfl) ?_
 refine G_seq ?_
 refine G_region ?_
 refine GL_box (i:=0) (ch:=[]) (v:=pt jb) rfl rfl kr kr kr kr (fun b1=>?_)
 refine GL_fin (E':=[⟨1,[],.slice a ts.length c⟩,⟨2,[],pt b1⟩]) [0] [1,2] rfl kr ?_
 refine N_then ?_
 refine G_seq ?_
 refine G_seq ?_
 refine G_region ?_
 refine GL_load (i:=0) (ch:=[]) (b:=b1) (off:=0) (v:=pt jb) rfl rfl kr kr kr kr kr (At.grp 0 0 rfl rfl) rfl ?_
 refine GL_p [0] kr (j:=2) rfl ?_
 refine GL_callQ (i:=2) (ch:=[]) (f:=45) (fst:=#[]) (caps:=#[]) (vs:=[pt jb,.slice a ts.length c]) (v:=.int .i64 (mayI ts down)) rfl rfl rfl kr kr Tryz.func45 rfl rfl kr kr kr (fun _=>may_ a c ts S hrd (by first | (show 1 ≤ 1000000000; omega) | omega) jb (pt d) rv (.int .i64 size) (.bool false) dir down _ _ (At.grp 1 0 rfl rfl) (fun y o h=>At.sub (hS y o h) (fun q hq=>by simp only [List.flatten_cons,List.flatten_append,List.mem_append] at hq ⊢; rcases hq with hq | hq <;> simp [hq]))) ?_
 refine GL_fin (E':=[⟨1,[],.slice a ts.length c⟩,⟨2,[],pt b1⟩,⟨5,[],.int .i64 (mayI ts down)⟩]) [0] [1,2,5] rfl kr ?_
 refine N_then ?_
 refine G_seq ?_
 refine G_pure (E':=[⟨1,[],.slice a ts.length c⟩,⟨2,[],pt b1⟩,⟨5,[],.int .i64 (mayI ts down)⟩,⟨14,[],.bool ((mayI ts down) != 0)⟩]) [0,0] [1,2,5,14] rfl kr ?_
 refine N_then ?_
 refine G_cond (b:=(mayI ts down) != 0) kr (fun hc2=>?_) (fun hc2=>?_)
 ·
  have hmc := hc2
  refine G_seq ?_
  refine G_pure (E':=[⟨4,[],.int .i64 (mayI ts down)⟩]) [0,0] [4] rfl kr ?_
  refine N_then ?_
  refine G_ret ?_
  refine N_then_ret ?_
  refine N_heap (H':=([(jb,.cells #[pt d,.string dir,rv,.int .i64 size,.bool down,.bool false] 83 (0,0))]::rg::(K++(s.G d M++H)))) (fun w h=>(h.erase 0)) ?_
  refine N_ret [.tmp 4] [.int .i64 (mayI ts down)] rfl kr rfl ?_
  rw [mayI_rep hmc]; exact ⟨rv, rg, s, rfl, ho, hs, rfl⟩
 ·
  have hmn := Bool.eq_false_iff.1 hc2
  refine G_skip ?_
  refine N_then ?_
  refine G_seq ?_
  refine G_region ?_
  refine GL_alloc (i:=0) (ch:=[]) (z:=.agg #[.pointer none,.slice none 0 0]) rfl rfl kr kr kr kr (fun b3=>?_)
  refine GL_fin (E':=[⟨1,[],.slice a ts.length c⟩,⟨2,[],pt b1⟩,⟨6,[],pt b3⟩]) [] [1,2,6] rfl kr ?_
  refine N_then ?_
  refine G_seq ?_
  refine G_seq ?_
  refine G_pure (E':=[⟨1,[],.slice a ts.length c⟩,⟨2,[],pt b1⟩,⟨6,[],pt b3⟩,⟨16,[],.slice a ts.length c⟩,⟨17,[],.int .i64 ((ts.length : Nat) : Int)⟩,⟨18,[],.int .i64 0⟩]) [0,0,0] [1,2,6,16,17,18] rfl kr ?_
  refine N_then ?_
  refine G_block ?_
  refine G_heap (H':=([(b3,.cells #[.pointer none,.slice none 0 0] 95 (0,0))]::[]::[(b1,.cells #[pt jb] 28 (0,0))]::[(jb,.cells #[pt d,.string dir,rv,.int .i64 size,.bool down,.bool false] 83 (0,0))]::rg::(K++(s.G d M++H)))) (fun w h=>Sat.flat h (List.Perm.refl _)) ?_
  refine G_loop (EI:=(fun ξ : Nat × Value × Value × Grp=>[⟨1,[],.slice a ts.length c⟩,⟨2,[],pt b1⟩,⟨6,[],pt b3⟩,⟨16,[],.slice a ts.length c⟩,⟨17,[],.int .i64 ((ts.length : Nat) : Int)⟩,⟨18,[],.int .i64 ((ξ.1 : Nat) : Int)⟩])) (HI:=(fun ξ : Nat × Value × Value × Grp=>([(b3,.cells #[ξ.2.1,ξ.2.2.1] 95 (0,0))]::ξ.2.2.2::[(b1,.cells #[pt jb] 28 (0,0))]::[(jb,.cells #[pt d,.string dir,rv,.int .i64 size,.bool down,.bool false] 83 (0,0))]::rg::(K++(s.G d M++H))))) (Φ:=(fun ξ : Nat × Value × Value × Grp=>(ξ.1 ≤ ts.length)∧(Bld b3 ξ.2.1)∧(BOwn ξ.2.2.1 ξ.2.2.2 (linesB (ts.take ξ.1))))) (μ:=(fun ξ : Nat × Value × Value × Grp=>ts.length - ξ.1)) (s0:=(0,.pointer none,.slice none 0 0,[])) [1,2,6,16,17,18] kr rfl ⟨(by omega),bld0,(by simpa [BOwn,linesB,u8s] using Go.Sw.Own.nil)⟩ ?_
  rintro ⟨k, p, v, g⟩ ⟨hk, hbp, hB⟩
  refine G_seq ?_
  refine G_pure (E':=[⟨1,[],.slice a ts.length c⟩,⟨2,[],pt b1⟩,⟨6,[],pt b3⟩,⟨16,[],.slice a ts.length c⟩,⟨17,[],.int .i64 ((ts.length : Nat) : Int)⟩,⟨18,[],.int .i64 ((k : Nat) : Int)⟩,⟨19,[],.bool (decide (((k : Nat) : Int) < ((ts.length : Nat) : Int)))⟩]) [0] [1,2,6,16,17,18,19] rfl kr ?_
  refine N_then ?_
  refine G_seq ?_
  refine G_cond (b:=decide (((k : Nat) : Int) < ((ts.length : Nat) : Int))) kr (fun hc4=>?_) (fun hc4=>?_)
  ·
   simp at hc4
   refine G_skip ?_
   refine N_then ?_
   refine G_seq ?_
   refine G_block ?_
   refine G_seq ?_
   refine G_region ?_
   refine GL_indexAddr (i:=0) (ch:=[]) (a:=a) (len:=ts.length) (cap:=c) (kd:=.i64) (j:=((k : Nat) : Int)) (e:=9) (sz:=1) (S:=S) (cs:=(strs ts)) rfl rfl kr kr kr kr kr kr kr hrd (fun _=>by exact ⟨by omega,by omega,strs_ne (by omega)⟩) ?_
   refine GL_loadS (i:=1) (ch:=[]) (a:=a) (q:=k * 1) (S:=S) (cs:=(strs ts)) (v:=.string (ts.getD k default)) rfl rfl kr kr kr kr kr hrd (fun y o h=>At.sub (hS y o h) (fun q hq=>by simp only [List.flatten_cons,List.flatten_append,List.mem_append] at hq ⊢; rcases hq with hq | hq <;> simp [hq])) (fun _=>(by rw [Nat.mul_one]; exact strs_at (by omega))) ?_
   refine GL_fin (E':=[⟨1,[],.slice a ts.length c⟩,⟨2,[],pt b1⟩,⟨6,[],pt b3⟩,⟨8,[],.string (ts.getD k default)⟩,⟨16,[],.slice a ts.length c⟩,⟨17,[],.int .i64 ((ts.length : Nat) : Int)⟩,⟨18,[],.int .i64 ((k : Nat) : Int)⟩]) [0] [1,2,6,8,16,17,18] rfl kr ?_
   refine N_then ?_
   refine G_region ?_
   refine GL_p [0] kr (j:=1) rfl ?_
   refine GL_callQ (i:=1) (ch:=[]) (f:=46) (fst:=#[]) (caps:=#[]) (vs:=[.string (ts.getD k default)]) (v:=.string (lineB (ts.getD k default))) rfl rfl rfl kr kr Tryz.func46 rfl rfl kr kr kr (fun _=>line_ _ (by have:=lines_at (show k < ts.length by omega); have:=lineB_size (ts.getD k default); omega) _ _) ?_
   refine GL_call (i:=2) (ch:=[]) (f:=52) (fst:=#[]) (caps:=#[]) (vs:=[pt b3,.string (lineB (ts.getD k default))]) rfl rfl rfl kr kr Tryz.func52 rfl rfl kr kr (chSure_of kr) (writeString b3 (p) (v) g (linesB (ts.take k)) (lineB (ts.getD k default)) hbp hB (by have:=lines_at (show k < ts.length by omega); omega) _ _) ?_
   rintro r H' ⟨rfl, v5, g6, hB7, rfl⟩
   refine GL_fin (E':=[⟨1,[],.slice a ts.length c⟩,⟨2,[],pt b1⟩,⟨6,[],pt b3⟩,⟨16,[],.slice a ts.length c⟩,⟨17,[],.int .i64 ((ts.length : Nat) : Int)⟩,⟨18,[],.int .i64 ((k : Nat) : Int)⟩]) [] [1,2,6,16,17,18] rfl kr ?_
   refine N_block ?_
   refine N_then ?_
   refine G_region ?_
   refine GL_p [0] kr (j:=1) rfl ?_
   refine GL_wi 25 (((k : Nat) : Int)+1) (by omega) (by omega) kr ?_
   refine GL_fin (E':=[⟨1,[],.slice a ts.length c⟩,⟨2,[],pt b1⟩,⟨6,[],pt b3⟩,⟨16,[],.slice a ts.length c⟩,⟨17,[],.int .i64 ((ts.length : Nat) : Int)⟩,⟨18,[],.int .i64 (((k : Nat) : Int)+1)⟩]) [0] [1,2,6,16,17,18] rfl kr ?_
   refine N_round (s':=(k+1,.pointer (some ⟨b3,0,none⟩),v5,g6)) [1,2,6,16,17,18] kr rfl ⟨(by omega),bld1,(bown_succ hB7 (by omega))⟩ (by omega)
  ·
   simp at hc4
   refine G_exit ?_
   refine N_then_exit ?_
   refine N_then_exit ?_
   refine N_block_exit ?_
   refine N_then ?_
   refine G_seq ?_
   refine G_regionH ([(b3,.cells #[p,v] 95 (0,0))]::[(b1,.cells #[pt jb] 28 (0,0))]::K) kr ?_
   refine GH_take' 0 kr (fun w h=>(Sat.takeMid (K:=[_,_]) (A:=K) (((h.erase 4).erase 3).erase 1))) (GL_load (i:=0) (ch:=[]) (b:=b1) (off:=0) (v:=pt jb) rfl rfl kr kr kr kr kr (At.grp 1 0 rfl rfl) rfl (GL_yend kr rfl)) ?_
   refine GH_p (fuel:=8) [(1,0)] (fun w h=>(Sat.takeMid (K:=[_,_]) (A:=K) (((h.erase 4).erase 3).erase 1))) kr rfl ?_
   refine GH_take' 2 kr (fun w h=>(Sat.takeMid (K:=[_,_]) (A:=K) (((h.erase 4).erase 3).erase 1))) (GL_load (i:=2) (ch:=[]) (b:=b1) (off:=0) (v:=pt jb) rfl rfl kr kr kr kr kr (At.grp 1 0 rfl rfl) rfl (GL_yend kr rfl)) ?_
   refine GH_p (fuel:=6) [(4,0)] (fun w h=>(Sat.takeMid (K:=[_,_]) (A:=K) (((h.erase 4).erase 3).erase 1))) kr rfl ?_
   refine GH_take' 5 kr (fun w h=>(Sat.takeMid (K:=[_,_]) (A:=K) (((h.erase 4).erase 3).erase 1))) (GL_load (i:=5) (ch:=[]) (b:=b1) (off:=0) (v:=pt jb) rfl rfl kr kr kr kr kr (At.grp 1 0 rfl rfl) rfl (GL_yend kr rfl)) ?_
   refine GH_p (fuel:=4) [(6,0)] (fun w h=>(Sat.takeMid (K:=[_,_]) (A:=K) (((h.erase 4).erase 3).erase 1))) kr rfl ?_
   refine GH_eff 3 kr kr kr ?_
   refine GL_call (i:=3) (ch:=[]) (f:=49) (fst:=#[]) (caps:=#[]) (vs:=[pt jb,.string (ByteArray.mk #[110,101,119])]) rfl rfl rfl kr kr Tryz.func49 rfl rfl kr kr (chSure_of kr) (mkSync_ jb (ByteArray.mk #[110,101,119]) _ _) ?_
   rintro v H' ⟨b9, b10, rfl, rfl⟩
   refine GH_back kr (fun w h=>(Sat.takeMid (K:=[_,_]) (A:=K) (((((h.erase 6).erase 5).erase 3).erase 1).erase 0))) ?_
   refine GH_more ([(b10,.cells #[.string (ByteArray.mk #[110,101,119])] 9 (0,0))]::[(b9,.cells #[pt jb] 28 (0,0))]::[(b3,.cells #[p,v] 95 (0,0))]::[(b1,.cells #[pt jb] 28 (0,0))]::K) (fun w h=>((h.erase 1).erase 0)) ?_
   refine GH_eff 7 kr kr kr ?_
   refine GL_buildSlice (i:=7) (ch:=[]) (e:=91) (l:=[(0,.func (.func 53) #[] #[pt b1,pt b3]),(1,.func (.func 85) #[] #[pt b9,pt b10]),(2,.func (.func 55) #[] #[pt b1]),(3,.func (.func 51) #[pt jb] #[])]) (c:=[.func (.func 53) #[] #[pt b1,pt b3],.func (.func 85) #[] #[pt b9,pt b10],.func (.func 55) #[] #[pt b1],.func (.func 51) #[pt jb] #[]]) rfl rfl kr kr kr kr kr (fun b11=>?_)
   refine GH_back kr (fun w h=>(Sat.takeMid (K:=[_,_,_,_]) (A:=K) ((((h.erase 7).erase 6).erase 4).erase 0))) ?_
   refine GH_more ([(b11,.cells #[.func (.func 53) #[] #[pt b1,pt b3],.func (.func 85) #[] #[pt b9,pt b10],.func (.func 55) #[] #[pt b1],.func (.func 51) #[pt jb] #[]] 91 (0,0))]::[(b10,.cells #[.string (ByteArray.mk #[110,101,119])] 9 (0,0))]::[(b9,.cells #[pt jb] 28 (0,0))]::[(b3,.cells #[p,v] 95 (0,0))]::[(b1,.cells #[pt jb] 28 (0,0))]::K) (fun w h=>(h.erase 0)) ?_
   refine GH_eff 8 kr kr kr ?_
   refine GL_heap rfl (H':=([(jb,.cells #[pt d,.string dir,rv,.int .i64 size,.bool down,.bool false] 83 (0,0))]::g::[(b3,.cells #[p,v] 95 (0,0))]::[(b11,.cells #[.func (.func 53) #[] #[pt b1,pt b3],.func (.func 85) #[] #[pt b9,pt b10],.func (.func 55) #[] #[pt b1],.func (.func 51) #[pt jb] #[]] 91 (0,0))]::[(b10,.cells #[.string (ByteArray.mk #[110,101,119])] 9 (0,0))]::[(b9,.cells #[pt jb] 28 (0,0))]::[(b1,.cells #[pt jb] 28 (0,0))]::rg::(K++(s.G d M++H)))) (fun w h=>(((h.front (j:=3) rfl).front (j:=4) rfl).front (j:=6) rfl)) ?_
   refine GL_call (i:=8) (ch:=[]) (f:=47) (fst:=#[]) (caps:=#[]) (vs:=[pt jb,.slice (some ⟨b11,0,none⟩) 4 4]) rfl rfl rfl kr kr Tryz.func47 rfl rfl kr kr (chSure_of kr) (tryRep hs dir (linesB ts) hlb hdir hm hm1 hm2 hm3 jb d b1 b3 b9 b10 b11 (p) (v) g (bown_all hB (by omega)) rv size down false ([[(b11,.cells #[.func (.func 53) #[] #[pt b1,pt b3],.func (.func 85) #[] #[pt b9,pt b10],.func (.func 55) #[] #[pt b1],.func (.func 51) #[pt jb] #[]] 91 (0,0))],[(b10,.cells #[.string (ByteArray.mk #[110,101,119])] 9 (0,0))],[(b9,.cells #[pt jb] 28 (0,0))],[(b1,.cells #[pt jb] 28 (0,0))],rg]++K) _ H (At.grp 0 0 rfl rfl) (At.grp 3 0 rfl rfl) (At.grp 2 0 rfl rfl) (At.grp 1 0 rfl rfl)) ?_
   rintro v H' ⟨rfl, s2, hs2, rfl⟩
   refine GH_back kr (fun w h=>(Sat.takeMid (K:=[_,_,_,_,_]) (A:=K) (((((((h.front (j:=5) rfl).front (j:=2) rfl).front (j:=5) rfl).front (j:=5) rfl).front (j:=5) rfl).erase 6).erase 5))) ?_
   refine GH_p (fuel:=0) [(9,0)] (fun w h=>(Sat.takeMid (K:=[_,_,_,_,_]) (A:=K) (((((((h.front (j:=5) rfl).front (j:=2) rfl).front (j:=5) rfl).front (j:=5) rfl).front (j:=5) rfl).erase 6).erase 5))) kr rfl ?_
   refine GH_done (E':=[⟨1,[],.slice a ts.length c⟩,⟨2,[],pt b1⟩,⟨6,[],pt b3⟩,⟨9,[],.int .i64 ((tryM (repSteps dir (linesB ts)) M).1)⟩]) [1,2,6,9] kr kr ?_
   refine N_then ?_
   refine G_seq ?_
   refine G_seq ?_
   refine G_pure (E':=[⟨1,[],.slice a ts.length c⟩,⟨2,[],pt b1⟩,⟨6,[],pt b3⟩,⟨9,[],.int .i64 ((tryM (repSteps dir (linesB ts)) M).1)⟩,⟨36,[],.bool (((tryM (repSteps dir (linesB ts)) M).1) != 0)⟩]) [0,0] [1,2,6,9,36] rfl kr ?_
   refine N_then ?_
   refine G_cond (b:=((tryM (repSteps dir (linesB ts)) M).1) != 0) kr (fun hc12=>?_) (fun hc12=>?_)
   ·
    have hec := hc12
    refine G_seq ?_
    refine G_pure (E':=[⟨4,[],.int .i64 ((tryM (repSteps dir (linesB ts)) M).1)⟩]) [0,0] [4] rfl kr ?_
    refine N_then ?_
    refine G_ret ?_
    refine N_then_ret ?_
    refine N_heap (H':=([(jb,.cells #[pt d,.string dir,rv,.int .i64 size,.bool (if (tryM (repSteps dir (linesB ts)) M).1 != 0 then down||((tryM (repSteps dir (linesB ts)) M).1 != 61) else down),.bool false] 83 (0,0))]::rg::(K++(s2.G d (tryM (repSteps dir (linesB ts)) M).2++H)))) (fun w h=>(((((h.erase 5).erase 4).erase 3).erase 2).erase 1)) ?_
    refine N_ret [.tmp 4] [.int .i64 ((tryM (repSteps dir (linesB ts)) M).1)] rfl kr rfl ?_
    rw [rep_err hmn hec]; exact ⟨rv, rg, _, rfl, ho, hs2, by simp only [hec, if_true]; rfl⟩
   ·
    have hen := Bool.eq_false_iff.1 hc12
    refine G_skip ?_
    refine N_then ?_
    refine G_seq ?_
    refine G_region ?_
    refine GL_load (i:=0) (ch:=[]) (b:=b1) (off:=0) (v:=pt jb) rfl rfl kr kr kr kr kr (At.grp 5 0 rfl rfl) rfl ?_
    refine GL_p [0,0] kr (j:=3) rfl ?_
    refine GL_st (i:=3) (ch:=[]) (b:=jb) (off:=5) (v:=.bool true) (j:=0) ([(jb,.cells #[pt d,.string dir,rv,.int .i64 size,.bool (if (tryM (repSteps dir (linesB ts)) M).1 != 0 then down||((tryM (repSteps dir (linesB ts)) M).1 != 61) else down),.bool true] 83 (0,0))]::[(b3,.cells #[p,v] 95 (0,0))]::[(b11,.cells #[.func (.func 53) #[] #[pt b1,pt b3],.func (.func 85) #[] #[pt b9,pt b10],.func (.func 55) #[] #[pt b1],.func (.func 51) #[pt jb] #[]] 91 (0,0))]::[(b10,.cells #[.string (ByteArray.mk #[110,101,119])] 9 (0,0))]::[(b9,.cells #[pt jb] 28 (0,0))]::[(b1,.cells #[pt jb] 28 (0,0))]::rg::(K++(s2.G d (tryM (repSteps dir (linesB ts)) M).2++H))) rfl rfl kr kr kr kr kr kr kr rfl rfl (Nat.le_of_ble_eq_true rfl) (fun _ _=>thaw0) kr ?_
    refine GL_fin (E':=[⟨1,[],.slice a ts.length c⟩,⟨2,[],pt b1⟩,⟨6,[],pt b3⟩]) [] [1,2,6] rfl kr ?_
    refine N_then ?_
    refine G_seq ?_
    refine G_regionH ([(b3,.cells #[p,v] 95 (0,0))]::[(b11,.cells #[.func (.func 53) #[] #[pt b1,pt b3],.func (.func 85) #[] #[pt b9,pt b10],.func (.func 55) #[] #[pt b1],.func (.func 51) #[pt jb] #[]] 91 (0,0))]::[(b10,.cells #[.string (ByteArray.mk #[110,101,119])] 9 (0,0))]::[(b9,.cells #[pt jb] 28 (0,0))]::[(b1,.cells #[pt jb] 28 (0,0))]::K) kr ?_
    refine GH_take' 0 kr (fun w h=>(Sat.takeMid (K:=[_,_,_,_,_]) (A:=K) ((h.erase 6).erase 0))) (GL_load (i:=0) (ch:=[]) (b:=b1) (off:=0) (v:=pt jb) rfl rfl kr kr kr kr kr (At.grp 4 0 rfl rfl) rfl (GL_yend kr rfl)) ?_
    refine GH_take' 1 kr (fun w h=>(Sat.takeMid (K:=[_,_,_,_,_]) (A:=K) ((h.erase 6).erase 0))) (GL_load (i:=1) (ch:=[]) (b:=b1) (off:=0) (v:=pt jb) rfl rfl kr kr kr kr kr (At.grp 4 0 rfl rfl) rfl (GL_yend kr rfl)) ?_
    refine GH_p (fuel:=8) [(2,0)] (fun w h=>(Sat.takeMid (K:=[_,_,_,_,_]) (A:=K) ((h.erase 6).erase 0))) kr rfl ?_
    refine GH_eff 3 kr kr kr ?_
    refine GL_call (i:=3) (ch:=[]) (f:=44) (fst:=#[]) (caps:=#[]) (vs:=[.slice a ts.length c]) rfl rfl rfl kr kr Tryz.func44 rfl rfl kr kr (chSure_of kr) (clone_ a c ts S hrd hts hn _ _ (fun y o h=>At.sub (hS y o h) (fun q hq=>by simp only [List.flatten_cons,List.flatten_append,List.mem_append] at hq ⊢; rcases hq with hq | hq <;> simp [hq]))) ?_
    rintro v H' ⟨g13, hO14, rfl⟩
    obtain ⟨a15, c16, rfl, hc17, hrd18⟩ := Go.Sw.Own.shape hO14
    refine GH_back kr (fun w h=>(Sat.takeMid (K:=[_,_,_,_,_]) (A:=K) (((h.erase 7).erase 1).erase 0))) ?_
    refine GH_more (g13::[(b3,.cells #[p,v] 95 (0,0))]::[(b11,.cells #[.func (.func 53) #[] #[pt b1,pt b3],.func (.func 85) #[] #[pt b9,pt b10],.func (.func 55) #[] #[pt b1],.func (.func 51) #[pt jb] #[]] 91 (0,0))]::[(b10,.cells #[.string (ByteArray.mk #[110,101,119])] 9 (0,0))]::[(b9,.cells #[pt jb] 28 (0,0))]::[(b1,.cells #[pt jb] 28 (0,0))]::K) (fun w h=>(h.erase 0)) ?_
    refine GH_eff 4 kr kr kr ?_
    refine GL_heap rfl (H':=([(b3,.cells #[p,v] 95 (0,0))]::g13::[(jb,.cells #[pt d,.string dir,rv,.int .i64 size,.bool (if (tryM (repSteps dir (linesB ts)) M).1 != 0 then down||((tryM (repSteps dir (linesB ts)) M).1 != 61) else down),.bool true] 83 (0,0))]::[(b11,.cells #[.func (.func 53) #[] #[pt b1,pt b3],.func (.func 85) #[] #[pt b9,pt b10],.func (.func 55) #[] #[pt b1],.func (.func 51) #[pt jb] #[]] 91 (0,0))]::[(b10,.cells #[.string (ByteArray.mk #[110,101,119])] 9 (0,0))]::[(b9,.cells #[pt jb] 28 (0,0))]::[(b1,.cells #[pt jb] 28 (0,0))]::rg::(K++(s2.G d (tryM (repSteps dir (linesB ts)) M).2++H)))) (fun w h=>(h.front (j:=2) rfl)) ?_
    refine GL_call (i:=4) (ch:=[]) (f:=57) (fst:=#[]) (caps:=#[]) (vs:=[pt b3]) rfl rfl rfl kr kr Tryz.func57 rfl rfl kr kr (chSure_of kr) (builderLen b3 (p) (v) _ (linesB ts) (bown_all hB (by omega)) _ _) ?_
    rintro r H' ⟨rfl, rfl⟩
    refine GH_back kr (fun w h=>(Sat.takeMid (K:=[_,_,_,_,_,_]) (A:=K) ((((((((h.front (j:=6) rfl).front (j:=6) rfl).front (j:=6) rfl).front (j:=6) rfl).front (j:=4) rfl).front (j:=5) rfl).erase 7).erase 6))) ?_
    refine GH_nil (ad:=⟨jb,0,none⟩) 5 rfl rfl rfl kr kr kr kr kr (fun w h=>(Sat.takeMid (K:=[_,_,_,_,_,_]) (A:=K) ((((((((h.front (j:=6) rfl).front (j:=6) rfl).front (j:=6) rfl).front (j:=6) rfl).front (j:=4) rfl).front (j:=5) rfl).erase 7).erase 6))) ?_
    refine GH_p (fuel:=4) [(6,0)] (fun w h=>(Sat.takeMid (K:=[_,_,_,_,_,_]) (A:=K) ((((((((h.front (j:=6) rfl).front (j:=6) rfl).front (j:=6) rfl).front (j:=6) rfl).front (j:=4) rfl).front (j:=5) rfl).erase 7).erase 6))) kr rfl ?_
    refine GH_eff 7 kr kr kr ?_
    refine GL_st (i:=7) (ch:=[]) (b:=jb) (off:=2) (v:=.slice a15 ts.length c16) (j:=2) ([(b3,.cells #[p,v] 95 (0,0))]::g13::[(jb,.cells #[pt d,.string dir,.slice a15 ts.length c16,.int .i64 size,.bool (if (tryM (repSteps dir (linesB ts)) M).1 != 0 then down||((tryM (repSteps dir (linesB ts)) M).1 != 61) else down),.bool true] 83 (0,0))]::[(b11,.cells #[.func (.func 53) #[] #[pt b1,pt b3],.func (.func 85) #[] #[pt b9,pt b10],.func (.func 55) #[] #[pt b1],.func (.func 51) #[pt jb] #[]] 91 (0,0))]::[(b10,.cells #[.string (ByteArray.mk #[110,101,119])] 9 (0,0))]::[(b9,.cells #[pt jb] 28 (0,0))]::[(b1,.cells #[pt jb] 28 (0,0))]::rg::(K++(s2.G d (tryM (repSteps dir (linesB ts)) M).2++H))) rfl rfl kr kr kr kr kr kr kr rfl rfl (Nat.le_of_ble_eq_true rfl) (fun _ _=>thaw0) kr ?_
    refine GH_back kr (fun w h=>(Sat.takeMid (K:=[_,_,_,_,_,_]) (A:=K) ((((((((h.front (j:=6) rfl).front (j:=6) rfl).front (j:=6) rfl).front (j:=6) rfl).front (j:=4) rfl).front (j:=5) rfl).erase 7).erase 6))) ?_
    refine GH_nil (ad:=⟨jb,0,none⟩) 8 rfl rfl rfl kr kr kr kr kr (fun w h=>(Sat.takeMid (K:=[_,_,_,_,_,_]) (A:=K) ((((((((h.front (j:=6) rfl).front (j:=6) rfl).front (j:=6) rfl).front (j:=6) rfl).front (j:=4) rfl).front (j:=5) rfl).erase 7).erase 6))) ?_
    refine GH_p (fuel:=1) [(9,0)] (fun w h=>(Sat.takeMid (K:=[_,_,_,_,_,_]) (A:=K) ((((((((h.front (j:=6) rfl).front (j:=6) rfl).front (j:=6) rfl).front (j:=6) rfl).front (j:=4) rfl).front (j:=5) rfl).erase 7).erase 6))) kr rfl ?_
    refine GH_eff 10 kr kr kr ?_
    refine GL_st (i:=10) (ch:=[]) (b:=jb) (off:=3) (v:=.int .i64 (((linesB ts).size : Nat) : Int)) (j:=2) ([(b3,.cells #[p,v] 95 (0,0))]::g13::[(jb,.cells #[pt d,.string dir,.slice a15 ts.length c16,.int .i64 (((linesB ts).size : Nat) : Int),.bool (if (tryM (repSteps dir (linesB ts)) M).1 != 0 then down||((tryM (repSteps dir (linesB ts)) M).1 != 61) else down),.bool true] 83 (0,0))]::[(b11,.cells #[.func (.func 53) #[] #[pt b1,pt b3],.func (.func 85) #[] #[pt b9,pt b10],.func (.func 55) #[] #[pt b1],.func (.func 51) #[pt jb] #[]] 91 (0,0))]::[(b10,.cells #[.string (ByteArray.mk #[110,101,119])] 9 (0,0))]::[(b9,.cells #[pt jb] 28 (0,0))]::[(b1,.cells #[pt jb] 28 (0,0))]::rg::(K++(s2.G d (tryM (repSteps dir (linesB ts)) M).2++H))) rfl rfl kr kr kr kr kr kr kr rfl rfl (Nat.le_of_ble_eq_true rfl) (fun _ _=>thaw0) kr ?_
    refine GH_back kr (fun w h=>(Sat.takeMid (K:=[_,_,_,_,_,_]) (A:=K) ((((((((h.front (j:=6) rfl).front (j:=6) rfl).front (j:=6) rfl).front (j:=6) rfl).front (j:=4) rfl).front (j:=5) rfl).erase 7).erase 6))) ?_
    refine GH_done (E':=[]) [] kr kr ?_
    refine N_then ?_
    refine G_seq ?_
    refine G_pure (E':=[⟨4,[],.int .i64 0⟩]) [0] [4] rfl kr ?_
    refine N_then ?_
    refine G_ret ?_
    refine N_heap (H':=([(jb,.cells #[pt d,.string dir,.slice a15 ts.length c16,.int .i64 (((linesB ts).size : Nat) : Int),.bool (if (tryM (repSteps dir (linesB ts)) M).1 != 0 then down||((tryM (repSteps dir (linesB ts)) M).1 != 61) else down),.bool true] 83 (0,0))]::g13::(K++(s2.G d (tryM (repSteps dir (linesB ts)) M).2++H)))) (fun w h=>((((((((h.front (j:=1) rfl).front (j:=2) rfl).erase 7).erase 6).erase 5).erase 4).erase 3).erase 2)) ?_
    refine N_ret [.tmp 4] [.int .i64 0] rfl kr rfl ?_
    rw [rep_ok hmn hen]; exact ⟨_, _, _, rfl, hO14, hs2, by simp only [hen]; rfl⟩
end Go.Proofs.YtlaoeiaaeifidaaGreat
namespace Go.Proofs.YtlaoeiaaeifidaaGreat
open Go.Sw Go.Lib Go.Vf Go.Sha Go.Jr Go.RowKit
theorem read_le {z w i : Nat} {M : DM} (h : ScrI z w i M) (p : ByteArray) : (readM M p).1.size ≤ z := by
  unfold readM
  split
  · exact Nat.zero_le _
  · exact (scr_at h _).1
theorem small_of {z w i : Nat} {M : DM} (h : ScrI z w i M) (hz : z ≤ 10000000) (hw : w ≤ 10000) (hi : i ≤ 10000) : Small M := (ScrI.small h hz hw hi).small
structure Rep3 (M : DM) (dir b : ByteArray) : Prop where
  m0 : Small M
  m1 : Small (writeM M (pathJ dir newB) b).2
  m2 : Small (syncM (writeM M (pathJ dir newB) b).2 (pathJ dir newB)).2
  m3 : Small (renameM (syncM (writeM M (pathJ dir newB) b).2 (pathJ dir newB)).2 (pathJ dir newB) (pathJ dir logB)).2
theorem rep3 {z w i : Nat} {M : DM} (h : ScrI z w i M) (hz : z ≤ 10000000) (hw : w ≤ 9000 ∧ i ≤ 9000) (dir : ByteArray) {b : ByteArray} (hb : b.size ≤ z) : Rep3 M dir b := by
  have h1 := sI_write h (pathJ dir newB) hb
  have h2 := sI_sync h1 (pathJ dir newB)
  have h3 := sI_rename h2 (pathJ dir newB) (pathJ dir logB)
  exact ⟨small_of h hz (by omega) (by omega), small_of h1 hz (by omega) (by omega), small_of h2 hz (by omega) (by omega), small_of h3 hz (by omega) (by omega)⟩
theorem lines_len (ts : List ByteArray) : 18 * ts.length ≤ (linesB ts).size := by
  induction ts with
  | nil => exact Nat.zero_le _
  | cons t r ih => show 18 * (r.length + 1) ≤ (lineB t ++ linesB r).size; rw [ByteArray.size_append, lineB_size]; omega
theorem repOpen {s : DS} {M : DM} (hs : s.ok M) {z wn i : Nat} (hsc : ScrI z wn i M) (hzb : z ≤ 5000000) (hwb : wn ≤ 5000 ∧ i ≤ 5000) (K : List Grp) (jb d : Nat) (dir : ByteArray) (ra : Option Addr) (rc : Nat) (rg : Grp) (ts : List ByteArray)
    (ho : Go.Sw.Own 9 1 (.slice ra ts.length rc) rg ts.length (strs ts)) (hdir : dir.size ≤ 1000000) (hlb : (linesB ts).size ≤ z) (W0 : World) (H : List Grp) :
    Tri Tryz.prog 18 #[pt jb, .slice ra ts.length rc] W0 (jG jb d dir (.slice ra ts.length rc) ((linesB ts).size : Int) false true :: rg :: (K ++ (s.G d M ++ H))) (CallR (replaceM ⟨dir, ts, ((linesB ts).size : Int), false, true⟩ M ts) jb d K H) :=
  have h3 := rep3 hsc (by omega) (by omega) dir hlb
  have hl := lines_len ts
  repTrue_ hs h3.m0 K jb d dir (.slice ra ts.length rc) rg ts ((linesB ts).size : Int) false ho hdir (by omega) (by omega) ra rc ts (inG rg) (own_rd ho) (by omega) (own_none ho) (by omega) h3.m1 h3.m2 h3.m3 W0 H (at_inG 0 rfl)
end Go.Proofs.YtlaoeiaaeifidaaGreat
namespace Go.Jr
open Go.Sw Go.Lib Go.Vf Go.Sha Go.Proofs.YtlaoeiaaeifidaaGreat
structure Pth (dir : ByteArray) : Prop where
  rp : rightB (pathJ dir logB) = true
  rq : rightB (pathJ dir newB) = true
  dp : dirB (pathJ dir logB) = dir
  dq : dirB (pathJ dir newB) = dir
  dr : dirR dir = true
  ne : (pathJ dir newB == pathJ dir logB) = false
theorem Pth.rn {dir : ByteArray} (h : Pth dir) : renR (pathJ dir newB) (pathJ dir logB) = true := by unfold renR; rw [h.rp, h.rq, h.dp, h.dq, beq_self_eq_true]; rfl
theorem Pth.ne' {dir : ByteArray} (h : Pth dir) : (pathJ dir logB == pathJ dir newB) = false := by
  have := h.ne
  rw [beq_eq_false_iff_ne] at this ⊢
  exact Ne.symm this
theorem lookN_snoc {l : List Nm} {p : ByteArray} {k : Int} (h : lookN l p = none) : lookN (l ++ [(p, k)]) p = some k := by
  induction l with
  | nil => show (if p == p then some k else none) = _; rw [if_pos (beq_self_eq_true p)]
  | cons n r ih =>
    rw [lookN] at h
    rw [List.cons_append, lookN]
    split at h
    · cases h
    · rename_i h1; rw [if_neg h1]; exact ih h
theorem lookN_filter (l : List Nm) (p : ByteArray) : lookN (l.filter fun n => !(p == n.1)) p = none := by
  induction l with
  | nil => rfl
  | cons n r ih =>
    rw [List.filter_cons]
    split
    · rename_i h1; rw [lookN, if_neg (by simpa using h1)]; exact ih
    · exact ih
theorem look_with {l : List Nm} {p : ByteArray} {k : Int} (hk : 0 ≤ k) : lookN (withN l (p, k)) p = some k := by
  unfold withN; rw [if_pos hk]; exact lookN_snoc (lookN_filter l p)
theorem lookN_filter' {l : List Nm} {p q : ByteArray} (h : (q == p) = false) : lookN (l.filter fun n => !(p == n.1)) q = lookN l q := by
  induction l with
  | nil => rfl
  | cons n r ih =>
    rw [List.filter_cons]
    split
    · rw [lookN, lookN, ih]
    · rename_i h1
      have e : p = n.1 := by simpa using h1
      rw [ih, lookN, ← e, h]; rfl
theorem lookN_app {l r : List Nm} {p : ByteArray} : lookN (l ++ r) p = match lookN l p with | some k => some k | none => lookN r p := by
  induction l with
  | nil => rfl
  | cons n l ih =>
    rw [List.cons_append, lookN, lookN]
    split
    · rfl
    · exact ih
theorem look_with' {l : List Nm} {p q : ByteArray} {k : Int} (h : (q == p) = false) : lookN (withN l (p, k)) q = lookN l q := by
  unfold withN
  rw [lookN_app, lookN_filter' h]
  cases hl : lookN l q with
  | some k => rfl
  | none =>
    simp only
    split
    · rw [lookN, if_neg (by rw [h]; decide)]; rfl
    · rfl
def wriD (M : DM) (dir l : ByteArray) : DM := { M with bodies := M.bodies ++ [⟨l, l⟩], names := withN M.names (pathJ dir logB, (M.bodies.length : Int)), kept := (chOf (M.changes ++ ([⟨dir, [(pathJ dir logB, (M.bodies.length : Int))]⟩] : List Ch)) dir).foldl applyN M.kept, changes := (M.changes ++ ([⟨dir, [(pathJ dir logB, (M.bodies.length : Int))]⟩] : List Ch)).filter fun c => !(dir == c.dir) }
def appD (M : DM) (k : Int) (l : ByteArray) : DM := setBody M k ⟨(bodyAt M k).now ++ l, (bodyAt M k).now ++ l⟩
def repN (N : List Nm) (dir : ByteArray) (n : Int) : List Nm := applyN (withN N (pathJ dir newB, n)) [(pathJ dir newB, -1), (pathJ dir logB, n)]
def repC (cs : List Ch) (dir : ByteArray) (n : Int) : List Ch := (cs ++ ([⟨dir, [(pathJ dir newB, n)]⟩] : List Ch)) ++ ([⟨dir, [(pathJ dir newB, -1), (pathJ dir logB, n)]⟩] : List Ch)
def repD (M : DM) (dir b : ByteArray) : DM := { M with bodies := M.bodies ++ [⟨b, b⟩], names := repN M.names dir (M.bodies.length : Int), kept := (chOf (repC M.changes dir (M.bodies.length : Int)) dir).foldl applyN M.kept, changes := (repC M.changes dir (M.bodies.length : Int)).filter fun c => !(dir == c.dir) }
theorem getD_snoc {α : Type} (l : List α) (x d : α) : (l ++ [x]).getD l.length d = x := by simp [List.getD]
theorem set_snoc {α : Type} (l : List α) (x y : α) : (l ++ [x]).set l.length y = l ++ [y] := by simp
def wr1 (M : DM) (p b : ByteArray) : DM := changeM { M with bodies := M.bodies ++ [⟨b, ByteArray.mk #[]⟩] } (dirB p) [(p, (M.bodies.length : Int))]
def wr2 (M : DM) (p b : ByteArray) : DM := changeM { M with bodies := M.bodies ++ [⟨b, b⟩] } (dirB p) [(p, (M.bodies.length : Int))]
theorem write_run {M : DM} {p b : ByteArray} (hr : rightB p = true) (hf : M.fails = false) (hroom : (usedM M : Int) - (wasM M p : Int) + (b.size : Int) ≤ M.room) :
    writeM M p b = (0, wr1 M p b) := by
  obtain ⟨h1, h2⟩ := err_ok hr hf
  rw [writeM_ok h1 (by omega), h2]; rfl
theorem sync_run {M : DM} {p : ByteArray} {k : Int} (hr : rightB p = true) (hf : M.fails = false) (hl : lookN M.names p = some k) : syncM M p = (0, setBody M k ⟨(bodyAt M k).now, (bodyAt M k).now⟩) := by
  obtain ⟨h1, h2⟩ := err_ok hr hf
  rw [syncM_ok h1 hl, h2]
theorem sdir_run {M : DM} {d : ByteArray} (hr : dirR d = true) (hf : M.fails = false) : syncDirM M d = (0, { M with kept := (chOf M.changes d).foldl applyN M.kept, changes := M.changes.filter fun c => !(d == c.dir) }) := by
  obtain ⟨h1, h2⟩ := err_ok hr hf
  rw [syncDirM_ok h1, h2]
theorem ren_run {M : DM} {p q : ByteArray} {k : Int} (hr : renR p q = true) (hf : M.fails = false) (hl : lookN M.names p = some k) (hne : (p == q) = false) : renameM M p q = (0, changeM M (dirB q) [(p, -1), (q, k)]) := by
  obtain ⟨h1, h2⟩ := err_ok hr hf
  rw [renameM_ok h1 hl hne, h2]
theorem app_run {M : DM} {p b : ByteArray} {k : Int} (hr : rightB p = true) (hf : M.fails = false) (hl : lookN M.names p = some k) (hroom : (usedM M : Int) + (b.size : Int) ≤ M.room) : appendM M p b = (0, setBody M k ⟨(bodyAt M k).now ++ b, (bodyAt M k).kept⟩) := by
  obtain ⟨h1, h2⟩ := err_ok hr hf
  rw [appendM_ok h1 hl (by omega), h2]
theorem try_ok {f : DM → Int × DM} {r : List (DM → Int × DM)} {M M' : DM} (h : f M = (0, M')) : tryM (f :: r) M = tryM r M' := by
  rw [tryM_cons, h]; rfl
theorem sync_new {M : DM} {p b : ByteArray} (hr : rightB p = true) (hf : M.fails = false) : syncM (wr1 M p b) p = (0, wr2 M p b) := by
  rw [sync_run (M := wr1 M p b) hr hf (k := (M.bodies.length : Int)) (look_with (l := M.names) (Int.natCast_nonneg _))]
  unfold setBody bodyAt wr1 wr2 changeM
  simp only [Int.toNat_natCast, getD_snoc, set_snoc]
theorem wri_run {M : DM} {dir l : ByteArray} (h : Pth dir) (hf : M.fails = false) (hroom : (usedM M : Int) - (wasM M (pathJ dir logB) : Int) + (l.size : Int) ≤ M.room) : tryM (stWri dir l) M = (0, wriD M dir l) := by
  unfold stWri
  rw [try_ok (write_run h.rp hf hroom), try_ok (sync_new h.rp hf), try_ok (sdir_run (M := wr2 M (pathJ dir logB) l) h.dr hf)]
  unfold wr2 changeM wriD
  rw [h.dp]; rfl
theorem rep_run {M : DM} {dir b : ByteArray} (h : Pth dir) (hf : M.fails = false) (hroom : (usedM M : Int) - (wasM M (pathJ dir newB) : Int) + (b.size : Int) ≤ M.room) : tryM (repSteps dir b) M = (0, repD M dir b) := by
  unfold repSteps
  rw [try_ok (write_run h.rq hf hroom), try_ok (sync_new h.rq hf), try_ok (ren_run (M := wr2 M (pathJ dir newB) b) h.rn hf (look_with (l := M.names) (Int.natCast_nonneg M.bodies.length)) h.ne),
    try_ok (sdir_run (M := changeM (wr2 M (pathJ dir newB) b) (dirB (pathJ dir logB)) [(pathJ dir newB, -1), (pathJ dir logB, (M.bodies.length : Int))]) h.dr hf)]
  unfold wr2 changeM repD repC repN
  simp only [h.dp, h.dq]; rfl
theorem set_set {M : DM} {k : Int} {A B : Body} : setBody (setBody M k A) k B = setBody M k B := by unfold setBody; simp
theorem body_set {M : DM} {k : Int} {A : Body} (hk : k.toNat < M.bodies.length) : bodyAt (setBody M k A) k = A := by unfold bodyAt setBody; simp [List.getD, hk]
theorem app_run2 {M : DM} {dir l : ByteArray} {k : Int} (h : Pth dir) (hf : M.fails = false) (hl : lookN M.names (pathJ dir logB) = some k) (hk : k.toNat < M.bodies.length) (hroom : (usedM M : Int) + (l.size : Int) ≤ M.room) : tryM (stApp dir l) M = (0, appD M k l) := by
  unfold stApp
  rw [try_ok (app_run h.rp hf hl hroom), try_ok (sync_run (M := setBody M k ⟨(bodyAt M k).now ++ l, (bodyAt M k).kept⟩) h.rp hf (k := k) hl)]
  rw [body_set hk, set_set]
  rfl
theorem add_first {M : DM} {dir t : ByteArray} (h : Pth dir) (hf : M.fails = false) (ht : rightJ t = true) (hroom : (usedM M : Int) - (wasM M (pathJ dir logB) : Int) + ((lineB t).size : Int) ≤ M.room) :
    addM ⟨dir, [], 0, false, false⟩ M t = (0, ⟨dir, [t], ((lineB t).size : Int), false, true⟩, wriD M dir (lineB t)) := by
  have hw := wri_run h hf hroom
  have h0 : ¬ (mayI [t] false != 0) = true := by simp [mayI, ht]
  rw [add_ok h0 (show addSteps ⟨dir, [], 0, false, false⟩ (lineB t) = stWri dir (lineB t) from rfl) (by rw [hw]; simp), hw]
  simp
theorem add_next {M : DM} {dir t : ByteArray} {L : List ByteArray} {z k : Int} (h : Pth dir) (hf : M.fails = false) (ht : rightJ t = true) (hl : lookN M.names (pathJ dir logB) = some k) (hk : k.toNat < M.bodies.length) (hroom : (usedM M : Int) + ((lineB t).size : Int) ≤ M.room) :
    addM ⟨dir, L, z, false, true⟩ M t = (0, ⟨dir, L ++ [t], z + ((lineB t).size : Int), false, true⟩, appD M k (lineB t)) := by
  have hw := app_run2 h hf hl hk hroom
  have h0 : ¬ (mayI [t] false != 0) = true := by simp [mayI, ht]
  rw [add_ok h0 (show addSteps ⟨dir, L, z, false, true⟩ (lineB t) = stApp dir (lineB t) from rfl) (by rw [hw]; simp), hw]
theorem add_bad {M : DM} {j : JM} {t : ByteArray} (ht : rightJ t = false) : addM j M t = (2, j, M) := by unfold addM; rw [ht]; rfl
theorem rep_good {M : DM} {dir : ByteArray} {L ts : List ByteArray} {z : Int} {th : Bool} (h : Pth dir) (hf : M.fails = false) (ht : ∀ t ∈ ts, rightJ t = true) (hroom : (usedM M : Int) - (wasM M (pathJ dir newB) : Int) + ((linesB ts).size : Int) ≤ M.room) :
    replaceM ⟨dir, L, z, false, th⟩ M ts = (0, ⟨dir, ts, ((linesB ts).size : Int), false, true⟩, repD M dir (linesB ts)) := by
  have hw := rep_run (b := linesB ts) h hf hroom
  have h0 : ¬ (mayI ts false != 0) = true := by
    have : ts.any (fun t => !rightJ t) = false := by rw [List.any_eq_false]; intro t h1; rw [ht t h1]; decide
    simp [mayI, this]
  rw [rep_ok h0 (by rw [hw]; simp), hw]
end Go.Jr
namespace Go.Jr
open Go.Sw Go.Lib Go.Vf Go.Sha Go.Proofs.YtlaoeiaaeifidaaGreat
theorem u8_10 {x : UInt8} (h : ((x.toNat : Nat) : Int) = 10) : x = 10 := UInt8.toNat_inj.1 (by
  have : ((10 : UInt8).toNat : Int) = 10 := rfl
  omega)
def NoLf (s : ByteArray) : Prop := ∀ x ∈ s.data.toList, x ≠ 10
theorem byteAt_lt {s : ByteArray} {j : Nat} (h : j < s.size) : byteAt s (j : Int) = ((s.data.toList[j]'(by rw [Array.length_toList]; exact h)).toNat : Int) := by
  unfold byteAt
  rw [Int.toNat_natCast, List.getElem?_eq_getElem (by rw [Array.length_toList]; exact h)]; rfl
theorem noLf_noB {s : ByteArray} (h : NoLf s) : noB s 10 s.size := fun j hj e => by
  rw [byteAt_lt hj] at e
  exact absurd (u8_10 e) (h _ (List.getElem_mem _))
theorem noLf_of {s : ByteArray} (h : noB s 10 s.size) : NoLf s := fun x hx e => by
  obtain ⟨j, hj, rfl⟩ := List.getElem_of_mem hx
  have hj' : j < s.size := by rw [Array.length_toList] at hj; exact hj
  refine h j hj' ?_
  rw [byteAt_lt hj', e]; rfl
theorem noLf_iff {s : ByteArray} : lf s < 0 ↔ NoLf s := by
  rcases bIdx_spec s (c := 10) (by omega) (by omega) with ⟨k, hk, he, hb, _⟩ | ⟨he, hn⟩
  · have : lf s = k := he
    refine ⟨fun h => absurd h (by omega), fun h => absurd hb (noLf_noB h k hk)⟩
  · have : lf s = -1 := he
    exact ⟨fun _ => noLf_of hn, fun _ => by omega⟩
theorem rightJ_iff {t : ByteArray} : rightJ t = true ↔ t.size ≤ 1048576 ∧ NoLf t := by
  unfold rightJ
  rw [← noLf_iff]
  simp only [Bool.and_eq_true, decide_eq_true_eq, Bool.not_eq_true', decide_eq_false_iff_not]
  omega
theorem toL (a b : ByteArray) : (a ++ b).data.toList = a.data.toList ++ b.data.toList := by rw [ByteArray.data_append, Array.toList_append]
theorem lenL (a : ByteArray) : a.data.toList.length = a.size := Array.length_toList
theorem ext_L {a b : ByteArray} (h : a.data.toList = b.data.toList) : a = b := ByteArray.ext (Array.toList_inj.1 h)
theorem exL (a : ByteArray) (i j : Nat) : (a.extract i j).data.toList = (a.data.toList.take j).drop i := by
  rw [ByteArray.data_extract, Array.toList_extract, List.extract_eq_take_drop, List.drop_take]
def lfB : ByteArray := ByteArray.mk #[10]
theorem lf_at {a b : ByteArray} (h : NoLf a) : lf ((a ++ lfB) ++ b) = a.size := by
  have hz : a.size < ((a ++ lfB) ++ b).size := by simp only [ByteArray.size_append]; show a.size < a.size + 1 + b.size; omega
  refine bIdx_eq (by omega) (by omega) hz ?_ ?_
  · rw [byteAt_lt hz]
    simp only [toL]
    rw [List.getElem_append_left (by rw [List.length_append, lenL]; show a.size < a.size + 1; omega), List.getElem_append_right (by rw [lenL]; omega)]
    simp only [lenL, Nat.sub_self]; rfl
  · intro j hj e
    rw [byteAt_lt (show j < ((a ++ lfB) ++ b).size by omega)] at e
    simp only [toL] at e
    rw [List.getElem_append_left (by rw [List.length_append, lenL]; omega), List.getElem_append_left (by rw [lenL]; omega)] at e
    exact absurd (u8_10 e) (h _ (List.getElem_mem _))
theorem ex_head {a b : ByteArray} : ((a ++ lfB) ++ b).extract 0 a.size = a := ext_L (by
  rw [exL, toL, toL, List.drop_zero, List.append_assoc, ← lenL, List.take_left])
theorem ex_tail {a b : ByteArray} : ((a ++ lfB) ++ b).extract (a.size + 1) ((a ++ lfB) ++ b).size = b := ext_L (by
  rw [exL, ← lenL ((a ++ lfB) ++ b), List.take_length, toL, toL]
  rw [show a.size + 1 = (a.data.toList ++ lfB.data.toList).length by rw [List.length_append, lenL]; rfl, List.drop_left])
theorem hex2_no : (List.range 256).all (fun n => (hex2 ((n : Nat) : Int)).all fun b => b != 10) = true := by decide +kernel
theorem hexK_no (l : List UInt8) (j : Nat) : ∀ x ∈ hexK l j, x ≠ 10 := fun x hx => by
  unfold hexK at hx
  obtain ⟨b, _, hb⟩ := List.mem_flatMap.1 hx
  have := List.all_eq_true.1 hex2_no b.toNat (List.mem_range.2 b.toNat_lt)
  have := List.all_eq_true.1 this x hb
  simpa using this
theorem hx_no (t : ByteArray) : NoLf (hx t) := fun x hx' => by
  unfold hx at hx'
  rw [exL] at hx'
  exact hexK_no (sumB t.data.toList) 32 x (List.mem_of_mem_take (List.mem_of_mem_drop hx'))
theorem noLf_app {a b : ByteArray} (ha : NoLf a) (hb : NoLf b) : NoLf (a ++ b) := fun x hx => by
  rw [toL] at hx
  rcases List.mem_append.1 hx with h | h
  · exact ha x h
  · exact hb x h
def bodyL (t : ByteArray) : ByteArray := (hx t ++ ByteArray.mk #[32]) ++ t
theorem lineB_eq (t : ByteArray) : lineB t = bodyL t ++ lfB := rfl
theorem bodyL_size (t : ByteArray) : (bodyL t).size = t.size + 17 := by
  simp only [bodyL, ByteArray.size_append, hx_size]; show 16 + 1 + t.size = _; omega
theorem bodyL_no {t : ByteArray} (h : rightJ t = true) : NoLf (bodyL t) :=
  noLf_app (noLf_app (hx_no t) (fun x hx => by
    have : x = 32 := by simpa using hx
    rw [this]; decide)) (rightJ_iff.1 h).2
theorem bodyL_text (t : ByteArray) : (bodyL t).extract 17 (bodyL t).size = t := ext_L (by
  rw [exL, ← lenL (bodyL t), List.take_length, bodyL, toL]
  rw [show 17 = (hx t ++ ByteArray.mk #[32]).data.toList.length by rw [lenL, ByteArray.size_append, hx_size]; rfl, List.drop_left])
theorem bodyL_ok {t : ByteArray} (h : rightJ t = true) : okB (bodyL t) = true ∧ textB (bodyL t) = t := by
  have h1 : ¬ ((bodyL t).size : Int) ≤ 16 := by rw [bodyL_size]; omega
  unfold okB textB
  rw [if_neg h1, if_neg h1, bodyL_text, h]
  exact ⟨by rw [show lineB t = bodyL t ++ ByteArray.mk #[10] from rfl, beq_self_eq_true]; rfl, rfl⟩
theorem cut_line {t r : ByteArray} (h : rightJ t = true) : cutL (lineB t ++ r) = some (t, r) := by
  have e : lf (lineB t ++ r) = (bodyL t).size := by rw [lineB_eq]; exact lf_at (bodyL_no h)
  have e1 : (lineB t ++ r).extract 0 (lf (lineB t ++ r)).toNat = bodyL t := by rw [e, Int.toNat_natCast, lineB_eq]; exact ex_head
  have e2 : (lineB t ++ r).extract ((lf (lineB t ++ r)).toNat + 1) (lineB t ++ r).size = r := by rw [e, Int.toNat_natCast, lineB_eq]; exact ex_tail
  rw [cut_some (by rw [e]; omega) (by rw [e1]; exact (bodyL_ok h).1), e1, e2, (bodyL_ok h).2]
theorem parse_app : ∀ {ts : List ByteArray} {x : ByteArray}, (∀ t ∈ ts, rightJ t = true) → parseB (linesB ts ++ x) = (ts ++ (parseB x).1, (parseB x).2)
  | [], x, _ => by show parseB (ByteArray.empty ++ x) = _; rw [ByteArray.empty_append]; simp
  | t :: ts, x, h => by
    show parseB ((lineB t ++ linesB ts) ++ x) = _
    rw [ByteArray.append_assoc, parseB_some (cut_line (h t List.mem_cons_self)), parse_app fun u hu => h u (List.mem_cons_of_mem _ hu)]
    rfl
theorem parse_noLf {x : ByteArray} (h : NoLf x) : parseB x = ([], x) := parseB_none (cut_none1 (noLf_iff.2 h))
theorem noLf_empty : NoLf ByteArray.empty := fun x hx => by simp at hx
theorem parse_lines {ts : List ByteArray} (h : ∀ t ∈ ts, rightJ t = true) : parseB (linesB ts) = (ts, .empty) := by
  have := parse_app (x := .empty) h
  rw [ByteArray.append_empty, parse_noLf noLf_empty] at this
  simpa using this
end Go.Jr
namespace Go.Proofs.YtlaoeiaaeifidaaGreat
open Go.Sw Go.Lib Go.Vf Go.Sha Go.Jr Go.RowKit
theorem open_ {s : DS} {M : DM} (hs : s.ok M) (z wn i : Nat) (hsc : ScrI z wn i M) (hzb : z ≤ 5000000) (hwb : wn ≤ 5000 ∧ i ≤ 5000) (K : List Grp) (d : Nat) (dir : ByteArray) (hdir : dir.size ≤ 1000000) (W0 : World) (H : List Grp) : Tri Tryz.prog 10 #[pt d, .string dir] W0 (K ++ (s.G d M ++ H)) (OpenR (openM M dir) d K H) := by
 have hsz : ∀ B ∈ M.bodies, B.now.size ≤ 10000000 := fun B hB => by have := (hsc.size B hB).1; omega
 have hfull : (readM M (pathJ dir logB)).1.size ≤ z := read_le hsc _
 refine Tri_of (args := [pt d, .string dir]) (n := 96) Tryz.func10 rfl rfl (Nat.le_of_ble_eq_true rfl) ?_
 refine G_seq ?_
 refine G_pure (E':=[⟨0,[],pt d⟩,⟨1,[],.string dir⟩]) [0,0] [0,1] rfl kr ?_
 refine N_then ?_
 refine G_seq ?_
 refine G_block ?_
 refine G_seq ?_
 refine G_pure (E':=[⟨0,[],pt d⟩,⟨1,[],.string dir⟩,⟨16,[],.bool false⟩]) [0,0,0] [0,1,16] rfl kr ?_
 refine N_then ?_
 refine G_condf kr ?_
 refine G_seq ?_
 refine G_region ?_
 refine GL_p [0] kr (j:=1) rfl ?_
 refine GL_callQ (i:=1) (ch:=[]) (f:=34) (fst:=#[]) (caps:=#[]) (vs:=[.string dir]) (v:=.bool (rightB dir)) rfl rfl rfl kr kr Tryz.func34 rfl rfl kr kr kr (fun _=>vfsRight _ (by omega) _ _) ?_
 refine GL_p [0,0,0] kr (j:=5) rfl ?_
 refine GL_callQ (i:=5) (ch:=[(23,false)]) (f:=39) (fst:=#[]) (caps:=#[]) (vs:=[.string dir,.string (ByteArray.mk #[47])]) (v:=.bool (decide (slash dir ≥ 0))) rfl rfl rfl kr kr Tryz.func39 rfl rfl kr kr kr (fun hc=>strContainsS _ _ _) ?_
 refine GL_fin (E':=[⟨0,[],pt d⟩,⟨1,[],.string dir⟩,⟨19,[],.bool ((!(rightB dir))||(decide (slash dir ≥ 0)))⟩]) [5,0] [0,1,19] rfl kr ?_
 refine N_then ?_
 refine G_cond (b:=(!(rightB dir))||(decide (slash dir ≥ 0))) kr (fun hc1=>?_) (fun hc1=>?_)
 ·
  have hbad := hc1
  refine G_seq ?_
  refine G_pure (E':=[⟨4,[],.pointer none⟩,⟨5,[],.int .i64 2⟩]) [0,0] [4,5] rfl kr ?_
  refine N_then ?_
  refine G_ret ?_
  refine N_block_ret ?_
  refine N_then_ret ?_
  refine N_ret [.tmp 4,.tmp 5] [.pointer none,.int .i64 2] rfl kr rfl ?_
  rw [open_bad hbad]; exact ⟨rfl, s, hs, rfl⟩
 ·
  have hgood := hc1
  refine G_skip ?_
  refine N_block ?_
  refine N_then ?_
  refine G_seq ?_
  refine G_region ?_
  refine GL_p [0,0,0] kr (j:=3) rfl ?_
  refine GL_box (i:=3) (ch:=[]) (v:=.agg #[pt d,.string dir,.slice none 0 0,.int .i64 0,.bool false,.bool false]) rfl rfl kr kr kr kr (fun b2=>?_)
  refine GL_fin (E':=[⟨0,[],pt d⟩,⟨6,[],pt b2⟩]) [0] [0,6] rfl kr ?_
  refine N_then ?_
  refine G_seq ?_
  refine G_region ?_
  refine GL_p [0,0] kr (j:=2) rfl ?_
  refine GL_callQ (i:=2) (ch:=[]) (f:=40) (fst:=#[]) (caps:=#[]) (vs:=[pt b2,.string (ByteArray.mk #[108,111,103])]) (v:=.string (pathJ dir (ByteArray.mk #[108,111,103]))) rfl rfl rfl kr kr Tryz.func40 rfl rfl kr kr kr (fun _=>path_ _ _ _ _ _ _ _ _ (show dir.size+3 ≤ 1000000000 by omega) _ _ (At.grp 0 0 rfl rfl)) ?_
  refine GL_call (i:=3) (ch:=[]) (f:=13) (fst:=#[]) (caps:=#[]) (vs:=[pt d,.string (pathJ dir (ByteArray.mk #[108,111,103]))]) rfl rfl rfl kr kr Tryz.func13 rfl rfl kr kr (chSure_of kr) (dRead (b:=(readM M (pathJ dir logB)).1) (e:=(readM M (pathJ dir logB)).2) hs hsz d (pathJ dir logB) (([[(b2,.cells #[pt d,.string dir,.slice none 0 0,.int .i64 0,.bool false,.bool false] 83 (0,0))]] : List Grp)++K) _ H rfl) ?_
  rintro v H' ⟨ra3, rc4, g5, rfl, hrc6, hrd7, rfl⟩
  refine GL_fin (E':=[⟨6,[],pt b2⟩,⟨7,[],.slice ra3 ((readM M (pathJ dir logB)).1.size) rc4⟩,⟨8,[],.int .i64 ((readM M (pathJ dir logB)).2)⟩]) [0,0,0,0,0] [6,7,8] rfl kr ?_
  refine N_then ?_
  refine G_seq ?_
  refine G_seq ?_
  refine G_pure (E':=[⟨6,[],pt b2⟩,⟨7,[],.slice ra3 ((readM M (pathJ dir logB)).1.size) rc4⟩,⟨39,[],.bool (((readM M (pathJ dir logB)).2) != 0)⟩]) [0,0] [6,7,39] rfl kr ?_
  refine N_then ?_
  refine G_cond (b:=((readM M (pathJ dir logB)).2) != 0) kr (fun hc8=>?_) (fun hc8=>?_)
  ·
   have hne := hc8
   refine G_seq ?_
   refine G_pure (E':=[⟨4,[],pt b2⟩,⟨5,[],.int .i64 0⟩]) [0,0,0] [4,5] rfl kr ?_
   refine N_then ?_
   refine G_ret ?_
   refine N_then_ret ?_
   refine N_heap (H':=([(b2,.cells #[pt d,.string dir,.slice none 0 0,.int .i64 0,.bool false,.bool false] 83 (0,0))]::[]::(K++(s.G d M++H)))) (fun w h=>Sat.flat (h.erase 0) (List.Perm.refl _)) ?_
   refine N_ret [.tmp 4,.tmp 5] [pt b2,.int .i64 0] rfl kr rfl ?_
   rw [open_no hgood hne]; exact ⟨_, _, _, _, rfl, Go.Sw.Own.nil, hs, rfl⟩
  ·
   have hok := hc8
   refine G_skip ?_
   refine N_then ?_
   refine G_seq ?_
   refine G_region ?_
   refine GL_p [0,0,0] kr (j:=3) rfl ?_
   refine GL_st (i:=3) (ch:=[]) (b:=b2) (off:=5) (v:=.bool true) (j:=1) (g5::[(b2,.cells #[pt d,.string dir,.slice none 0 0,.int .i64 0,.bool false,.bool true] 83 (0,0))]::(K++(s.G d M++H))) rfl rfl kr kr kr kr kr kr kr rfl rfl (Nat.le_of_ble_eq_true rfl) (fun _ _=>thaw0) kr ?_
   refine GL_fin (E':=[⟨6,[],pt b2⟩,⟨7,[],.slice ra3 ((readM M (pathJ dir logB)).1.size) rc4⟩]) [] [6,7] rfl kr ?_
   refine N_then ?_
   refine G_seq ?_
   refine G_region ?_
   refine GL_p [0] kr (j:=1) rfl ?_
   refine GL_bytesB (i:=1) (ch:=[]) (a:=ra3) (cap:=rc4) (e:=5) (S:=(inG g5)) ((readM M (pathJ dir logB)).1) rfl rfl kr kr kr kr kr kr kr hrd7 (at_inG 0 rfl) ?_
   refine GL_fin (E':=[⟨6,[],pt b2⟩,⟨9,[],.string ((readM M (pathJ dir logB)).1)⟩]) [0] [6,9] rfl kr ?_
   refine N_then ?_
   refine G_seq ?_
   refine G_block ?_
   refine G_heap (H':=([(b2,.cells #[pt d,.string dir,.slice none 0 0,.int .i64 0,.bool false,.bool true] 83 (0,0))]::[]::g5::(K++(s.G d M++H)))) (fun w h=>Sat.flat (h.front (j:=1) rfl) (List.Perm.refl _)) ?_
   refine G_loop (EI:=(fun ξ : ByteArray × List ByteArray × Option Addr × Nat × Grp=>[⟨6,[],pt b2⟩,⟨9,[],.string ξ.1⟩])) (HI:=(fun ξ : ByteArray × List ByteArray × Option Addr × Nat × Grp=>([(b2,.cells #[pt d,.string dir,.slice ξ.2.2.1 ξ.2.1.length ξ.2.2.2.1,.int .i64 ((linesB ξ.2.1).size : Int),.bool false,.bool true] 83 (0,0))]::ξ.2.2.2.2::g5::(K++(s.G d M++H))))) (Φ:=(fun ξ : ByteArray × List ByteArray × Option Addr × Nat × Grp=>(Parsed (readM M (pathJ dir logB)).1 ξ.2.1 ξ.1)∧(Go.Sw.Own 9 1 (.slice ξ.2.2.1 ξ.2.1.length ξ.2.2.2.1) ξ.2.2.2.2 ξ.2.1.length (strs ξ.2.1)))) (μ:=(fun ξ : ByteArray × List ByteArray × Option Addr × Nat × Grp=>ξ.1.size)) (s0:=((readM M (pathJ dir logB)).1,[],none,0,[])) [6,9] kr rfl ⟨(parsed0 _),Go.Sw.Own.nil⟩ ?_
   rintro ⟨all, ts, ra, rc, rg⟩ ⟨hpz, ho⟩
   dsimp only at hpz ho
   have hpl := hpz.len
   have hps := hpz.sz
   have hfz := hfull
   refine G_block ?_
   refine G_seq ?_
   refine G_region ?_
   refine GL_p [0] kr (j:=1) rfl ?_
   refine GL_call (i:=1) (ch:=[]) (f:=41) (fst:=#[]) (caps:=#[]) (vs:=[.string all,.string (ByteArray.mk #[10])]) rfl rfl rfl kr kr Tryz.func41 rfl rfl kr kr (chSure_of kr) (stringsCutL _ (by first | omega | (simp only [ByteArray.size_extract]; omega)) _ _) ?_
   rintro v H' ⟨rfl, rfl⟩
   by_cases hs9 : lf all < 0
   ·
    rw [if_pos hs9]
    refine GL_fin (E':=[⟨6,[],pt b2⟩,⟨9,[],.string all⟩,⟨10,[],.string all⟩,⟨11,[],.string (ByteArray.mk #[])⟩,⟨12,[],.bool false⟩]) [0,0,0,0,0,0,0] [6,9,10,11,12] rfl kr ?_
    refine N_then ?_
    refine G_seq ?_
    refine G_region ?_
    refine GL_p [0] kr (j:=1) rfl ?_
    refine GL_callQ (i:=1) (ch:=[]) (f:=42) (fst:=#[]) (caps:=#[]) (vs:=[.string all]) (v:=.tuple #[.string (textB all),.bool (okB all)]) rfl rfl rfl kr kr Tryz.func42 rfl rfl kr kr kr (fun _=>text_ _ (by first | omega | (rw [ByteArray.size_extract]; omega)) _ _) ?_
    refine GL_fin (E':=[⟨6,[],pt b2⟩,⟨9,[],.string all⟩,⟨10,[],.string all⟩,⟨11,[],.string (ByteArray.mk #[])⟩,⟨12,[],.bool false⟩,⟨13,[],.string (textB all)⟩,⟨14,[],.bool (okB all)⟩]) [0,0,0,0,0] [6,9,10,11,12,13,14] rfl kr ?_
    refine N_then ?_
    refine G_seq ?_
    refine G_seq ?_
    refine G_pure (E':=[⟨6,[],pt b2⟩,⟨9,[],.string all⟩,⟨10,[],.string all⟩,⟨11,[],.string (ByteArray.mk #[])⟩,⟨13,[],.string (textB all)⟩,⟨62,[],.bool true⟩]) [0,0,0,1,1,2] [6,9,10,11,13,62] rfl kr ?_
    refine N_then ?_
    refine G_condt kr ?_
    refine G_exit ?_
    refine N_then_exit ?_
    refine N_block_other rfl ?_
    refine N_then_exit ?_
    refine N_block_exit ?_
    refine N_then ?_
    refine G_seq ?_
    refine G_seq ?_
    refine G_pure (E':=[⟨6,[],pt b2⟩,⟨85,[],.bool (!(all.toList == (ByteArray.mk #[]).toList))⟩]) [0,0] [6,85] rfl kr ?_
    refine N_then ?_
    refine G_cond (b:=!(all.toList == (ByteArray.mk #[]).toList)) kr (fun hc10=>?_) (fun hc10=>?_)
    ·
     have hall := hc10
     refine G_seq ?_
     refine G_region ?_
     refine GL_p [0,0,0,0] kr (j:=4) rfl ?_
     refine GL_load (i:=4) (ch:=[]) (b:=b2) (off:=2) (v:=.slice ra ts.length rc) rfl rfl kr kr kr kr kr (At.grp 0 0 rfl rfl) rfl ?_
     refine GL_call (i:=5) (ch:=[]) (f:=18) (fst:=#[]) (caps:=#[]) (vs:=[pt b2,.slice ra ts.length rc]) rfl rfl rfl kr kr Tryz.func18 rfl rfl kr kr (chSure_of kr) (repOpen hs hsc hzb hwb ([g5]++K) b2 d dir ra rc rg ts ho hdir (by omega) W0 H) ?_
     rintro v H' ⟨rv11, g12, s13, rfl, hO14, hs15, rfl⟩
     refine GL_fin (E':=[⟨6,[],pt b2⟩,⟨15,[],.int .i64 ((replaceM ⟨dir,ts,((linesB ts).size : Int),false,true⟩ M ts).1)⟩]) [0] [6,15] rfl kr ?_
     refine N_then ?_
     refine G_seq ?_
     refine G_pure (E':=[⟨6,[],pt b2⟩,⟨15,[],.int .i64 ((replaceM ⟨dir,ts,((linesB ts).size : Int),false,true⟩ M ts).1)⟩,⟨93,[],.bool (((replaceM ⟨dir,ts,((linesB ts).size : Int),false,true⟩ M ts).1) != 0)⟩]) [0,0] [6,15,93] rfl kr ?_
     refine N_then ?_
     refine G_cond (b:=((replaceM ⟨dir,ts,((linesB ts).size : Int),false,true⟩ M ts).1) != 0) kr (fun hc16=>?_) (fun hc16=>?_)
     ·
      have herr := hc16
      refine G_seq ?_
      refine G_pure (E':=[⟨4,[],.pointer none⟩,⟨5,[],.int .i64 ((replaceM ⟨dir,ts,((linesB ts).size : Int),false,true⟩ M ts).1)⟩]) [0,0,0] [4,5] rfl kr ?_
      refine N_then ?_
      refine G_ret ?_
      refine N_then_ret ?_
      refine N_heap (H':=(K++(s13.G d (replaceM ⟨dir,ts,((linesB ts).size : Int),false,true⟩ M ts).2.2++H))) (fun w h=>(((h.erase 2).erase 1).erase 0)) ?_
      refine N_ret [.tmp 4,.tmp 5] [.pointer none,.int .i64 ((replaceM ⟨dir,ts,((linesB ts).size : Int),false,true⟩ M ts).1)] rfl kr rfl ?_
      rw [open_err hgood hok (parsed_end hpz (cut_none1 hs9)) hall herr]; exact ⟨rfl, _, hs15, rfl⟩
     ·
      have herr := hc16
      refine G_skip ?_
      refine N_then ?_
      refine G_seq ?_
      refine G_pure (E':=[⟨4,[],pt b2⟩,⟨5,[],.int .i64 0⟩]) [0,0,0] [4,5] rfl kr ?_
      refine N_then ?_
      refine G_ret ?_
      refine N_heap (H':=([(b2,.cells #[pt d,.string ((replaceM ⟨dir,ts,((linesB ts).size : Int),false,true⟩ M ts).2.1.dir),rv11,.int .i64 ((replaceM ⟨dir,ts,((linesB ts).size : Int),false,true⟩ M ts).2.1.size),.bool ((replaceM ⟨dir,ts,((linesB ts).size : Int),false,true⟩ M ts).2.1.down),.bool ((replaceM ⟨dir,ts,((linesB ts).size : Int),false,true⟩ M ts).2.1.there)] 83 (0,0))]::g12::(K++(s13.G d (replaceM ⟨dir,ts,((linesB ts).size : Int),false,true⟩ M ts).2.2++H)))) (fun w h=>(h.erase 2)) ?_
      refine N_ret [.tmp 4,.tmp 5] [pt b2,.int .i64 0] rfl kr rfl ?_
      rw [open_ok hgood hok (parsed_end hpz (cut_none1 hs9)) hall herr]; exact ⟨_, _, _, _, rfl, hO14, hs15, rfl⟩
    ·
     have hall := hc10
     refine G_skip ?_
     refine N_then ?_
     refine G_seq ?_
     refine G_pure (E':=[⟨4,[],pt b2⟩,⟨5,[],.int .i64 0⟩]) [0,0,0] [4,5] rfl kr ?_
     refine N_then ?_
     refine G_ret ?_
     refine N_heap (H':=([(b2,.cells #[pt d,.string dir,.slice ra ts.length rc,.int .i64 ((linesB ts).size : Int),.bool false,.bool true] 83 (0,0))]::rg::(K++(s.G d M++H)))) (fun w h=>(h.erase 2)) ?_
     refine N_ret [.tmp 4,.tmp 5] [pt b2,.int .i64 0] rfl kr rfl ?_
     rw [open_whole hgood hok (parsed_end hpz (cut_none1 hs9)) hall]; exact ⟨_, _, _, _, rfl, ho, hs, rfl⟩
   ·
    rw [if_neg hs9]
    obtain ⟨hs9a, hs9b, hs9c⟩ := lf_facts hs9
    refine GL_fin (E':=[⟨6,[],pt b2⟩,⟨9,[],.string all⟩,⟨10,[],.string (all.extract 0 (lf all).toNat)⟩,⟨11,[],.string (all.extract ((lf all).toNat+1) all.size)⟩,⟨12,[],.bool true⟩]) [0,0,0,0,0,0,0] [6,9,10,11,12] rfl kr ?_
    refine N_then ?_
    refine G_seq ?_
    refine G_region ?_
    refine GL_p [0] kr (j:=1) rfl ?_
    refine GL_callQ (i:=1) (ch:=[]) (f:=42) (fst:=#[]) (caps:=#[]) (vs:=[.string (all.extract 0 (lf all).toNat)]) (v:=.tuple #[.string (textB (all.extract 0 (lf all).toNat)),.bool (okB (all.extract 0 (lf all).toNat))]) rfl rfl rfl kr kr Tryz.func42 rfl rfl kr kr kr (fun _=>text_ _ (by first | omega | (rw [ByteArray.size_extract]; omega)) _ _) ?_
    refine GL_fin (E':=[⟨6,[],pt b2⟩,⟨9,[],.string all⟩,⟨10,[],.string (all.extract 0 (lf all).toNat)⟩,⟨11,[],.string (all.extract ((lf all).toNat+1) all.size)⟩,⟨12,[],.bool true⟩,⟨13,[],.string (textB (all.extract 0 (lf all).toNat))⟩,⟨14,[],.bool (okB (all.extract 0 (lf all).toNat))⟩]) [0,0,0,0,0] [6,9,10,11,12,13,14] rfl kr ?_
    refine N_then ?_
    refine G_seq ?_
    refine G_seq ?_
    refine G_pure (E':=[⟨6,[],pt b2⟩,⟨9,[],.string all⟩,⟨10,[],.string (all.extract 0 (lf all).toNat)⟩,⟨11,[],.string (all.extract ((lf all).toNat+1) all.size)⟩,⟨13,[],.string (textB (all.extract 0 (lf all).toNat))⟩,⟨62,[],.bool (!(okB (all.extract 0 (lf all).toNat)))⟩]) [0,0,0,0,0,3] [6,9,10,11,13,62] rfl kr ?_
    refine N_then ?_
    refine G_cond (b:=!(okB (all.extract 0 (lf all).toNat))) kr (fun hc17=>?_) (fun hc17=>?_)
    ·
     have hkn : okB (all.extract 0 (lf all).toNat) = false := by simpa using hc17
     refine G_exit ?_
     refine N_then_exit ?_
     refine N_block_other rfl ?_
     refine N_then_exit ?_
     refine N_block_exit ?_
     refine N_then ?_
     refine G_seq ?_
     refine G_seq ?_
     refine G_pure (E':=[⟨6,[],pt b2⟩,⟨85,[],.bool (!(all.toList == (ByteArray.mk #[]).toList))⟩]) [0,0] [6,85] rfl kr ?_
     refine N_then ?_
     refine G_cond (b:=!(all.toList == (ByteArray.mk #[]).toList)) kr (fun hc18=>?_) (fun hc18=>?_)
     ·
      have hall := hc18
      refine G_seq ?_
      refine G_region ?_
      refine GL_p [0,0,0,0] kr (j:=4) rfl ?_
      refine GL_load (i:=4) (ch:=[]) (b:=b2) (off:=2) (v:=.slice ra ts.length rc) rfl rfl kr kr kr kr kr (At.grp 0 0 rfl rfl) rfl ?_
      refine GL_call (i:=5) (ch:=[]) (f:=18) (fst:=#[]) (caps:=#[]) (vs:=[pt b2,.slice ra ts.length rc]) rfl rfl rfl kr kr Tryz.func18 rfl rfl kr kr (chSure_of kr) (repOpen hs hsc hzb hwb ([g5]++K) b2 d dir ra rc rg ts ho hdir (by omega) W0 H) ?_
      rintro v H' ⟨rv19, g20, s21, rfl, hO22, hs23, rfl⟩
      refine GL_fin (E':=[⟨6,[],pt b2⟩,⟨15,[],.int .i64 ((replaceM ⟨dir,ts,((linesB ts).size : Int),false,true⟩ M ts).1)⟩]) [0] [6,15] rfl kr ?_
      refine N_then ?_
      refine G_seq ?_
      refine G_pure (E':=[⟨6,[],pt b2⟩,⟨15,[],.int .i64 ((replaceM ⟨dir,ts,((linesB ts).size : Int),false,true⟩ M ts).1)⟩,⟨93,[],.bool (((replaceM ⟨dir,ts,((linesB ts).size : Int),false,true⟩ M ts).1) != 0)⟩]) [0,0] [6,15,93] rfl kr ?_
      refine N_then ?_
      refine G_cond (b:=((replaceM ⟨dir,ts,((linesB ts).size : Int),false,true⟩ M ts).1) != 0) kr (fun hc24=>?_) (fun hc24=>?_)
      ·
       have herr := hc24
       refine G_seq ?_
       refine G_pure (E':=[⟨4,[],.pointer none⟩,⟨5,[],.int .i64 ((replaceM ⟨dir,ts,((linesB ts).size : Int),false,true⟩ M ts).1)⟩]) [0,0,0] [4,5] rfl kr ?_
       refine N_then ?_
       refine G_ret ?_
       refine N_then_ret ?_
       refine N_heap (H':=(K++(s21.G d (replaceM ⟨dir,ts,((linesB ts).size : Int),false,true⟩ M ts).2.2++H))) (fun w h=>(((h.erase 2).erase 1).erase 0)) ?_
       refine N_ret [.tmp 4,.tmp 5] [.pointer none,.int .i64 ((replaceM ⟨dir,ts,((linesB ts).size : Int),false,true⟩ M ts).1)] rfl kr rfl ?_
       rw [open_err hgood hok (parsed_end hpz (cut_none2 hs9 hkn)) hall herr]; exact ⟨rfl, _, hs23, rfl⟩
      ·
       have herr := hc24
       refine G_skip ?_
       refine N_then ?_
       refine G_seq ?_
       refine G_pure (E':=[⟨4,[],pt b2⟩,⟨5,[],.int .i64 0⟩]) [0,0,0] [4,5] rfl kr ?_
       refine N_then ?_
       refine G_ret ?_
       refine N_heap (H':=([(b2,.cells #[pt d,.string ((replaceM ⟨dir,ts,((linesB ts).size : Int),false,true⟩ M ts).2.1.dir),rv19,.int .i64 ((replaceM ⟨dir,ts,((linesB ts).size : Int),false,true⟩ M ts).2.1.size),.bool ((replaceM ⟨dir,ts,((linesB ts).size : Int),false,true⟩ M ts).2.1.down),.bool ((replaceM ⟨dir,ts,((linesB ts).size : Int),false,true⟩ M ts).2.1.there)] 83 (0,0))]::g20::(K++(s21.G d (replaceM ⟨dir,ts,((linesB ts).size : Int),false,true⟩ M ts).2.2++H)))) (fun w h=>(h.erase 2)) ?_
       refine N_ret [.tmp 4,.tmp 5] [pt b2,.int .i64 0] rfl kr rfl ?_
       rw [open_ok hgood hok (parsed_end hpz (cut_none2 hs9 hkn)) hall herr]; exact ⟨_, _, _, _, rfl, hO22, hs23, rfl⟩
     ·
      have hall := hc18
      refine G_skip ?_
      refine N_then ?_
      refine G_seq ?_
      refine G_pure (E':=[⟨4,[],pt b2⟩,⟨5,[],.int .i64 0⟩]) [0,0,0] [4,5] rfl kr ?_
      refine N_then ?_
      refine G_ret ?_
      refine N_heap (H':=([(b2,.cells #[pt d,.string dir,.slice ra ts.length rc,.int .i64 ((linesB ts).size : Int),.bool false,.bool true] 83 (0,0))]::rg::(K++(s.G d M++H)))) (fun w h=>(h.erase 2)) ?_
      refine N_ret [.tmp 4,.tmp 5] [pt b2,.int .i64 0] rfl kr rfl ?_
      rw [open_whole hgood hok (parsed_end hpz (cut_none2 hs9 hkn)) hall]; exact ⟨_, _, _, _, rfl, ho, hs, rfl⟩
    ·
     have hky : okB (all.extract 0 (lf all).toNat) = true := by simpa using hc17
     refine G_skip ?_
     refine N_then ?_
     refine G_seq ?_
     refine G_region ?_
     refine GL_p [0,0,0,0] kr (j:=4) rfl ?_
     refine GL_load (i:=4) (ch:=[]) (b:=b2) (off:=2) (v:=.slice ra ts.length rc) rfl rfl kr kr kr kr kr (At.grp 0 0 rfl rfl) rfl ?_
     refine GL_p [0] kr (j:=6) rfl ?_
     refine GL_buildSlice (i:=6) (ch:=[]) (e:=9) (l:=[(0,.string (textB (all.extract 0 (lf all).toNat)))]) (c:=[.string (textB (all.extract 0 (lf all).toNat))]) rfl rfl kr kr kr kr kr (fun b25=>?_)
     refine GL_append (i:=7) (ch:=[]) (t:=32) (tx:=32) (e:=9) (inf:=Tryz.t9) (s:=.slice ra ts.length rc) (x:=.slice (some ⟨b25,0,none⟩) 1 1) (n:=ts.length) (m:=1) (j:=2) (cs:=(strs ts)) (news:=[.string (textB (all.extract 0 (lf all).toNat))]) (g:=rg) (S:=(inG [(b25,.cells #[.string (textB (all.extract 0 (lf all).toNat))] 9 (0,0))])) rfl rfl rfl rfl kr kr kr rfl rfl (.inl ⟨9,kr⟩) (fun ⟨_,h⟩=>by cases h) (fun _=>⟨9,kr⟩) kr kr kr rfl ho (SrcOf.slice _ _ _ _ Rd.lit (fun h=>by cases h)) (at_inG 0 rfl) rfl (strs_one (ts:=[textB (all.extract 0 (lf all).toNat)])) (by omega) (by show (ts.length+1) * 16 ≤ 140737488355328; omega) (fun v26 g27 hO28=>?_)
     obtain ⟨a29, cap30, rfl, hcap31, hrd32⟩ := hO28.shape
     refine GL_p [0,0] kr (j:=10) rfl ?_
     refine GL_st (i:=10) (ch:=[]) (b:=b2) (off:=2) (v:=.slice a29 (ts.length+1) cap30) (j:=1) ([(b25,.cells #[.string (textB (all.extract 0 (lf all).toNat))] 9 (0,0))]::[(b2,.cells #[pt d,.string dir,.slice a29 (ts.length+1) cap30,.int .i64 ((linesB ts).size : Int),.bool false,.bool true] 83 (0,0))]::g27::g5::(K++(s.G d M++H))) rfl rfl kr kr kr kr kr kr kr rfl rfl (Nat.le_of_ble_eq_true rfl) (fun _ _=>thaw0) kr ?_
     refine GL_fin (E':=[⟨6,[],pt b2⟩,⟨10,[],.string (all.extract 0 (lf all).toNat)⟩,⟨11,[],.string (all.extract ((lf all).toNat+1) all.size)⟩]) [] [6,10,11] rfl kr ?_
     refine N_then ?_
     refine G_seq ?_
     refine G_region ?_
     refine GL_p [0,0,0] kr (j:=3) rfl ?_
     refine GL_load (i:=3) (ch:=[]) (b:=b2) (off:=3) (v:=.int .i64 ((linesB ts).size : Int)) rfl rfl kr kr kr kr kr (At.grp 1 0 rfl rfl) rfl ?_
     refine GL_p [0,0,0] kr (j:=7) rfl ?_
     refine GL_wi 79 (((all.extract 0 (lf all).toNat).size : Int)+1) (by omega) (by omega) kr ?_
     refine GL_p [0] kr (j:=8) rfl ?_
     refine GL_wi 80 (((linesB ts).size : Int)+(((all.extract 0 (lf all).toNat).size : Int)+1)) (by omega) (by omega) kr ?_
     refine GL_p [0,0] kr (j:=10) rfl ?_
     refine GL_st (i:=10) (ch:=[]) (b:=b2) (off:=3) (v:=.int .i64 (((linesB ts).size : Int)+(((all.extract 0 (lf all).toNat).size : Int)+1))) (j:=1) ([(b25,.cells #[.string (textB (all.extract 0 (lf all).toNat))] 9 (0,0))]::[(b2,.cells #[pt d,.string dir,.slice a29 (ts.length+1) cap30,.int .i64 (((linesB ts).size : Int)+(((all.extract 0 (lf all).toNat).size : Int)+1)),.bool false,.bool true] 83 (0,0))]::g27::g5::(K++(s.G d M++H))) rfl rfl kr kr kr kr kr kr kr rfl rfl (Nat.le_of_ble_eq_true rfl) (fun _ _=>thaw0) kr ?_
     refine GL_fin (E':=[⟨6,[],pt b2⟩,⟨11,[],.string (all.extract ((lf all).toNat+1) all.size)⟩]) [] [6,11] rfl kr ?_
     refine N_then ?_
     refine G_pure (E':=[⟨6,[],pt b2⟩,⟨9,[],.string (all.extract ((lf all).toNat+1) all.size)⟩]) [0,0] [6,9] rfl kr ?_
     refine N_block ?_
     refine N_heap (H':=([(b2,.cells #[pt d,.string dir,.slice a29 (ts.length+1) cap30,.int .i64 (((linesB ts).size : Int)+(((all.extract 0 (lf all).toNat).size : Int)+1)),.bool false,.bool true] 83 (0,0))]::g27::g5::(K++(s.G d M++H)))) (fun w h=>(h.erase 0)) ?_
     refine N_heq (H':=([(b2,.cells #[pt d,.string dir,.slice a29 ((ts++[textB (all.extract 0 (lf all).toNat)]).length) cap30,.int .i64 ((linesB (ts++[textB (all.extract 0 (lf all).toNat)])).size : Int),.bool false,.bool true] 83 (0,0))]::g27::g5::(K++(s.G d M++H)))) (by rw [← size_step (ts:=ts) hky,List.length_append]; rfl) ?_
     refine N_round (s':=((all.extract ((lf all).toNat+1) all.size),(ts++[textB (all.extract 0 (lf all).toNat)]),a29,cap30,g27)) [6,9] kr rfl ⟨(parsed1 hpz hs9 hky),(own_addS hO28)⟩ (by have h9:=(lf_facts hs9).2.2; dsimp only; omega)
theorem records_ (jb d : Nat) (dir : ByteArray) (a : Option Addr) (c : Nat) (rg : Grp) (L : List ByteArray) (size : Int) (down there : Bool) (ho : Go.Sw.Own 9 1 (.slice a L.length c) rg L.length (strs L)) (hL : L.length ≤ 1000000) (W0 : World) (H : List Grp) : Tri Tryz.prog 15 #[pt jb] W0 ([(jb, .cells #[pt d, .string dir, .slice a L.length c, .int .i64 size, .bool down, .bool there] 83 (0, 0))] :: rg :: H) (fun v H' => ∃ g, Go.Sw.Own 9 1 v g L.length (strs L) ∧ H' = g :: jG jb d dir (.slice a L.length c) size down there :: rg :: H) := by
 refine Tri_of (args := [pt jb]) (n := 10) Tryz.func15 rfl rfl (Nat.le_of_ble_eq_true rfl) ?_
 refine G_seq ?_
 refine G_pure (E':=[⟨0,[],pt jb⟩]) [0] [0] rfl kr ?_
 refine N_then ?_
 refine G_seq ?_
 refine G_seq ?_
 refine G_pure (E':=[⟨0,[],pt jb⟩,⟨4,[],.bool false⟩]) [0,0] [0,4] rfl kr ?_
 refine N_then ?_
 refine G_condf kr ?_
 refine G_skip ?_
 refine N_then ?_
 refine G_seq ?_
 refine G_region ?_
 refine GL_p [0,0,0] kr (j:=3) rfl ?_
 refine GL_load (i:=3) (ch:=[]) (b:=jb) (off:=2) (v:=.slice a L.length c) rfl rfl kr kr kr kr kr (At.grp 0 0 rfl rfl) rfl ?_
 refine GL_call (i:=4) (ch:=[]) (f:=44) (fst:=#[]) (caps:=#[]) (vs:=[.slice a L.length c]) rfl rfl rfl kr kr Tryz.func44 rfl rfl kr kr (chSure_of kr) (clone_ a c L (inG rg) (own_rd ho) hL (own_none ho) _ _ (at_inG 1 rfl)) ?_
 rintro v H' ⟨g1, hO2, rfl⟩
 refine GL_fin (E':=[⟨2,[],v⟩]) [0] [2] rfl kr ?_
 refine N_then ?_
 refine G_ret ?_
 refine N_ret [.tmp 2] [v] rfl kr rfl ?_
 exact ⟨_, hO2, rfl⟩
theorem size_ (jb d : Nat) (dir : ByteArray) (a : Option Addr) (c : Nat)  (L : List ByteArray) (size : Int) (down there : Bool) (W0 : World) (H : List Grp) : Tri Tryz.prog 16 #[pt jb] W0 ([(jb, .cells #[pt d, .string dir, .slice a L.length c, .int .i64 size, .bool down, .bool there] 83 (0, 0))] :: H) (fun v H' => v = .int .i64 size ∧ H' = ([(jb, .cells #[pt d, .string dir, .slice a L.length c, .int .i64 size, .bool down, .bool there] 83 (0, 0))] :: H)) := by
 refine Tri_of (args := [pt jb]) (n := 9) Tryz.func16 rfl rfl (Nat.le_of_ble_eq_true rfl) ?_
 refine G_seq ?_
 refine G_pure (E':=[⟨0,[],pt jb⟩]) [0] [0] rfl kr ?_
 refine N_then ?_
 refine G_seq ?_
 refine G_seq ?_
 refine G_pure (E':=[⟨0,[],pt jb⟩,⟨4,[],.bool false⟩]) [0,0] [0,4] rfl kr ?_
 refine N_then ?_
 refine G_condf kr ?_
 refine G_skip ?_
 refine N_then ?_
 refine G_seq ?_
 refine G_region ?_
 refine GL_p [0,0,0] kr (j:=3) rfl ?_
 refine GL_load (i:=3) (ch:=[]) (b:=jb) (off:=3) (v:=.int .i64 size) rfl rfl kr kr kr kr kr (At.grp 0 0 rfl rfl) rfl ?_
 refine GL_fin (E':=[⟨2,[],.int .i64 size⟩]) [0] [2] rfl kr ?_
 refine N_then ?_
 refine G_ret ?_
 refine N_ret [.tmp 2] [.int .i64 size] rfl kr rfl ?_
 exact ⟨rfl, rfl⟩
theorem recordsNil_  (W0 : World) (H : List Grp) : Tri Tryz.prog 15 #[.pointer none] W0 H (fun v H' => v = .slice none 0 0 ∧ H' = H) := by
 refine Tri_of (args := [.pointer none]) (n := 10) Tryz.func15 rfl rfl (Nat.le_of_ble_eq_true rfl) ?_
 refine G_seq ?_
 refine G_pure (E':=[⟨0,[],.pointer none⟩]) [0] [0] rfl kr ?_
 refine N_then ?_
 refine G_seq ?_
 refine G_seq ?_
 refine G_pure (E':=[⟨0,[],.pointer none⟩,⟨4,[],.bool true⟩]) [0,0] [0,4] rfl kr ?_
 refine N_then ?_
 refine G_condt kr ?_
 refine G_seq ?_
 refine G_pure (E':=[⟨2,[],.slice none 0 0⟩]) [0] [2] rfl kr ?_
 refine N_then ?_
 refine G_ret ?_
 refine N_then_ret ?_
 refine N_ret [.tmp 2] [.slice none 0 0] rfl kr rfl ?_
 exact ⟨rfl, rfl⟩
theorem sizeNil_  (W0 : World) (H : List Grp) : Tri Tryz.prog 16 #[.pointer none] W0 H (fun v H' => v = .int .i64 0 ∧ H' = H) := by
 refine Tri_of (args := [.pointer none]) (n := 9) Tryz.func16 rfl rfl (Nat.le_of_ble_eq_true rfl) ?_
 refine G_seq ?_
 refine G_pure (E':=[⟨0,[],.pointer none⟩]) [0] [0] rfl kr ?_
 refine N_then ?_
 refine G_seq ?_
 refine G_seq ?_
 refine G_pure (E':=[⟨0,[],.pointer none⟩,⟨4,[],.bool true⟩]) [0,0] [0,4] rfl kr ?_
 refine N_then ?_
 refine G_condt kr ?_
 refine G_seq ?_
 refine G_pure (E':=[⟨2,[],.int .i64 0⟩]) [0] [2] rfl kr ?_
 refine N_then ?_
 refine G_ret ?_
 refine N_then_ret ?_
 refine N_ret [.tmp 2] [.int .i64 0] rfl kr rfl ?_
 exact ⟨rfl, rfl⟩
theorem addNil_ (t : ByteArray) (W0 : World) (H : List Grp) : Tri Tryz.prog 17 #[.pointer none, .string t] W0 H (fun v H' => v = .int .i64 1 ∧ H' = H) := by
 refine Tri_of (args := [.pointer none, .string t]) (n := 60) Tryz.func17 rfl rfl (Nat.le_of_ble_eq_true rfl) ?_
 refine G_seq ?_
 refine G_region ?_
 refine GL_box (i:=0) (ch:=[]) (v:=.pointer none) rfl rfl kr kr kr kr (fun b1=>?_)
 refine GL_fin (E':=[⟨1,[],.string t⟩,⟨2,[],pt b1⟩]) [0] [1,2] rfl kr ?_
 refine N_then ?_
 refine G_seq ?_
 refine G_seq ?_
 refine G_region ?_
 refine GL_load (i:=0) (ch:=[]) (b:=b1) (off:=0) (v:=.pointer none) rfl rfl kr kr kr kr kr (At.grp 0 0 rfl rfl) rfl ?_
 refine GL_p [0] kr (j:=2) rfl ?_
 refine GL_buildSlice (i:=2) (ch:=[]) (e:=9) (l:=[(0,.string t)]) (c:=[.string t]) rfl rfl kr kr kr kr kr (fun b2=>?_)
 refine GL_callQ (i:=3) (ch:=[]) (f:=45) (fst:=#[]) (caps:=#[]) (vs:=[.pointer none,.slice (some ⟨b2,0,none⟩) 1 1]) (v:=.int .i64 1) rfl rfl rfl kr kr Tryz.func45 rfl rfl kr kr kr (fun _=>mayNil_ _ _ _ _ _) ?_
 refine GL_fin (E':=[⟨1,[],.string t⟩,⟨2,[],pt b1⟩,⟨5,[],.int .i64 1⟩]) [0] [1,2,5] rfl kr ?_
 refine N_then ?_
 refine G_seq ?_
 refine G_pure (E':=[⟨1,[],.string t⟩,⟨2,[],pt b1⟩,⟨5,[],.int .i64 1⟩,⟨13,[],.bool true⟩]) [0,0] [1,2,5,13] rfl kr ?_
 refine N_then ?_
 refine G_condt kr ?_
 refine G_seq ?_
 refine G_pure (E':=[⟨4,[],.int .i64 1⟩]) [0,0] [4] rfl kr ?_
 refine N_then ?_
 refine G_ret ?_
 refine N_then_ret ?_
 refine N_heap (H':=([(b2,.cells #[.string t] 9 (0,0))]::H)) (fun w h=>h.erase 1) ?_
 refine N_heap (H':=H) (fun w h=>h.erase 0) ?_
 refine N_ret [.tmp 4] [.int .i64 1] rfl kr rfl ?_
 exact ⟨rfl, rfl⟩
theorem repNil_ (a : Option Addr) (n c : Nat) (W0 : World) (H : List Grp) : Tri Tryz.prog 18 #[.pointer none, .slice a n c] W0 H (fun v H' => v = .int .i64 1 ∧ H' = H) := by
 refine Tri_of (args := [.pointer none, .slice a n c]) (n := 50) Tryz.func18 rfl rfl (Nat.le_of_ble_eq_true rfl) ?_
 refine G_seq ?_
 refine G_region ?_
 refine GL_box (i:=0) (ch:=[]) (v:=.pointer none) rfl rfl kr kr kr kr (fun b1=>?_)
 refine GL_fin (E':=[⟨1,[],.slice a n c⟩,⟨2,[],pt b1⟩]) [0] [1,2] rfl kr ?_
 refine N_then ?_
 refine G_seq ?_
 refine G_seq ?_
 refine G_region ?_
 refine GL_load (i:=0) (ch:=[]) (b:=b1) (off:=0) (v:=.pointer none) rfl rfl kr kr kr kr kr (At.grp 0 0 rfl rfl) rfl ?_
 refine GL_p [0] kr (j:=2) rfl ?_
 refine GL_callQ (i:=2) (ch:=[]) (f:=45) (fst:=#[]) (caps:=#[]) (vs:=[.pointer none,.slice a n c]) (v:=.int .i64 1) rfl rfl rfl kr kr Tryz.func45 rfl rfl kr kr kr (fun _=>mayNil_ _ _ _ _ _) ?_
 refine GL_fin (E':=[⟨1,[],.slice a n c⟩,⟨2,[],pt b1⟩,⟨5,[],.int .i64 1⟩]) [0] [1,2,5] rfl kr ?_
 refine N_then ?_
 refine G_seq ?_
 refine G_pure (E':=[⟨1,[],.slice a n c⟩,⟨2,[],pt b1⟩,⟨5,[],.int .i64 1⟩,⟨14,[],.bool true⟩]) [0,0] [1,2,5,14] rfl kr ?_
 refine N_then ?_
 refine G_condt kr ?_
 refine G_seq ?_
 refine G_pure (E':=[⟨4,[],.int .i64 1⟩]) [0,0] [4] rfl kr ?_
 refine N_then ?_
 refine G_ret ?_
 refine N_then_ret ?_
 refine N_heap (H':=H) (fun w h=>h.erase 0) ?_
 refine N_ret [.tmp 4] [.int .i64 1] rfl kr rfl ?_
 exact ⟨rfl, rfl⟩
theorem openNil_ (dir : ByteArray) (W0 : World) (H : List Grp) : Tri Tryz.prog 10 #[.pointer none, .string dir] W0 H (fun v H' => v = .tuple #[.pointer none, .int .i64 1] ∧ H' = H) := by
 refine Tri_of (args := [.pointer none, .string dir]) (n := 96) Tryz.func10 rfl rfl (Nat.le_of_ble_eq_true rfl) ?_
 refine G_seq ?_
 refine G_pure (E':=[⟨0,[],.pointer none⟩,⟨1,[],.string dir⟩]) [0,0] [0,1] rfl kr ?_
 refine N_then ?_
 refine G_seq ?_
 refine G_block ?_
 refine G_seq ?_
 refine G_pure (E':=[⟨0,[],.pointer none⟩,⟨1,[],.string dir⟩,⟨16,[],.bool true⟩]) [0,0,0] [0,1,16] rfl kr ?_
 refine N_then ?_
 refine G_condt kr ?_
 refine G_seq ?_
 refine G_pure (E':=[⟨4,[],.pointer none⟩,⟨5,[],.int .i64 1⟩]) [0,0] [4,5] rfl kr ?_
 refine N_then ?_
 refine G_ret ?_
 refine N_block_ret ?_
 refine N_then_ret ?_
 refine N_ret [.tmp 4,.tmp 5] [.pointer none,.int .i64 1] rfl kr rfl ?_
 exact ⟨rfl, rfl⟩
end Go.Proofs.YtlaoeiaaeifidaaGreat
namespace Go.Proofs.YtlaoeiaaeifidaaGreat
open Go.Sw Go.Lib Go.Vf Go.Sha Go.Jr Go.RowKit
def jAt (jb d : Nat) (j : JM) (a : Option Addr) (c : Nat) : Grp := jG jb d j.dir (.slice a j.L.length c) j.size j.down j.there
def JOwn (j : JM) (a : Option Addr) (c : Nat) (rg : Grp) : Prop := Go.Sw.Own 9 1 (.slice a j.L.length c) rg j.L.length (strs j.L)
structure JSmall (j : JM) : Prop where
  dir : j.dir.size ≤ 1000000
  len : j.L.length ≤ 1000000
  size : 0 ≤ j.size ∧ j.size ≤ 1000000000000
structure RoomM (M : DM) : Prop where
  ex : ∃ z w i, ScrI z w i M ∧ z ≤ 5000000 ∧ w ≤ 5000 ∧ i ≤ 5000
theorem RoomM.of {z w i : Nat} {M : DM} (h : ScrI z w i M) (hz : z ≤ 5000000) (hw : w ≤ 5000) (hi : i ≤ 5000) : RoomM M := ⟨z, w, i, h, hz, hw, hi⟩
theorem RoomM.small {M : DM} (h : RoomM M) : Small M := by
  obtain ⟨z, w, i, h, h1, h2, h3⟩ := h.ex
  exact small_of h (by omega) (by omega) (by omega)
theorem RoomM.sizes {M : DM} (h : RoomM M) : ∀ B ∈ M.bodies, B.now.size ≤ 10000000 := fun B hB => (h.small.size B hB).1
theorem jOpen {s : DS} {M M' : DM} {dir : ByteArray} {j : JM} (hs : s.ok M) (hM : RoomM M) (hdir : dir.size ≤ 1000000) (he : openM M dir = (0, some j, M')) (K : List Grp) (d : Nat) (W0 : World) (H : List Grp) :
    Tri Tryz.prog 10 #[pt d, .string dir] W0 (K ++ (s.G d M ++ H)) (fun v H' => ∃ (jb : Nat) (a : Option Addr) (c : Nat) (rg : Grp) (s' : DS), v = .tuple #[pt jb, .int .i64 0] ∧ JOwn j a c rg ∧ s'.ok M' ∧ H' = jAt jb d j a c :: rg :: (K ++ (s'.G d M' ++ H))) := by
  obtain ⟨z, w, i, h, h1, h2, h3⟩ := hM.ex
  refine Tri.mono (open_ hs z w i h h1 ⟨h2, h3⟩ K d dir hdir W0 H) fun v H' hr => ?_
  unfold OpenR at hr
  rw [he] at hr
  obtain ⟨jb, rv, rg, s', hv, ho, hs', hH⟩ := hr
  obtain ⟨a, c, rfl, _, _⟩ := Go.Sw.Own.shape ho
  exact ⟨jb, a, c, rg, s', hv, ho, hs', hH⟩
theorem jOpenNo {s : DS} {M M' : DM} {dir : ByteArray} {e : Int} (hs : s.ok M) (hM : RoomM M) (hdir : dir.size ≤ 1000000) (he : openM M dir = (e, none, M')) (K : List Grp) (d : Nat) (W0 : World) (H : List Grp) :
    Tri Tryz.prog 10 #[pt d, .string dir] W0 (K ++ (s.G d M ++ H)) (fun v H' => v = .tuple #[.pointer none, .int .i64 e] ∧ ∃ s' : DS, s'.ok M' ∧ H' = K ++ (s'.G d M' ++ H)) := by
  obtain ⟨z, w, i, h, h1, h2, h3⟩ := hM.ex
  refine Tri.mono (open_ hs z w i h h1 ⟨h2, h3⟩ K d dir hdir W0 H) fun v H' hr => ?_
  unfold OpenR at hr
  rw [he] at hr
  exact hr
theorem callR_to {r : Int × JM × DM} {e : Int} {j' : JM} {M' : DM} {jb d : Nat} {K H : List Grp} {v : Value} {H' : List Grp} (h : CallR r jb d K H v H') (he : r = (e, j', M')) :
    ∃ (a : Option Addr) (c : Nat) (rg : Grp) (s' : DS), v = .int .i64 e ∧ JOwn j' a c rg ∧ s'.ok M' ∧ H' = jAt jb d j' a c :: rg :: (K ++ (s'.G d M' ++ H)) := by
  subst he
  obtain ⟨rv, rg, s', hv, ho, hs', hH⟩ := h
  obtain ⟨a, c, rfl, _, _⟩ := Go.Sw.Own.shape ho
  exact ⟨a, c, rg, s', hv, ho, hs', hH⟩
theorem jAdd {s : DS} {M M' : DM} {j j' : JM} {t : ByteArray} {e : Int} (hs : s.ok M) (hM : RoomM M) (hj : JSmall j) (ht : t.size ≤ 4000000) (he : addM j M t = (e, j', M')) (K : List Grp) (jb d : Nat) {a : Option Addr} {c : Nat} {rg : Grp} (ho : JOwn j a c rg) (W0 : World) (H : List Grp) :
    Tri Tryz.prog 17 #[pt jb, .string t] W0 (jAt jb d j a c :: rg :: (K ++ (s.G d M ++ H))) (fun v H' => ∃ (a' : Option Addr) (c' : Nat) (rg' : Grp) (s' : DS), v = .int .i64 e ∧ JOwn j' a' c' rg' ∧ s'.ok M' ∧ H' = jAt jb d j' a' c' :: rg' :: (K ++ (s'.G d M' ++ H))) := by
  obtain ⟨z, w, i, h, h1, h2, h3⟩ := hM.ex
  obtain ⟨dir, L, size, down, there⟩ := j
  have hls := lineB_size t
  cases there with
  | true =>
    have hm1 := small_of (sI_append h (pathJ dir logB) (lineB t)) (by omega) (by omega) (by omega)
    exact Tri.mono (addTrue_ hs hM.small K jb d dir _ rg L size down ho hj.dir hj.len hj.size t (by omega) hm1 W0 H) fun v H' hr => callR_to hr he
  | false =>
    have hw := sI_write (ScrI.up h (show z ≤ z + (lineB t).size by omega) (Nat.le_refl _) (Nat.le_refl _)) (pathJ dir logB) (b := lineB t) (by omega)
    have hm1 := small_of hw (by omega) (by omega) (by omega)
    have hm2 := small_of (sI_sync hw (pathJ dir logB)) (by omega) (by omega) (by omega)
    exact Tri.mono (addFalse_ hs hM.small K jb d dir _ rg L size down ho hj.dir hj.len hj.size t (by omega) hm1 hm2 W0 H) fun v H' hr => callR_to hr he
theorem jRep {s : DS} {M M' : DM} {j j' : JM} {ts : List ByteArray} {e : Int} (hs : s.ok M) (hM : RoomM M) (hj : JSmall j) (hb : (linesB ts).size ≤ 4000000) (he : replaceM j M ts = (e, j', M')) (K : List Grp) (jb d : Nat) {a : Option Addr} {c : Nat} {rg : Grp} (ho : JOwn j a c rg)
    (ta : Option Addr) (tc : Nat) (S : Nat → Obj → Prop) (hrd : Rd S ta (strs ts)) (hn : ta = none → ts.length = 0) (W0 : World) (H : List Grp) (hS : ∀ y o, S y o → At W0 (rg :: K) y o) :
    Tri Tryz.prog 18 #[pt jb, .slice ta ts.length tc] W0 (jAt jb d j a c :: rg :: (K ++ (s.G d M ++ H))) (fun v H' => ∃ (a' : Option Addr) (c' : Nat) (rg' : Grp) (s' : DS), v = .int .i64 e ∧ JOwn j' a' c' rg' ∧ s'.ok M' ∧ H' = jAt jb d j' a' c' :: rg' :: (K ++ (s'.G d M' ++ H))) := by
  obtain ⟨z, w, i, h, h1, h2, h3⟩ := hM.ex
  obtain ⟨dir, L, size, down, there⟩ := j
  have hl := lines_len ts
  have r3 := rep3 (ScrI.up h (show z ≤ z + (linesB ts).size by omega) (Nat.le_refl _) (Nat.le_refl _)) (by omega) (by omega) dir (b := linesB ts) (by omega)
  cases there with
  | true => exact Tri.mono (repTrue_ hs hM.small K jb d dir _ rg L size down ho hj.dir hj.len hj.size ta tc ts S hrd (by omega) hn (by omega) r3.m1 r3.m2 r3.m3 W0 H hS) fun v H' hr => callR_to hr he
  | false => exact Tri.mono (repFalse_ hs hM.small K jb d dir _ rg L size down ho hj.dir hj.len hj.size ta tc ts S hrd (by omega) hn (by omega) r3.m1 r3.m2 r3.m3 W0 H hS) fun v H' hr => callR_to hr he
theorem jRecords {j : JM} (hj : JSmall j) (jb d : Nat) {a : Option Addr} {c : Nat} {rg : Grp} (ho : JOwn j a c rg) (W0 : World) (H : List Grp) :
    Tri Tryz.prog 15 #[pt jb] W0 (jAt jb d j a c :: rg :: H) (fun v H' => ∃ (a' : Option Addr) (c' : Nat) (g : Grp), v = .slice a' j.L.length c' ∧ Rd (inG g) a' (strs j.L) ∧ H' = g :: jAt jb d j a c :: rg :: H) := by
  obtain ⟨dir, L, size, down, there⟩ := j
  refine Tri.mono (records_ jb d dir a c rg L size down there ho hj.len W0 H) fun v H' ⟨g, hg, hH⟩ => ?_
  obtain ⟨a', c', rfl, _, hr⟩ := Go.Sw.Own.shape hg
  exact ⟨a', c', g, rfl, hr, hH⟩
theorem jSize {j : JM} (jb d : Nat) {a : Option Addr} {c : Nat} (W0 : World) (H : List Grp) :
    Tri Tryz.prog 16 #[pt jb] W0 (jAt jb d j a c :: H) (fun v H' => v = .int .i64 j.size ∧ H' = jAt jb d j a c :: H) := by
  obtain ⟨dir, L, size, down, there⟩ := j
  exact size_ jb d dir a c L size down there W0 H
end Go.Proofs.YtlaoeiaaeifidaaGreat
namespace Go.Jr
open Go.Sw Go.Lib Go.Vf Go.Sha Go.Proofs.YtlaoeiaaeifidaaGreat
def Good (dir : ByteArray) : Prop := (!rightB dir || decide (slash dir ≥ 0)) = false
theorem open_fresh {M : DM} {dir : ByteArray} (hd : Good dir) (hl : lookN M.names (pathJ dir logB) = none) : openM M dir = (0, some ⟨dir, [], 0, false, false⟩, M) :=
  open_no hd (by unfold readM; rw [hl]; rfl)
theorem open_log {M : DM} {dir : ByteArray} {k : Int} {L : List ByteArray} (hd : Good dir) (hl : lookN M.names (pathJ dir logB) = some k) (hb : (bodyAt M k).now = linesB L) (hL : ∀ t ∈ L, rightJ t = true) :
    openM M dir = (0, some ⟨dir, L, ((linesB L).size : Int), false, true⟩, M) := by
  have hr : readM M (pathJ dir logB) = (linesB L, 0) := by rw [readM_ok hl, hb]
  exact open_whole hd (by rw [hr]; rfl) (by rw [hr]; exact parse_lines hL) (by rw [show (ByteArray.empty.toList == (ByteArray.mk #[]).toList) = true from beq_self_eq_true _]; rfl)
def oneM (room : Int) (p c : ByteArray) : DM := ⟨room, [⟨c, c⟩], [(p, 0)], [(p, 0)], [], false, false, 0⟩
def twoM (room : Int) (p c b : ByteArray) : DM := ⟨room, [⟨c, c⟩, ⟨b, b⟩], [(p, 1)], [(p, 1)], [], false, false, 0⟩
theorem new0 {room : Int} (h : 0 ≤ room) : newM room = ⟨room, [], [], [], [], false, false, 0⟩ := by unfold newM; rw [if_neg (by omega)]
theorem wri_one {room : Int} {dir l : ByteArray} (h : 0 ≤ room) : wriD (newM room) dir l = oneM room (pathJ dir logB) l := by
  rw [new0 h]
  unfold wriD oneM chOf withN applyN
  simp [withN]
theorem app_one {room : Int} {p c l : ByteArray} : appD (oneM room p c) 0 l = oneM room p (c ++ l) := by unfold appD setBody bodyAt oneM; simp
theorem used_one {room : Int} {p c : ByteArray} : usedM (oneM room p c) = c.size := by show c.size + 0 = _; omega
theorem look_one {room : Int} {p c : ByteArray} : lookN (oneM room p c).names p = some 0 := by show (if p == p then some (0 : Int) else none) = _; rw [if_pos (beq_self_eq_true p)]
theorem rep_two {room : Int} {dir c b : ByteArray} (h : Pth dir) : repD (oneM room (pathJ dir logB) c) dir b = twoM room (pathJ dir logB) c b := by
  unfold repD repN repC twoM oneM chOf
  have e1 := h.ne
  have e2 := h.ne'
  simp [applyN, withN, e1, e2]
theorem crash_one {room : Int} {p c : ByteArray} {ks : List Int} : crashM (oneM room p c) ks = oneM room p c := by
  unfold crashM oneM
  simp [crashB, dirsOf, onceL, sortB, crashD]
theorem roomy_new {room : Int} (h : 0 ≤ room) : RoomM (newM room) := RoomM.of (scr_new 0 room) (by omega) (by omega) (by omega)
theorem roomy_one {room : Int} {p c : ByteArray} (hp : rightB p = true) (hc : c.size ≤ 5000000) : RoomM (oneM room p c) :=
  RoomM.of (z := 5000000) (w := 10) (i := 10) ⟨by show 1 ≤ 10; omega, fun B hB => by rw [List.mem_singleton.1 hB]; exact ⟨hc, Nat.le_refl _⟩, by show 1 ≤ 10; omega, by show 1 + 0 ≤ 10; omega, by show 0 ≤ 10; omega, by show (-9223372036854775808 : Int) ≤ 0 ∧ (0 : Int) ≤ 9223372036854775807; omega,
    fun x hx => by rw [List.mem_singleton.1 hx]; exact hp, fun x hx => by rw [List.mem_singleton.1 hx]; exact hp, fun c hc => absurd hc List.not_mem_nil⟩ (by omega) (by omega) (by omega)
def dJ : ByteArray := ByteArray.mk #[106]
def tA : ByteArray := ByteArray.mk #[97]
def tB : ByteArray := ByteArray.mk #[98]
def tBn : ByteArray := ByteArray.mk #[98, 10]
def tC : ByteArray := ByteArray.mk #[99]
theorem pthJ : Pth dJ := ⟨by decide +kernel, by decide +kernel, by decide +kernel, by decide +kernel, by decide +kernel, by decide +kernel⟩
theorem goodJ : Good dJ := by unfold Good; decide +kernel
theorem rA : rightJ tA = true := by decide +kernel
theorem rB_ : rightJ tB = true := by decide +kernel
theorem rBn : rightJ tBn = false := by decide +kernel
theorem rC : rightJ tC = true := by decide +kernel
def pJl : ByteArray := pathJ dJ logB
def fJ0 : JM := ⟨dJ, [], 0, false, false⟩
def fJ1 : JM := ⟨dJ, [tA], 19, false, true⟩
def fJ2 : JM := ⟨dJ, [tA, tB], 38, false, true⟩
def fJ3 : JM := ⟨dJ, [tC], 19, false, true⟩
def gM0 : DM := newM 10000
def gM1 : DM := oneM 10000 pJl (lineB tA)
def gM2 : DM := oneM 10000 pJl (linesB [tA, tB])
def gM3 : DM := twoM 10000 pJl (linesB [tA, tB]) (linesB [tC])
theorem l1 (t : ByteArray) : linesB [t] = lineB t := linesB_one t
theorem zA : (lineB tA).size = 19 := lineB_size tA
theorem zAB : (linesB [tA, tB]).size = 38 := by show (lineB tA ++ linesB [tB]).size = 38; rw [l1, ByteArray.size_append, lineB_size, lineB_size]; rfl
theorem zC : (linesB [tC]).size = 19 := by rw [l1]; exact lineB_size tC
theorem f_open0 : openM gM0 dJ = (0, some fJ0, gM0) := open_fresh goodJ (by rw [show gM0 = _ from new0 (by decide)]; rfl)
theorem f_add1 : addM fJ0 gM0 tA = (0, fJ1, gM1) := by
  have := add_first (M := gM0) (t := tA) pthJ (by rw [show gM0 = _ from new0 (by decide)]) rA (by rw [show gM0 = _ from new0 (by decide), zA]; show ((0 : Nat) : Int) - ((0 : Nat) : Int) + ((19 : Nat) : Int) ≤ 10000; omega)
  rw [show wriD gM0 dJ (lineB tA) = gM1 from wri_one (by decide), zA] at this
  exact this
theorem f_add2 : addM fJ1 gM1 tBn = (2, fJ1, gM1) := add_bad rBn
theorem f_add3 : addM fJ1 gM1 tB = (0, fJ2, gM2) := by
  have := add_next (M := gM1) (t := tB) (L := [tA]) (z := 19) (k := 0) pthJ rfl rB_ look_one (by show 0 < 1; omega) (by rw [show gM1 = oneM 10000 pJl (lineB tA) from rfl, used_one, zA, lineB_size]; show ((19 : Nat) : Int) + ((1 + 18 : Nat) : Int) ≤ 10000; omega)
  rw [show appD gM1 0 (lineB tB) = oneM 10000 pJl (lineB tA ++ lineB tB) from app_one, lineB_size] at this
  rw [show gM2 = oneM 10000 pJl (lineB tA ++ linesB [tB]) from rfl, l1]
  exact this
theorem f_crash : crashM gM2 [] = gM2 := crash_one
theorem f_right2 : ∀ t ∈ [tA, tB], rightJ t = true := fun t h => by
  rcases List.mem_cons.1 h with rfl | h
  · exact rA
  · rw [List.mem_singleton.1 h]; exact rB_
theorem f_open2 : openM gM2 dJ = (0, some fJ2, gM2) := by
  have := open_log (M := gM2) (k := 0) (L := [tA, tB]) goodJ look_one rfl f_right2
  rw [zAB] at this; exact this
theorem f_rep : replaceM fJ2 gM2 [tC] = (0, fJ3, gM3) := by
  have := rep_good (M := gM2) (dir := dJ) (L := [tA, tB]) (ts := [tC]) (z := 38) (th := true) pthJ rfl (fun t h => by rw [List.mem_singleton.1 h]; exact rC) (by rw [show gM2 = oneM 10000 pJl (linesB [tA, tB]) from rfl, used_one, zAB, zC]; show ((38 : Nat) : Int) - ((0 : Nat) : Int) + ((19 : Nat) : Int) ≤ 10000; omega)
  rw [show repD gM2 dJ (linesB [tC]) = gM3 from rep_two pthJ, zC] at this
  exact this
theorem g_r0 : RoomM gM0 := roomy_new (by decide)
theorem g_r1 : RoomM gM1 := roomy_one pthJ.rp (by rw [zA]; omega)
theorem g_r2 : RoomM gM2 := roomy_one pthJ.rp (by rw [zAB]; omega)
theorem g_s0 : JSmall fJ0 := ⟨by decide, by decide, by decide⟩
theorem g_s1 : JSmall fJ1 := ⟨by decide, by decide, by decide⟩
theorem g_s2 : JSmall fJ2 := ⟨by decide, by decide, by decide⟩
theorem g_s3 : JSmall fJ3 := ⟨by decide, by decide, by decide⟩
end Go.Jr
namespace Go.Proofs.YtlaoeiaaeifidaaGreat
open Go.Sw Go.Lib Go.Vf Go.Sha Go.Jr Go.RowKit
theorem same_no {A B : List ByteArray} {k : Nat} (hk : k < A.length) (h : (!((A.getD k default).toList == (B.getD k default).toList)) = true) : A ≠ B := fun e => by
  subst e; simp at h
theorem same_yes {A B : List ByteArray} {k : Nat} (hl : A.length = B.length) (hk : A.length ≤ k) (h : ∀ j, j < k → A.getD j default = B.getD j default) : A = B := by
  apply List.ext_getElem hl
  intro j h1 h2
  have := h j (by omega)
  simpa [List.getD, h1, h2] using this
theorem same_succ {A B : List ByteArray} {k : Nat} (h : ∀ j, j < k → A.getD j default = B.getD j default) (hk : (!((A.getD k default).toList == (B.getD k default).toList)) = false) : ∀ j, j < k + 1 → A.getD j default = B.getD j default := fun j hj => by
  rcases Nat.lt_or_ge j k with h' | h'
  · exact h j h'
  · have : j = k := by omega
    subst this
    have h1 : (A.getD j default).toList = (B.getD j default).toList := by simpa using hk
    rw [toList_data, toList_data] at h1
    exact ByteArray.ext (Array.toList_inj.1 h1)
theorem same_ (a1 : Option Addr) (c1 : Nat) (L1 : List ByteArray) (S1 : Nat → Obj → Prop) (hrd1 : Rd S1 a1 (strs L1)) (hl1 : L1.length ≤ 1000000000) (a2 : Option Addr) (c2 : Nat) (L2 : List ByteArray) (S2 : Nat → Obj → Prop) (hrd2 : Rd S2 a2 (strs L2)) (hl2 : L2.length ≤ 1000000000) (W0 : World) (H : List Grp) (hS1 : ∀ y o, S1 y o → At W0 H y o) (hS2 : ∀ y o, S2 y o → At W0 H y o) : Tri Tryz.prog 14 #[.slice a1 L1.length c1, .slice a2 L2.length c2] W0 H (fun v H' => v = .bool (decide (L1 = L2)) ∧ H' = H) := by
 refine Tri_of (args := [.slice a1 L1.length c1, .slice a2 L2.length c2]) (n := 26) Tryz.func14 rfl rfl (Nat.le_of_ble_eq_true rfl) ?_
 refine G_seq ?_
 refine G_pure (E':=[⟨0,[],.slice a1 L1.length c1⟩,⟨1,[],.slice a2 L2.length c2⟩]) [0] [0,1] rfl kr ?_
 refine N_then ?_
 refine G_seq ?_
 refine G_seq ?_
 refine G_pure (E':=[⟨0,[],.slice a1 L1.length c1⟩,⟨1,[],.slice a2 L2.length c2⟩,⟨10,[],.bool (((L1.length : Nat) : Int) != ((L2.length : Nat) : Int))⟩]) [0,0,0,0,0] [0,1,10] rfl kr ?_
 refine N_then ?_
 refine G_cond (b:=((L1.length : Nat) : Int) != ((L2.length : Nat) : Int)) kr (fun hc1=>?_) (fun hc1=>?_)
 ·
  have hne : ¬ L1.length = L2.length := fun e9 => by simp [e9] at hc1
  refine G_seq ?_
  refine G_pure (E':=[⟨4,[],.bool false⟩]) [0] [4] rfl kr ?_
  refine N_then ?_
  refine G_ret ?_
  refine N_then_ret ?_
  refine N_ret [.tmp 4] [.bool false] rfl kr rfl ?_
  exact ⟨by rw [decide_eq_false (fun e => hne (by rw [e]))]; rfl, rfl⟩
 ·
  have heq : L1.length = L2.length := by (have h9 : (L1.length : Int) = L2.length := by simpa using hc1); omega
  refine G_skip ?_
  refine N_then ?_
  refine G_seq ?_
  refine G_seq ?_
  refine G_pure (E':=[⟨0,[],.slice a1 L1.length c1⟩,⟨1,[],.slice a2 L2.length c2⟩,⟨12,[],.int .i64 ((L1.length : Nat) : Int)⟩,⟨13,[],.int .i64 0⟩]) [0,0,0] [0,1,12,13] rfl kr ?_
  refine N_then ?_
  refine G_block ?_
  refine G_loop (EI:=(fun ξ : Nat=>[⟨0,[],.slice a1 L1.length c1⟩,⟨1,[],.slice a2 L2.length c2⟩,⟨12,[],.int .i64 ((L1.length : Nat) : Int)⟩,⟨13,[],.int .i64 ((ξ : Nat) : Int)⟩])) (HI:=(fun ξ : Nat=>H)) (Φ:=(fun ξ : Nat=>(ξ ≤ L1.length)∧(∀ j,j < ξ → L1.getD j default = L2.getD j default))) (μ:=(fun ξ : Nat=>L1.length - ξ)) (s0:=(0)) [0,1,12,13] kr rfl ⟨(by omega),(fun j h=>absurd h (Nat.not_lt_zero j))⟩ ?_
  rintro k ⟨hk, hA⟩
  refine G_seq ?_
  refine G_pure (E':=[⟨0,[],.slice a1 L1.length c1⟩,⟨1,[],.slice a2 L2.length c2⟩,⟨12,[],.int .i64 ((L1.length : Nat) : Int)⟩,⟨13,[],.int .i64 ((k : Nat) : Int)⟩,⟨14,[],.bool (decide (((k : Nat) : Int) < ((L1.length : Nat) : Int)))⟩]) [0] [0,1,12,13,14] rfl kr ?_
  refine N_then ?_
  refine G_seq ?_
  refine G_cond (b:=decide (((k : Nat) : Int) < ((L1.length : Nat) : Int))) kr (fun hc2=>?_) (fun hc2=>?_)
  ·
   simp at hc2
   refine G_skip ?_
   refine N_then ?_
   refine G_seq ?_
   refine G_block ?_
   refine G_seq ?_
   refine G_pure (E':=[⟨0,[],.slice a1 L1.length c1⟩,⟨1,[],.slice a2 L2.length c2⟩,⟨5,[],.int .i64 ((k : Nat) : Int)⟩,⟨12,[],.int .i64 ((L1.length : Nat) : Int)⟩,⟨13,[],.int .i64 ((k : Nat) : Int)⟩]) [0,0] [0,1,5,12,13] rfl kr ?_
   refine N_then ?_
   refine G_seq ?_
   refine G_regionD kr kr ?_
   refine GL_p [0,0] kr (j:=2) rfl ?_
   refine GL_indexAddr (i:=2) (ch:=[]) (a:=a1) (len:=L1.length) (cap:=c1) (kd:=.i64) (j:=((k : Nat) : Int)) (e:=9) (sz:=1) (S:=S1) (cs:=(strs L1)) rfl rfl kr kr kr kr kr kr kr hrd1 (fun _=>by exact ⟨by omega,by omega,strs_ne (by omega)⟩) ?_
   refine GL_loadS (i:=3) (ch:=[]) (a:=a1) (q:=k * 1) (S:=S1) (cs:=(strs L1)) (v:=.string (L1.getD k default)) rfl rfl kr kr kr kr kr hrd1 hS1 (fun _=>(by rw [Nat.mul_one]; exact strs_at (by omega))) ?_
   refine GL_p [0,0] kr (j:=6) rfl ?_
   refine GL_indexAddr (i:=6) (ch:=[]) (a:=a2) (len:=L2.length) (cap:=c2) (kd:=.i64) (j:=((k : Nat) : Int)) (e:=9) (sz:=1) (S:=S2) (cs:=(strs L2)) rfl rfl kr kr kr kr kr kr kr hrd2 (fun _=>by exact ⟨by omega,by omega,strs_ne (by omega)⟩) ?_
   refine GL_loadS (i:=7) (ch:=[]) (a:=a2) (q:=k * 1) (S:=S2) (cs:=(strs L2)) (v:=.string (L2.getD k default)) rfl rfl kr kr kr kr kr hrd2 hS2 (fun _=>(by rw [Nat.mul_one]; exact strs_at (by omega))) ?_
   refine GL_fin (E':=[⟨0,[],.slice a1 L1.length c1⟩,⟨1,[],.slice a2 L2.length c2⟩,⟨12,[],.int .i64 ((L1.length : Nat) : Int)⟩,⟨13,[],.int .i64 ((k : Nat) : Int)⟩,⟨24,[],.bool (!((L1.getD k default).toList == (L2.getD k default).toList))⟩]) [0] [0,1,12,13,24] rfl kr ?_
   refine N_then ?_
   refine G_cond (b:=!((L1.getD k default).toList == (L2.getD k default).toList)) kr (fun hc3=>?_) (fun hc3=>?_)
   ·
    skip
    refine G_seq ?_
    refine G_pure (E':=[⟨4,[],.bool false⟩]) [0] [4] rfl kr ?_
    refine N_then ?_
    refine G_ret ?_
    refine N_block_ret ?_
    refine N_then_ret ?_
    refine N_then_ret ?_
    refine N_block_ret ?_
    refine N_then_ret ?_
    refine N_ret [.tmp 4] [.bool false] rfl kr rfl ?_
    exact ⟨by rw [decide_eq_false (same_no (by omega) hc3)]; rfl, rfl⟩
   ·
    skip
    refine G_skip ?_
    refine N_block ?_
    refine N_then ?_
    refine G_region ?_
    refine GL_p [0] kr (j:=1) rfl ?_
    refine GL_wi 25 (((k : Nat) : Int)+1) (by omega) (by omega) kr ?_
    refine GL_fin (E':=[⟨0,[],.slice a1 L1.length c1⟩,⟨1,[],.slice a2 L2.length c2⟩,⟨12,[],.int .i64 ((L1.length : Nat) : Int)⟩,⟨13,[],.int .i64 (((k : Nat) : Int)+1)⟩]) [0] [0,1,12,13] rfl kr ?_
    refine N_round (s':=(k+1)) [0,1,12,13] kr rfl ⟨(by omega),(same_succ hA hc3)⟩ (by omega)
  ·
   simp at hc2
   refine G_exit ?_
   refine N_then_exit ?_
   refine N_then_exit ?_
   refine N_block_exit ?_
   refine N_then ?_
   refine G_seq ?_
   refine G_pure (E':=[⟨4,[],.bool true⟩]) [0] [4] rfl kr ?_
   refine N_then ?_
   refine G_ret ?_
   refine N_ret [.tmp 4] [.bool true] rfl kr rfl ?_
   exact ⟨by rw [decide_eq_true (same_yes heq (by omega) hA)]; rfl, rfl⟩
set_option maxRecDepth 4000 in
set_option maxHeartbeats 1000000 in
theorem jFirst  (W0 : World) (H : List Grp) : Tri Tryz.prog 7 #[] W0 H (fun v H' => v = .bool true ∧ ∃ G, H' = G ++ H) := by
 refine Tri_of (args := []) (n := 75) Tryz.func7 rfl rfl (Nat.le_of_ble_eq_true rfl) ?_
 refine G_seq ?_
 refine G_pure (E':=[]) [0] [] rfl kr ?_
 refine N_then ?_
 refine G_seq ?_
 refine G_region ?_
 refine GL_call (i:=0) (ch:=[]) (f:=8) (fst:=#[]) (caps:=#[]) (vs:=[.int .i64 10000]) rfl rfl rfl kr kr Tryz.func8 rfl rfl kr kr (chSure_of kr) (dNew 10000 (M:=gM0) _ _ rfl) ?_
 rintro v H' ⟨d1, rfl, s1, hs1, rfl⟩
 refine GL_fin (E':=[⟨1,[],pt d1⟩]) [0] [1] rfl kr ?_
 refine N_then ?_
 refine G_seq ?_
 refine G_region ?_
 refine GL_p [0] kr (j:=1) rfl ?_
 refine GL_call (i:=1) (ch:=[]) (f:=10) (fst:=#[]) (caps:=#[]) (vs:=[pt d1,.string (ByteArray.mk #[106])]) rfl rfl rfl kr kr Tryz.func10 rfl rfl kr kr (chSure_of kr) (jOpen hs1 g_r0 (by decide) f_open0 ([] : List Grp) d1 _ H) ?_
 rintro v H' ⟨jb2, ja3, jc4, jr5, s2, rfl, ho6, hs2, rfl⟩
 refine GL_fin (E':=[⟨1,[],pt d1⟩,⟨2,[],pt jb2⟩,⟨3,[],.int .i64 0⟩]) [0,0,0,0,0] [1,2,3] rfl kr ?_
 refine N_then ?_
 refine G_seq ?_
 refine G_seq ?_
 refine G_region ?_
 refine GL_p [0,0,0,0,0,3,0,0] kr (j:=8) rfl ?_
 refine GL_call (i:=8) (ch:=[(20,false)]) (f:=17) (fst:=#[]) (caps:=#[]) (vs:=[pt jb2,.string (ByteArray.mk #[97])]) rfl rfl rfl kr kr Tryz.func17 rfl rfl kr kr (chSure_of kr) (jAdd hs2 g_r0 g_s0 (by decide) f_add1 ([] : List Grp) jb2 d1 ho6 _ H) ?_
 rintro v H' ⟨ja7, jc8, jr9, s4, rfl, ho10, hs4, rfl⟩
 refine GL_p [0,3,0,0] kr (j:=13) rfl ?_
 refine GL_call (i:=13) (ch:=[(25,false)]) (f:=17) (fst:=#[]) (caps:=#[]) (vs:=[pt jb2,.string (ByteArray.mk #[98,10])]) rfl rfl rfl kr kr Tryz.func17 rfl rfl kr kr (chSure_of kr) (jAdd hs4 g_r1 g_s1 (by decide) f_add2 ([] : List Grp) jb2 d1 ho10 _ H) ?_
 rintro v H' ⟨ja11, jc12, jr13, s6, rfl, ho14, hs6, rfl⟩
 refine GL_p [0,3,0,0] kr (j:=18) rfl ?_
 refine GL_call (i:=18) (ch:=[(30,false)]) (f:=17) (fst:=#[]) (caps:=#[]) (vs:=[pt jb2,.string (ByteArray.mk #[98])]) rfl rfl rfl kr kr Tryz.func17 rfl rfl kr kr (chSure_of kr) (jAdd hs6 g_r1 g_s1 (by decide) f_add3 ([] : List Grp) jb2 d1 ho14 _ H) ?_
 rintro v H' ⟨ja15, jc16, jr17, s8, rfl, ho18, hs8, rfl⟩
 refine GL_fin (E':=[⟨1,[],pt d1⟩,⟨34,[],.bool false⟩]) [0,3] [1,34] rfl kr ?_
 refine N_then ?_
 refine G_condf kr ?_
 refine G_skip ?_
 refine N_then ?_
 refine G_seq ?_
 refine G_region ?_
 refine GL_p [0] kr (j:=1) rfl ?_
 refine GL_call (i:=1) (ch:=[]) (f:=28) (fst:=#[]) (caps:=#[]) (vs:=[pt d1,.slice none 0 0]) rfl rfl rfl kr kr Tryz.func28 rfl rfl kr kr (chSure_of kr) (dCrash (M':=gM2) hs8 g_r2.small d1 ([]) none 0 (fun _ _=>False) ⟨.inl rfl,by decide,by decide,fun _ h=>absurd h List.not_mem_nil⟩ [(jAt jb2 d1 fJ2 ja15 jc16),jr17] _ H (fun _ _ h=>h.elim) f_crash) ?_
 rintro v H' ⟨rfl, s9, hs9, rfl⟩
 refine GL_fin (E':=[⟨1,[],pt d1⟩]) [] [1] rfl kr ?_
 refine N_then ?_
 refine G_seq ?_
 refine G_region ?_
 refine GL_p [0] kr (j:=1) rfl ?_
 refine GL_call (i:=1) (ch:=[]) (f:=10) (fst:=#[]) (caps:=#[]) (vs:=[pt d1,.string (ByteArray.mk #[106])]) rfl rfl rfl kr kr Tryz.func10 rfl rfl kr kr (chSure_of kr) (jOpen hs9 g_r2 (by decide) f_open2 ([(jAt jb2 d1 fJ2 ja15 jc16),jr17] : List Grp) d1 _ H) ?_
 rintro v H' ⟨jb19, ja20, jc21, jr22, s10, rfl, ho23, hs10, rfl⟩
 refine GL_fin (E':=[⟨4,[],pt jb19⟩,⟨5,[],.int .i64 0⟩]) [0,0,0,0,0] [4,5] rfl kr ?_
 refine N_then ?_
 refine G_seq ?_
 refine G_region ?_
 refine GL_call (i:=0) (ch:=[]) (f:=10) (fst:=#[]) (caps:=#[]) (vs:=[.pointer none,.string (ByteArray.mk #[106])]) rfl rfl rfl kr kr Tryz.func10 rfl rfl kr kr (chSure_of kr) (openNil_ _ _ _) ?_
 rintro v H' ⟨rfl, rfl⟩
 refine GL_fin (E':=[⟨4,[],pt jb19⟩,⟨5,[],.int .i64 0⟩,⟨7,[],.int .i64 1⟩]) [0,0,0,0,0] [4,5,7] rfl kr ?_
 refine N_then ?_
 refine G_seq ?_
 refine G_region ?_
 refine GL_p [0,0,0,0] kr (j:=4) rfl ?_
 refine GL_call (i:=4) (ch:=[(48,true)]) (f:=15) (fst:=#[]) (caps:=#[]) (vs:=[pt jb19]) rfl rfl rfl kr kr Tryz.func15 rfl rfl kr kr (chSure_of kr) (jRecords g_s2 jb19 d1 ho23 _ _) ?_
 rintro v H' ⟨la24, lc25, lg26, rfl, hrd27, rfl⟩
 refine GL_buildSlice (i:=5) (ch:=[(48,true)]) (e:=9) (l:=[(0,.string (ByteArray.mk #[97])),(1,.string (ByteArray.mk #[98]))]) (c:=[.string (ByteArray.mk #[97]),.string (ByteArray.mk #[98])]) rfl rfl kr kr kr kr kr (fun b28=>?_)
 refine GL_callQ (i:=6) (ch:=[(48,true)]) (f:=14) (fst:=#[]) (caps:=#[]) (vs:=[.slice la24 fJ2.L.length lc25,.slice (some ⟨b28,0,none⟩) 2 2]) (v:=.bool (decide (fJ2.L = [(ByteArray.mk #[97]),(ByteArray.mk #[98])]))) rfl rfl rfl kr kr Tryz.func14 rfl rfl kr kr kr (fun hc=>same_ la24 lc25 fJ2.L (inG lg26) hrd27 (by decide) (some ⟨b28,0,none⟩) 2 ([(ByteArray.mk #[97]),(ByteArray.mk #[98])]) (inG [(b28,.cells #[.string (ByteArray.mk #[97]),.string (ByteArray.mk #[98])] 9 (0,0))]) Rd.lit (by decide) _ _ (at_inG 1 rfl) (at_inG 0 rfl)) ?_
 refine GL_env (E':=[⟨52,[(48,true)],.bool true⟩,⟨51,[(48,true)],.slice (some ⟨b28,0,none⟩) 2 2⟩,⟨50,[(48,true)],.slice la24 fJ2.L.length lc25⟩,⟨49,[(48,true)],pt jb19⟩,⟨48,[],.bool true⟩,⟨47,[],.bool true⟩,⟨46,[],.int .i64 0⟩,⟨4,[],pt jb19⟩,⟨5,[],.int .i64 0⟩,⟨7,[],.int .i64 1⟩]) (by have hz : ([⟨52,[(48,true)],.bool (decide (fJ2.L = [(ByteArray.mk #[97]),(ByteArray.mk #[98])]))⟩,⟨51,[(48,true)],.slice (some ⟨b28,0,none⟩) 2 2⟩,⟨50,[(48,true)],.slice la24 fJ2.L.length lc25⟩,⟨49,[(48,true)],pt jb19⟩,⟨48,[],.bool true⟩,⟨47,[],.bool true⟩,⟨46,[],.int .i64 0⟩,⟨4,[],pt jb19⟩,⟨5,[],.int .i64 0⟩,⟨7,[],.int .i64 1⟩] : List Sl) = [⟨52,[(48,true)],.bool true⟩,⟨51,[(48,true)],.slice (some ⟨b28,0,none⟩) 2 2⟩,⟨50,[(48,true)],.slice la24 fJ2.L.length lc25⟩,⟨49,[(48,true)],pt jb19⟩,⟨48,[],.bool true⟩,⟨47,[],.bool true⟩,⟨46,[],.int .i64 0⟩,⟨4,[],pt jb19⟩,⟨5,[],.int .i64 0⟩,⟨7,[],.int .i64 1⟩]:=(by rw [show decide (fJ2.L = [(ByteArray.mk #[97]),(ByteArray.mk #[98])]) = true from by decide +kernel]); exact Eq.trans kr hz) ?_
 refine GL_p [2,0,0] kr (j:=10) rfl ?_
 refine GL_heap rfl (H':=((jAt jb19 d1 fJ2 ja20 jc21)::[(b28,.cells #[.string (ByteArray.mk #[97]),.string (ByteArray.mk #[98])] 9 (0,0))]::lg26::jr22::(jAt jb2 d1 fJ2 ja15 jc16)::jr17::(s10.G d1 gM2++H))) (fun w h=>(h.front (j:=2) rfl)) ?_
 refine GL_call (i:=10) (ch:=[(54,true)]) (f:=16) (fst:=#[]) (caps:=#[]) (vs:=[pt jb19]) rfl rfl rfl kr kr Tryz.func16 rfl rfl kr kr (chSure_of kr) (jSize jb19 d1 (a:=ja20) (c:=jc21) _ _) ?_
 rintro v H' ⟨rfl, rfl⟩
 refine GL_p [0,2,0,0] kr (j:=15) rfl ?_
 refine GL_buildSlice (i:=15) (ch:=[(59,true)]) (e:=9) (l:=[(0,.string (ByteArray.mk #[99]))]) (c:=[.string (ByteArray.mk #[99])]) rfl rfl kr kr kr kr kr (fun b29=>?_)
 refine GL_heap rfl (H':=((jAt jb19 d1 fJ2 ja20 jc21)::jr22::[(b29,.cells #[.string (ByteArray.mk #[99])] 9 (0,0))]::[(b28,.cells #[.string (ByteArray.mk #[97]),.string (ByteArray.mk #[98])] 9 (0,0))]::lg26::(jAt jb2 d1 fJ2 ja15 jc16)::jr17::(s10.G d1 gM2++H))) (fun w h=>((h.front (j:=4) rfl).front (j:=2) rfl)) ?_
 refine GL_call (i:=16) (ch:=[(59,true)]) (f:=18) (fst:=#[]) (caps:=#[]) (vs:=[pt jb19,.slice (some ⟨b29,0,none⟩) 1 1]) rfl rfl rfl kr kr Tryz.func18 rfl rfl kr kr (chSure_of kr) (jRep (ts:=[(ByteArray.mk #[99])]) hs10 g_r2 g_s2 (Nat.le_trans (Nat.le_of_eq zC) (by omega)) f_rep ([[(b29,.cells #[.string (ByteArray.mk #[99])] 9 (0,0))],[(b28,.cells #[.string (ByteArray.mk #[97]),.string (ByteArray.mk #[98])] 9 (0,0))],lg26,(jAt jb2 d1 fJ2 ja15 jc16),jr17] : List Grp) jb19 d1 ho23 (some ⟨b29,0,none⟩) 1 (inG [(b29,.cells #[.string (ByteArray.mk #[99])] 9 (0,0))]) Rd.lit (fun h=>by cases h) _ H (at_inG 1 rfl)) ?_
 rintro v H' ⟨ja30, jc31, jr32, s12, rfl, ho33, hs12, rfl⟩
 refine GL_p [0,2,0,0] kr (j:=21) rfl ?_
 refine GL_call (i:=21) (ch:=[(65,true)]) (f:=15) (fst:=#[]) (caps:=#[]) (vs:=[pt jb19]) rfl rfl rfl kr kr Tryz.func15 rfl rfl kr kr (chSure_of kr) (jRecords g_s3 jb19 d1 ho33 _ _) ?_
 rintro v H' ⟨la34, lc35, lg36, rfl, hrd37, rfl⟩
 refine GL_buildSlice (i:=22) (ch:=[(65,true)]) (e:=9) (l:=[(0,.string (ByteArray.mk #[99]))]) (c:=[.string (ByteArray.mk #[99])]) rfl rfl kr kr kr kr kr (fun b38=>?_)
 refine GL_callQ (i:=23) (ch:=[(65,true)]) (f:=14) (fst:=#[]) (caps:=#[]) (vs:=[.slice la34 fJ3.L.length lc35,.slice (some ⟨b38,0,none⟩) 1 1]) (v:=.bool (decide (fJ3.L = [(ByteArray.mk #[99])]))) rfl rfl rfl kr kr Tryz.func14 rfl rfl kr kr kr (fun hc=>same_ la34 lc35 fJ3.L (inG lg36) hrd37 (by decide) (some ⟨b38,0,none⟩) 1 ([(ByteArray.mk #[99])]) (inG [(b38,.cells #[.string (ByteArray.mk #[99])] 9 (0,0))]) Rd.lit (by decide) _ _ (at_inG 1 rfl) (at_inG 0 rfl)) ?_
 refine GL_env (E':=[⟨69,[(65,true)],.bool true⟩,⟨68,[(65,true)],.slice (some ⟨b38,0,none⟩) 1 1⟩,⟨67,[(65,true)],.slice la34 fJ3.L.length lc35⟩,⟨66,[(65,true)],pt jb19⟩,⟨65,[],.bool true⟩,⟨64,[],.bool true⟩,⟨63,[(59,true)],.bool true⟩,⟨62,[(59,true)],.int .i64 0⟩,⟨61,[(59,true)],.slice (some ⟨b29,0,none⟩) 1 1⟩,⟨60,[(59,true)],pt jb19⟩,⟨59,[],.bool true⟩,⟨58,[],.bool true⟩,⟨57,[(54,true)],.bool true⟩,⟨56,[(54,true)],.int .i64 38⟩,⟨55,[(54,true)],pt jb19⟩,⟨54,[],.bool true⟩,⟨53,[],.bool true⟩,⟨52,[(48,true)],.bool true⟩,⟨51,[(48,true)],.slice (some ⟨b28,0,none⟩) 2 2⟩,⟨50,[(48,true)],.slice la24 fJ2.L.length lc25⟩,⟨49,[(48,true)],pt jb19⟩,⟨48,[],.bool true⟩,⟨47,[],.bool true⟩,⟨46,[],.int .i64 0⟩,⟨4,[],pt jb19⟩,⟨5,[],.int .i64 0⟩,⟨7,[],.int .i64 1⟩]) (by have hz : ([⟨69,[(65,true)],.bool (decide (fJ3.L = [(ByteArray.mk #[99])]))⟩,⟨68,[(65,true)],.slice (some ⟨b38,0,none⟩) 1 1⟩,⟨67,[(65,true)],.slice la34 fJ3.L.length lc35⟩,⟨66,[(65,true)],pt jb19⟩,⟨65,[],.bool true⟩,⟨64,[],.bool true⟩,⟨63,[(59,true)],.bool true⟩,⟨62,[(59,true)],.int .i64 0⟩,⟨61,[(59,true)],.slice (some ⟨b29,0,none⟩) 1 1⟩,⟨60,[(59,true)],pt jb19⟩,⟨59,[],.bool true⟩,⟨58,[],.bool true⟩,⟨57,[(54,true)],.bool true⟩,⟨56,[(54,true)],.int .i64 38⟩,⟨55,[(54,true)],pt jb19⟩,⟨54,[],.bool true⟩,⟨53,[],.bool true⟩,⟨52,[(48,true)],.bool true⟩,⟨51,[(48,true)],.slice (some ⟨b28,0,none⟩) 2 2⟩,⟨50,[(48,true)],.slice la24 fJ2.L.length lc25⟩,⟨49,[(48,true)],pt jb19⟩,⟨48,[],.bool true⟩,⟨47,[],.bool true⟩,⟨46,[],.int .i64 0⟩,⟨4,[],pt jb19⟩,⟨5,[],.int .i64 0⟩,⟨7,[],.int .i64 1⟩] : List Sl) = [⟨69,[(65,true)],.bool true⟩,⟨68,[(65,true)],.slice (some ⟨b38,0,none⟩) 1 1⟩,⟨67,[(65,true)],.slice la34 fJ3.L.length lc35⟩,⟨66,[(65,true)],pt jb19⟩,⟨65,[],.bool true⟩,⟨64,[],.bool true⟩,⟨63,[(59,true)],.bool true⟩,⟨62,[(59,true)],.int .i64 0⟩,⟨61,[(59,true)],.slice (some ⟨b29,0,none⟩) 1 1⟩,⟨60,[(59,true)],pt jb19⟩,⟨59,[],.bool true⟩,⟨58,[],.bool true⟩,⟨57,[(54,true)],.bool true⟩,⟨56,[(54,true)],.int .i64 38⟩,⟨55,[(54,true)],pt jb19⟩,⟨54,[],.bool true⟩,⟨53,[],.bool true⟩,⟨52,[(48,true)],.bool true⟩,⟨51,[(48,true)],.slice (some ⟨b28,0,none⟩) 2 2⟩,⟨50,[(48,true)],.slice la24 fJ2.L.length lc25⟩,⟨49,[(48,true)],pt jb19⟩,⟨48,[],.bool true⟩,⟨47,[],.bool true⟩,⟨46,[],.int .i64 0⟩,⟨4,[],pt jb19⟩,⟨5,[],.int .i64 0⟩,⟨7,[],.int .i64 1⟩]:=(by rw [show decide (fJ3.L = [(ByteArray.mk #[99])]) = true from by decide +kernel]); exact Eq.trans kr hz) ?_
 refine GL_fin (E':=[⟨0,[],.bool true⟩]) [2,0,0,0,2,0] [0] rfl kr ?_
 refine N_then ?_
 refine G_ret ?_
 refine N_ret [.tmp 0] [.bool true] rfl kr rfl ?_
 exact ⟨rfl, [[(b38, .cells #[.string (ByteArray.mk #[99])] 9 (0, 0))], lg36, (jAt jb19 d1 fJ3 ja30 jc31), jr32, [(b29, .cells #[.string (ByteArray.mk #[99])] 9 (0, 0))], [(b28, .cells #[.string (ByteArray.mk #[97]), .string (ByteArray.mk #[98])] 9 (0, 0))], lg26, (jAt jb2 d1 fJ2 ja15 jc16), jr17] ++ s12.G d1 gM3, by simp⟩
end Go.Proofs.YtlaoeiaaeifidaaGreat
namespace Go.Sha
open Go.Sw
def U (x : Int) : Prop := 0 ≤ x ∧ x < 4294967296
abbrev bv (x : Int) : BitVec 32 := BitVec.ofInt 32 x
theorem w32_id {x : Int} (h : U x) : w32 x = x := by
  obtain ⟨h0, h1⟩ := h
  show IntKind.wrap .u32 x = x
  simp only [IntKind.wrap, IntKind.bits, IntKind.signed]
  simp only [show (2 : Int) ^ 32 = 4294967296 from by decide]
  simp; omega
theorem U_bv (v : BitVec 32) : U (v.toNat : Int) := ⟨Int.natCast_nonneg _, by have := v.isLt; omega⟩
theorem bv_nat (v : BitVec 32) : bv (v.toNat : Int) = v := by
  apply BitVec.eq_of_toNat_eq
  rw [BitVec.toNat_ofInt]
  have := v.isLt
  omega
theorem xor32_eq (a b : Int) : xor32 a b = ((bv a ^^^ bv b).toNat : Int) := w32_id (U_bv _)
theorem or32_eq (a b : Int) : or32 a b = ((bv a ||| bv b).toNat : Int) := w32_id (U_bv _)
theorem and32_eq (a b : Int) : and32 a b = ((bv a &&& bv b).toNat : Int) := w32_id (U_bv _)
theorem not32_eq (a : Int) : not32 a = ((~~~ bv a).toNat : Int) := by
  have : (BitVec.ofInt (IntKind.bits .u32) 4294967295 ^^^ BitVec.ofInt (IntKind.bits .u32) a) = ~~~ bv a := by
    show BitVec.ofInt 32 4294967295 ^^^ bv a = ~~~ bv a
    rw [show BitVec.ofInt 32 4294967295 = BitVec.allOnes 32 from by decide]
    exact BitVec.allOnes_xor
  unfold not32
  rw [this]
  exact w32_id (U_bv _)
theorem bv_xor (a b : Int) : bv (xor32 a b) = bv a ^^^ bv b := by rw [xor32_eq, bv_nat]
theorem bv_or (a b : Int) : bv (or32 a b) = bv a ||| bv b := by rw [or32_eq, bv_nat]
theorem bv_and (a b : Int) : bv (and32 a b) = bv a &&& bv b := by rw [and32_eq, bv_nat]
theorem bv_not (a : Int) : bv (not32 a) = ~~~ bv a := by rw [not32_eq, bv_nat]
theorem U_w32 (x : Int) : U (w32 x) := by
  show 0 ≤ IntKind.wrap .u32 x ∧ IntKind.wrap .u32 x < 4294967296
  simp only [IntKind.wrap, IntKind.bits, IntKind.signed, show (2 : Int) ^ 32 = 4294967296 from by decide]
  simp; omega
theorem not_sub {e : Int} (h : U e) : w32 (4294967295 - e) = not32 e := by
  have h2 : U (4294967295 - e) := ⟨by have := h.2; omega, by have := h.1; omega⟩
  rw [w32_id h2, not32_eq, BitVec.toNat_not, BitVec.toNat_ofInt]
  have h3 := h.1; have h4 := h.2
  have e1 : ((e % ((2 ^ 32 : Nat) : Int)).toNat : Int) = e := by
    rw [show ((2 ^ 32 : Nat) : Int) = 4294967296 from by decide]; omega
  have e2 : (e % ((2 ^ 32 : Nat) : Int)).toNat < 4294967296 := by omega
  have e3 : (2 ^ 32 : Nat) = 4294967296 := by decide
  rw [e3] at *
  omega
def chR (e f g : Int) : Int := or32 (and32 e f) (and32 (w32 (4294967295 - e)) g)
def majR (a b c : Int) : Int := or32 (or32 (and32 a b) (and32 a c)) (and32 b c)
theorem chR_eq {e : Int} (h : U e) (f g : Int) : chR e f g = chP e f g := by
  unfold chR chP
  rw [not_sub h, or32_eq, xor32_eq, bv_and, bv_and, bv_not]
  congr 2
  apply BitVec.eq_of_getLsbD_eq
  intro i hi
  simp only [BitVec.getLsbD_or, BitVec.getLsbD_xor, BitVec.getLsbD_and, BitVec.getLsbD_not]
  cases (bv e).getLsbD i <;> cases (bv f).getLsbD i <;> cases (bv g).getLsbD i <;> simp
theorem majR_eq (a b c : Int) : majR a b c = majP a b c := by
  unfold majR majP
  rw [or32_eq, xor32_eq, bv_or, bv_xor, bv_and, bv_and, bv_and]
  congr 2
  apply BitVec.eq_of_getLsbD_eq
  intro i hi
  simp only [BitVec.getLsbD_or, BitVec.getLsbD_xor, BitVec.getLsbD_and]
  cases (bv a).getLsbD i <;> cases (bv b).getLsbD i <;> cases (bv c).getLsbD i <;> rfl
theorem or32_comm (a b : Int) : or32 a b = or32 b a := by rw [or32_eq, or32_eq, BitVec.or_comm]
def rotR (x : Int) (n : Nat) : Int := or32 (Int.fdiv x (2 ^ n)) (w32 (x * 2 ^ (32 - n)))
theorem rotR_eq (x : Int) (n : Nat) : rotR x n = rotr x n := or32_comm _ _
theorem or_add {a b i : Nat} (hb : b < 2 ^ i) (h : a * 2 ^ i + b < 4294967296) : or32 ((a * 2 ^ i : Nat) : Int) (b : Int) = ((a * 2 ^ i + b : Nat) : Int) := by
  rw [or32_eq, BitVec.toNat_or, BitVec.toNat_ofInt, BitVec.toNat_ofInt]
  have e1 : ((((a * 2 ^ i : Nat) : Int) % ((2 ^ 32 : Nat) : Int)).toNat) = a * 2 ^ i := by
    have : a * 2 ^ i < 4294967296 := by omega
    rw [show ((2 ^ 32 : Nat) : Int) = 4294967296 from by decide]; omega
  have e2 : (((b : Int) % ((2 ^ 32 : Nat) : Int)).toNat) = b := by
    rw [show ((2 ^ 32 : Nat) : Int) = 4294967296 from by decide]; omega
  rw [e1, e2, ← Nat.shiftLeft_eq, ← Nat.shiftLeft_add_eq_or_of_lt hb]
def wordR (a b c d : Int) : Int := w32 (w32 (w32 (w32 (w32 a * 16777216) + w32 (w32 b * 65536)) + w32 (w32 c * 256)) + w32 d)
theorem word_eq {a b c d : Nat} (ha : a < 256) (hb : b < 256) (hc : c < 256) (hd : d < 256) : wordR a b c d = wordP a b c d := by
  have i1 : ∀ {x : Int}, 0 ≤ x → x < 4294967296 → w32 x = x := fun h0 h1 => w32_id ⟨h0, h1⟩
  unfold wordR wordP
  rw [show ((2 : Int) ^ 24) = 16777216 from by decide, show ((2 : Int) ^ 16) = 65536 from by decide, show ((2 : Int) ^ 8) = 256 from by decide]
  rw [i1 (x := (a : Int)) (by omega) (by omega), i1 (x := (b : Int)) (by omega) (by omega), i1 (x := (c : Int)) (by omega) (by omega), i1 (x := (d : Int)) (by omega) (by omega)]
  rw [i1 (x := (a : Int) * 16777216) (by omega) (by omega), i1 (x := (b : Int) * 65536) (by omega) (by omega), i1 (x := (c : Int) * 256) (by omega) (by omega)]
  rw [i1 (x := (a : Int) * 16777216 + (b : Int) * 65536) (by omega) (by omega), i1 (x := (a : Int) * 16777216 + (b : Int) * 65536 + (c : Int) * 256) (by omega) (by omega), i1 (x := (a : Int) * 16777216 + (b : Int) * 65536 + (c : Int) * 256 + (d : Int)) (by omega) (by omega)]
  have h1 := or_add (a := a) (b := b * 65536) (i := 24) (by omega) (by omega)
  have h2 := or_add (a := a * 256 + b) (b := c * 256) (i := 16) (by omega) (by omega)
  have h3 := or_add (a := a * 65536 + b * 256 + c) (b := d) (i := 8) (by omega) (by omega)
  rw [show ((a : Int) * 16777216) = ((a * 2 ^ 24 : Nat) : Int) by omega, show ((b : Int) * 65536) = ((b * 65536 : Nat) : Int) by omega, h1]
  rw [show ((a * 2 ^ 24 + b * 65536 : Nat) : Int) = (((a * 256 + b) * 2 ^ 16 : Nat) : Int) by omega, show ((c : Int) * 256) = ((c * 256 : Nat) : Int) by omega, h2]
  rw [show (((a * 256 + b) * 2 ^ 16 + c * 256 : Nat) : Int) = (((a * 65536 + b * 256 + c) * 2 ^ 8 : Nat) : Int) by omega, h3]
  omega
end Go.Sha
namespace Go.Sw
theorem GL_shl {d : Bool} {P : Program} {ops : Array Oper} {i : Nat} {Q : Post} {n : Fr} {E : Env} {W0 : World} {H : List Grp} {o : Oper} {ch : List (Nat × Bool)} {t ty : TypeId} {x y : Operand} {kd ky : IntKind} {a b : Int}
    (ho : ops[i]? = some o) (hop : o.op = .binOp .shl t x y ty) (hx : evO E ch x = some (.int kd a)) (hy : evO E ch y = some (.int ky b))
    (hch : chainOf ops E o.guard = some ch) (hd : dstOk n ch o.dst = true) (hk : chKnown E ch = true) (hb : 0 ≤ b)
    (k : GL d P ops (i + 1) Q n (Env.put E o.dst ch (.int kd (kd.wrap (a * 2 ^ (min b.toNat kd.bits))))) W0 H) : GL d P ops i Q n E W0 H := by
  refine GL_quiet ho hch hd hk (fun r hr _ w _ => ?_) k
  unfold execOp
  simp only [hop]
  rw [hr _ _ hx, hr _ _ hy]
  have hg : (eqGuard .shl t x y (.int kd a) (.int ky b)).run P w = .ok () w := rfl
  have hs : (binOp .shl t (.int kd a) (.int ky b)).run P w = .ok (.int kd (kd.wrap (a * 2 ^ (min b.toNat kd.bits)))) w := by
    simp only [binOp, Op.shift, if_neg (show ¬ b < 0 by omega)]; rfl
  simp only [Sem.run_bind, hg, hs, Result.andThen_ok]
  exact ⟨rfl, rfl⟩
theorem GL_shr {d : Bool} {P : Program} {ops : Array Oper} {i : Nat} {Q : Post} {n : Fr} {E : Env} {W0 : World} {H : List Grp} {o : Oper} {ch : List (Nat × Bool)} {t ty : TypeId} {x y : Operand} {kd ky : IntKind} {a b : Int}
    (ho : ops[i]? = some o) (hop : o.op = .binOp .shr t x y ty) (hx : evO E ch x = some (.int kd a)) (hy : evO E ch y = some (.int ky b))
    (hch : chainOf ops E o.guard = some ch) (hd : dstOk n ch o.dst = true) (hk : chKnown E ch = true) (hb : 0 ≤ b)
    (k : GL d P ops (i + 1) Q n (Env.put E o.dst ch (.int kd (a.fdiv (2 ^ (min b.toNat kd.bits))))) W0 H) : GL d P ops i Q n E W0 H := by
  refine GL_quiet ho hch hd hk (fun r hr _ w _ => ?_) k
  unfold execOp
  simp only [hop]
  rw [hr _ _ hx, hr _ _ hy]
  have hg : (eqGuard .shr t x y (.int kd a) (.int ky b)).run P w = .ok () w := rfl
  have hs : (binOp .shr t (.int kd a) (.int ky b)).run P w = .ok (.int kd (a.fdiv (2 ^ (min b.toNat kd.bits)))) w := by
    simp only [binOp, Op.shift, if_neg (show ¬ b < 0 by omega)]; rfl
  simp only [Sem.run_bind, hg, hs, Result.andThen_ok]
  exact ⟨rfl, rfl⟩
end Go.Sw
namespace Go.Sha
open Go.Sw
def prU : Nat → List Nat
  | 0 => []
  | i + 1 => if (prU i).all (fun q => (i + 2) % q != 0) then prU i ++ [i + 2] else prU i
theorem pr_yes {i : Nat} (h : (prU i).all (fun q => (i + 2) % q != 0) = true) : prU (i + 1) = prU i ++ [i + 2] := by rw [prU, if_pos h]
theorem pr_no {i : Nat} (h : (prU i).all (fun q => (i + 2) % q != 0) = false) : prU (i + 1) = prU i := by rw [prU, if_neg (by rw [h]; decide)]
theorem pr_pre : ∀ (i j : Nat), ∃ r, prU (i + j) = prU i ++ r
  | i, 0 => ⟨[], by simp⟩
  | i, j + 1 => by
    obtain ⟨r, hr⟩ := pr_pre i j
    show ∃ r, prU ((i + j) + 1) = _
    rw [prU]
    split
    · exact ⟨r ++ [i + j + 2], by rw [hr, List.append_assoc]⟩
    · exact ⟨r, hr⟩
theorem pr_all : ∀ (i : Nat), ∀ q ∈ prU i, 2 ≤ q ∧ q ≤ i + 1
  | 0 => fun _ h => absurd h List.not_mem_nil
  | i + 1 => fun q hq => by
    rw [prU] at hq
    split at hq
    · rcases List.mem_append.1 hq with hq | hq
      · have := pr_all i q hq; omega
      · rw [List.mem_singleton.1 hq]; omega
    · have := pr_all i q hq; omega
def pList : List Nat := [2, 3, 5, 7, 11, 13, 17, 19, 23, 29, 31, 37, 41, 43, 47, 53, 59, 61, 67, 71, 73, 79, 83, 89, 97, 101, 103, 107, 109, 113, 127, 131, 137, 139, 149, 151, 157, 163, 167, 173, 179, 181, 191, 193, 197, 199, 211, 223, 227, 229, 233, 239, 241, 251, 257, 263, 269, 271, 277, 281, 283, 293, 307, 311]
theorem pr_310 : prU 310 = pList := by decide +kernel
theorem pr_lt {i : Nat} (h : (prU i).length < 64) : i < 310 := by
  rcases Nat.lt_or_ge i 310 with h' | h'
  · exact h'
  · obtain ⟨r, hr⟩ := pr_pre 310 (i - 310)
    rw [show 310 + (i - 310) = i by omega, pr_310] at hr
    rw [hr, List.length_append] at h
    have : pList.length = 64 := rfl
    omega
theorem pr_take {i n : Nat} (hi : i ≤ 310) (h : (prU i).length = n) : prU i = pList.take n := by
  obtain ⟨r, hr⟩ := pr_pre i (310 - i)
  rw [show i + (310 - i) = 310 by omega, pr_310] at hr
  rw [hr, ← h, List.take_left]
abbrev wU (x : Int) : Int := IntKind.wrap .u64 x
def tA0 (a : Int) : Int := Int.tmod a 4294967296
def tA1 (a : Int) : Int := wU (Int.tdiv a 4294967296)
def tLow (a b : Int) : Int := wU (tA0 a * tA0 b)
def tMid (a b : Int) : Int := wU (wU (tA1 a * tA0 b) + wU (Int.tdiv (tLow a b) 4294967296))
def tMid2 (a b : Int) : Int := wU (wU (tA0 a * tA1 b) + Int.tmod (tMid a b) 4294967296)
def tHi (a b : Int) : Int := wU (wU (wU (tA1 a * tA1 b) + wU (Int.tdiv (tMid a b) 4294967296)) + wU (Int.tdiv (tMid2 a b) 4294967296))
def tLo (a b : Int) : Int := wU (wU (tMid2 a b * 4294967296) + Int.tmod (tLow a b) 4294967296)
def sB (j : Nat) : Int := IntKind.wrap .u64 (1 * 2 ^ (min (Int.toNat (IntKind.wrap .u64 (35 - (j : Int)))) (IntKind.bits .u64)))
def rY (x : Int) (j : Nat) : Int := wU (x + sB j)
def c2 (p y : Int) : Bool := decide (tHi y y < p) || ((tHi y y == p) && (tLo y y == 0))
def rt2 (p : Int) : Nat → Int
  | 0 => 0
  | j + 1 => if c2 p (rY (rt2 p j) j) then rY (rt2 p j) j else rt2 p j
def top3 (y : Int) : Int := wU (tLo (tHi y y) y + tHi (tLo y y) y)
def c3 (p y : Int) : Bool := decide (top3 y < wU (p * 4294967296)) || ((top3 y == wU (p * 4294967296)) && (tLo (tLo y y) y == 0))
def rt3 (p : Int) : Nat → Int
  | 0 => 0
  | j + 1 => if c3 p (rY (rt3 p j) j) then rY (rt3 p j) j else rt3 p j
def r2 (p : Int) : Int := IntKind.wrap .u32 (Int.tmod (rt2 p 36) 4294967296)
def r3 (p : Int) : Int := IntKind.wrap .u32 (Int.tmod (rt3 p 36) 4294967296)
theorem rt2_yes {p : Int} {j : Nat} (h : c2 p (rY (rt2 p j) j) = true) : rt2 p (j + 1) = rY (rt2 p j) j := by rw [rt2, if_pos h]
theorem rt2_no {p : Int} {j : Nat} (h : c2 p (rY (rt2 p j) j) = false) : rt2 p (j + 1) = rt2 p j := by rw [rt2, if_neg (by rw [h]; decide)]
theorem rt3_yes {p : Int} {j : Nat} (h : c3 p (rY (rt3 p j) j) = true) : rt3 p (j + 1) = rY (rt3 p j) j := by rw [rt3, if_pos h]
theorem rt3_no {p : Int} {j : Nat} (h : c3 p (rY (rt3 p j) j) = false) : rt3 p (j + 1) = rt3 p j := by rw [rt3, if_neg (by rw [h]; decide)]
def hTab : List Int := [1779033703, 3144134277, 1013904242, 2773480762, 1359893119, 2600822924, 528734635, 1541459225]
theorem tab2 : (pList.take 8).map (fun q : Nat => r2 (q : Int)) = hTab := by decide +kernel
theorem tab3 : (pList.take 64).map (fun q : Nat => r3 (q : Int)) = kTab := by decide +kernel
end Go.Sha
namespace Go.Proofs.YtlaoeiaaeifidaaGreat
open Go.Sw Go.Sha
def u64s (l : List Nat) : List Value := l.map fun q : Nat => Value.int .u64 (q : Int)
theorem u64s_at {l : List Nat} {k q : Nat} (hq : q = k) (h : k < l.length) : (u64s l)[q]? = some (.int .u64 ((l.getD k 0 : Nat) : Int)) := by
  subst hq; simp [u64s, List.getD, h]
theorem u64s_len (l : List Nat) : (u64s l).length = l.length := by simp [u64s]
theorem u64_one {n : Int} : ∀ u ∈ [Value.int .u64 n], u.oneCell' = true := fun u hu => by rw [List.mem_singleton.1 hu]; rfl
theorem u32_one {n : Int} : ∀ u ∈ [Value.int .u32 n], u.oneCell' = true := fun u hu => by rw [List.mem_singleton.1 hu]; rfl
theorem wU_id {x : Int} (h0 : 0 ≤ x) (h1 : x < 18446744073709551616) : IntKind.wrap .u64 x = x := by
  simp only [IntKind.wrap, IntKind.bits, IntKind.signed, show (2 : Int) ^ 64 = 18446744073709551616 from by decide]
  simp; omega
theorem u64_ne {l : List Nat} {k : Nat} (h : k < l.length) : u64s l ≠ [] := fun e => by
  have := congrArg List.length e; rw [u64s_len] at this; simp at this; subst this; exact absurd h (Nat.not_lt_zero _)
theorem getD_mem {l : List Nat} {k : Nat} (h : k < l.length) : l.getD k 0 ∈ l := by rw [List.getD, List.getElem?_eq_getElem h]; exact List.getElem_mem h
theorem all_take {l : List Nat} {k p : Nat} (h : k < l.length) (hq : 2 ≤ l.getD k 0) : ((l.take (k + 1)).all fun q => p % q != 0) = (((l.take k).all fun q => p % q != 0) && (Int.tmod (p : Int) ((l.getD k 0 : Nat) : Int) != 0)) := by
  rw [List.take_add_one, List.getElem?_eq_getElem h, List.all_append]
  have e : l.getD k 0 = l[k] := by rw [List.getD, List.getElem?_eq_getElem h]; rfl
  rw [e]
  congr 1
  show ((p % l[k] != 0) && true) = _
  rw [Bool.and_true, show Int.tmod (p : Int) ((l[k] : Nat) : Int) = ((p % l[k] : Nat) : Int) from rfl]
  rw [Bool.eq_iff_iff]
  simp only [bne_iff_ne, ne_eq]
  omega
theorem own_u64 {ty : TypeId} {a : Option Addr} {c : Nat} {g : Grp} {l : List Nat} {x : Nat} {y : Int} (h : Go.Sw.Own ty 1 (.slice a (l.length + 1) c) g (l.length + 1) (u64s l ++ [.int .u64 y])) (hy : y = (x : Int)) : Go.Sw.Own ty 1 (.slice a (l ++ [x]).length c) g (l ++ [x]).length (u64s (l ++ [x])) := by
  have e1 : u64s (l ++ [x]) = u64s l ++ [.int .u64 (x : Int)] := by simp [u64s]
  rw [e1, List.length_append, ← hy]; exact h
theorem own_eqL {ty : TypeId} {a : Option Addr} {c : Nat} {g : Grp} {l l' : List Nat} (h : Go.Sw.Own ty 1 (.slice a l.length c) g l.length (u64s l)) (e : l = l') : Go.Sw.Own ty 1 (.slice a l'.length c) g l'.length (u64s l') := by subst e; exact h
theorem turn7 (x : Int) (W0 : World) (H : List Grp) : Tri Tryz.prog 101 #[.int .u32 x, .int .u64 7] W0 H (fun v H' => v = .int .u32 (rotr x 7) ∧ H' = H) := by
 refine Tri_of (args := [.int .u32 x, .int .u64 7]) (n := 13) Tryz.func101 rfl rfl (Nat.le_of_ble_eq_true rfl) ?_
 refine G_seq ?_
 refine G_pure (E':=[⟨0,[],.int .u32 x⟩,⟨1,[],.int .u64 7⟩]) [0] [0,1] rfl kr ?_
 refine N_then ?_
 refine G_seq ?_
 refine G_pure (E':=[⟨4,[],.int .u32 (IntKind.wrap .u32 ((BitVec.ofInt (IntKind.bits .u32) (Int.fdiv x (2 ^ 7)) ||| BitVec.ofInt (IntKind.bits .u32) (IntKind.wrap .u32 (x * 2 ^ 25))).toNat))⟩]) [0,0,0,0,0,0,0,0,0] [4] rfl kr ?_
 refine N_then ?_
 refine G_ret ?_
 refine N_ret [.tmp 4] [.int .u32 (IntKind.wrap .u32 ((BitVec.ofInt (IntKind.bits .u32) (Int.fdiv x (2 ^ 7)) ||| BitVec.ofInt (IntKind.bits .u32) (IntKind.wrap .u32 (x * 2 ^ 25))).toNat))] rfl kr rfl ?_
 exact ⟨by rw [← rotR_eq]; rfl, rfl⟩
theorem turn18 (x : Int) (W0 : World) (H : List Grp) : Tri Tryz.prog 101 #[.int .u32 x, .int .u64 18] W0 H (fun v H' => v = .int .u32 (rotr x 18) ∧ H' = H) := by
 refine Tri_of (args := [.int .u32 x, .int .u64 18]) (n := 13) Tryz.func101 rfl rfl (Nat.le_of_ble_eq_true rfl) ?_
 refine G_seq ?_
 refine G_pure (E':=[⟨0,[],.int .u32 x⟩,⟨1,[],.int .u64 18⟩]) [0] [0,1] rfl kr ?_
 refine N_then ?_
 refine G_seq ?_
 refine G_pure (E':=[⟨4,[],.int .u32 (IntKind.wrap .u32 ((BitVec.ofInt (IntKind.bits .u32) (Int.fdiv x (2 ^ 18)) ||| BitVec.ofInt (IntKind.bits .u32) (IntKind.wrap .u32 (x * 2 ^ 14))).toNat))⟩]) [0,0,0,0,0,0,0,0,0] [4] rfl kr ?_
 refine N_then ?_
 refine G_ret ?_
 refine N_ret [.tmp 4] [.int .u32 (IntKind.wrap .u32 ((BitVec.ofInt (IntKind.bits .u32) (Int.fdiv x (2 ^ 18)) ||| BitVec.ofInt (IntKind.bits .u32) (IntKind.wrap .u32 (x * 2 ^ 14))).toNat))] rfl kr rfl ?_
 exact ⟨by rw [← rotR_eq]; rfl, rfl⟩
theorem turn17 (x : Int) (W0 : World) (H : List Grp) : Tri Tryz.prog 101 #[.int .u32 x, .int .u64 17] W0 H (fun v H' => v = .int .u32 (rotr x 17) ∧ H' = H) := by
 refine Tri_of (args := [.int .u32 x, .int .u64 17]) (n := 13) Tryz.func101 rfl rfl (Nat.le_of_ble_eq_true rfl) ?_
 refine G_seq ?_
 refine G_pure (E':=[⟨0,[],.int .u32 x⟩,⟨1,[],.int .u64 17⟩]) [0] [0,1] rfl kr ?_
 refine N_then ?_
 refine G_seq ?_
 refine G_pure (E':=[⟨4,[],.int .u32 (IntKind.wrap .u32 ((BitVec.ofInt (IntKind.bits .u32) (Int.fdiv x (2 ^ 17)) ||| BitVec.ofInt (IntKind.bits .u32) (IntKind.wrap .u32 (x * 2 ^ 15))).toNat))⟩]) [0,0,0,0,0,0,0,0,0] [4] rfl kr ?_
 refine N_then ?_
 refine G_ret ?_
 refine N_ret [.tmp 4] [.int .u32 (IntKind.wrap .u32 ((BitVec.ofInt (IntKind.bits .u32) (Int.fdiv x (2 ^ 17)) ||| BitVec.ofInt (IntKind.bits .u32) (IntKind.wrap .u32 (x * 2 ^ 15))).toNat))] rfl kr rfl ?_
 exact ⟨by rw [← rotR_eq]; rfl, rfl⟩
theorem turn19 (x : Int) (W0 : World) (H : List Grp) : Tri Tryz.prog 101 #[.int .u32 x, .int .u64 19] W0 H (fun v H' => v = .int .u32 (rotr x 19) ∧ H' = H) := by
 refine Tri_of (args := [.int .u32 x, .int .u64 19]) (n := 13) Tryz.func101 rfl rfl (Nat.le_of_ble_eq_true rfl) ?_
 refine G_seq ?_
 refine G_pure (E':=[⟨0,[],.int .u32 x⟩,⟨1,[],.int .u64 19⟩]) [0] [0,1] rfl kr ?_
 refine N_then ?_
 refine G_seq ?_
 refine G_pure (E':=[⟨4,[],.int .u32 (IntKind.wrap .u32 ((BitVec.ofInt (IntKind.bits .u32) (Int.fdiv x (2 ^ 19)) ||| BitVec.ofInt (IntKind.bits .u32) (IntKind.wrap .u32 (x * 2 ^ 13))).toNat))⟩]) [0,0,0,0,0,0,0,0,0] [4] rfl kr ?_
 refine N_then ?_
 refine G_ret ?_
 refine N_ret [.tmp 4] [.int .u32 (IntKind.wrap .u32 ((BitVec.ofInt (IntKind.bits .u32) (Int.fdiv x (2 ^ 19)) ||| BitVec.ofInt (IntKind.bits .u32) (IntKind.wrap .u32 (x * 2 ^ 13))).toNat))] rfl kr rfl ?_
 exact ⟨by rw [← rotR_eq]; rfl, rfl⟩
theorem turn6 (x : Int) (W0 : World) (H : List Grp) : Tri Tryz.prog 101 #[.int .u32 x, .int .u64 6] W0 H (fun v H' => v = .int .u32 (rotr x 6) ∧ H' = H) := by
 refine Tri_of (args := [.int .u32 x, .int .u64 6]) (n := 13) Tryz.func101 rfl rfl (Nat.le_of_ble_eq_true rfl) ?_
 refine G_seq ?_
 refine G_pure (E':=[⟨0,[],.int .u32 x⟩,⟨1,[],.int .u64 6⟩]) [0] [0,1] rfl kr ?_
 refine N_then ?_
 refine G_seq ?_
 refine G_pure (E':=[⟨4,[],.int .u32 (IntKind.wrap .u32 ((BitVec.ofInt (IntKind.bits .u32) (Int.fdiv x (2 ^ 6)) ||| BitVec.ofInt (IntKind.bits .u32) (IntKind.wrap .u32 (x * 2 ^ 26))).toNat))⟩]) [0,0,0,0,0,0,0,0,0] [4] rfl kr ?_
 refine N_then ?_
 refine G_ret ?_
 refine N_ret [.tmp 4] [.int .u32 (IntKind.wrap .u32 ((BitVec.ofInt (IntKind.bits .u32) (Int.fdiv x (2 ^ 6)) ||| BitVec.ofInt (IntKind.bits .u32) (IntKind.wrap .u32 (x * 2 ^ 26))).toNat))] rfl kr rfl ?_
 exact ⟨by rw [← rotR_eq]; rfl, rfl⟩
theorem turn11 (x : Int) (W0 : World) (H : List Grp) : Tri Tryz.prog 101 #[.int .u32 x, .int .u64 11] W0 H (fun v H' => v = .int .u32 (rotr x 11) ∧ H' = H) := by
 refine Tri_of (args := [.int .u32 x, .int .u64 11]) (n := 13) Tryz.func101 rfl rfl (Nat.le_of_ble_eq_true rfl) ?_
 refine G_seq ?_
 refine G_pure (E':=[⟨0,[],.int .u32 x⟩,⟨1,[],.int .u64 11⟩]) [0] [0,1] rfl kr ?_
 refine N_then ?_
 refine G_seq ?_
 refine G_pure (E':=[⟨4,[],.int .u32 (IntKind.wrap .u32 ((BitVec.ofInt (IntKind.bits .u32) (Int.fdiv x (2 ^ 11)) ||| BitVec.ofInt (IntKind.bits .u32) (IntKind.wrap .u32 (x * 2 ^ 21))).toNat))⟩]) [0,0,0,0,0,0,0,0,0] [4] rfl kr ?_
 refine N_then ?_
 refine G_ret ?_
 refine N_ret [.tmp 4] [.int .u32 (IntKind.wrap .u32 ((BitVec.ofInt (IntKind.bits .u32) (Int.fdiv x (2 ^ 11)) ||| BitVec.ofInt (IntKind.bits .u32) (IntKind.wrap .u32 (x * 2 ^ 21))).toNat))] rfl kr rfl ?_
 exact ⟨by rw [← rotR_eq]; rfl, rfl⟩
theorem turn25 (x : Int) (W0 : World) (H : List Grp) : Tri Tryz.prog 101 #[.int .u32 x, .int .u64 25] W0 H (fun v H' => v = .int .u32 (rotr x 25) ∧ H' = H) := by
 refine Tri_of (args := [.int .u32 x, .int .u64 25]) (n := 13) Tryz.func101 rfl rfl (Nat.le_of_ble_eq_true rfl) ?_
 refine G_seq ?_
 refine G_pure (E':=[⟨0,[],.int .u32 x⟩,⟨1,[],.int .u64 25⟩]) [0] [0,1] rfl kr ?_
 refine N_then ?_
 refine G_seq ?_
 refine G_pure (E':=[⟨4,[],.int .u32 (IntKind.wrap .u32 ((BitVec.ofInt (IntKind.bits .u32) (Int.fdiv x (2 ^ 25)) ||| BitVec.ofInt (IntKind.bits .u32) (IntKind.wrap .u32 (x * 2 ^ 7))).toNat))⟩]) [0,0,0,0,0,0,0,0,0] [4] rfl kr ?_
 refine N_then ?_
 refine G_ret ?_
 refine N_ret [.tmp 4] [.int .u32 (IntKind.wrap .u32 ((BitVec.ofInt (IntKind.bits .u32) (Int.fdiv x (2 ^ 25)) ||| BitVec.ofInt (IntKind.bits .u32) (IntKind.wrap .u32 (x * 2 ^ 7))).toNat))] rfl kr rfl ?_
 exact ⟨by rw [← rotR_eq]; rfl, rfl⟩
theorem turn2 (x : Int) (W0 : World) (H : List Grp) : Tri Tryz.prog 101 #[.int .u32 x, .int .u64 2] W0 H (fun v H' => v = .int .u32 (rotr x 2) ∧ H' = H) := by
 refine Tri_of (args := [.int .u32 x, .int .u64 2]) (n := 13) Tryz.func101 rfl rfl (Nat.le_of_ble_eq_true rfl) ?_
 refine G_seq ?_
 refine G_pure (E':=[⟨0,[],.int .u32 x⟩,⟨1,[],.int .u64 2⟩]) [0] [0,1] rfl kr ?_
 refine N_then ?_
 refine G_seq ?_
 refine G_pure (E':=[⟨4,[],.int .u32 (IntKind.wrap .u32 ((BitVec.ofInt (IntKind.bits .u32) (Int.fdiv x (2 ^ 2)) ||| BitVec.ofInt (IntKind.bits .u32) (IntKind.wrap .u32 (x * 2 ^ 30))).toNat))⟩]) [0,0,0,0,0,0,0,0,0] [4] rfl kr ?_
 refine N_then ?_
 refine G_ret ?_
 refine N_ret [.tmp 4] [.int .u32 (IntKind.wrap .u32 ((BitVec.ofInt (IntKind.bits .u32) (Int.fdiv x (2 ^ 2)) ||| BitVec.ofInt (IntKind.bits .u32) (IntKind.wrap .u32 (x * 2 ^ 30))).toNat))] rfl kr rfl ?_
 exact ⟨by rw [← rotR_eq]; rfl, rfl⟩
theorem turn13 (x : Int) (W0 : World) (H : List Grp) : Tri Tryz.prog 101 #[.int .u32 x, .int .u64 13] W0 H (fun v H' => v = .int .u32 (rotr x 13) ∧ H' = H) := by
 refine Tri_of (args := [.int .u32 x, .int .u64 13]) (n := 13) Tryz.func101 rfl rfl (Nat.le_of_ble_eq_true rfl) ?_
 refine G_seq ?_
 refine G_pure (E':=[⟨0,[],.int .u32 x⟩,⟨1,[],.int .u64 13⟩]) [0] [0,1] rfl kr ?_
 refine N_then ?_
 refine G_seq ?_
 refine G_pure (E':=[⟨4,[],.int .u32 (IntKind.wrap .u32 ((BitVec.ofInt (IntKind.bits .u32) (Int.fdiv x (2 ^ 13)) ||| BitVec.ofInt (IntKind.bits .u32) (IntKind.wrap .u32 (x * 2 ^ 19))).toNat))⟩]) [0,0,0,0,0,0,0,0,0] [4] rfl kr ?_
 refine N_then ?_
 refine G_ret ?_
 refine N_ret [.tmp 4] [.int .u32 (IntKind.wrap .u32 ((BitVec.ofInt (IntKind.bits .u32) (Int.fdiv x (2 ^ 13)) ||| BitVec.ofInt (IntKind.bits .u32) (IntKind.wrap .u32 (x * 2 ^ 19))).toNat))] rfl kr rfl ?_
 exact ⟨by rw [← rotR_eq]; rfl, rfl⟩
theorem turn22 (x : Int) (W0 : World) (H : List Grp) : Tri Tryz.prog 101 #[.int .u32 x, .int .u64 22] W0 H (fun v H' => v = .int .u32 (rotr x 22) ∧ H' = H) := by
 refine Tri_of (args := [.int .u32 x, .int .u64 22]) (n := 13) Tryz.func101 rfl rfl (Nat.le_of_ble_eq_true rfl) ?_
 refine G_seq ?_
 refine G_pure (E':=[⟨0,[],.int .u32 x⟩,⟨1,[],.int .u64 22⟩]) [0] [0,1] rfl kr ?_
 refine N_then ?_
 refine G_seq ?_
 refine G_pure (E':=[⟨4,[],.int .u32 (IntKind.wrap .u32 ((BitVec.ofInt (IntKind.bits .u32) (Int.fdiv x (2 ^ 22)) ||| BitVec.ofInt (IntKind.bits .u32) (IntKind.wrap .u32 (x * 2 ^ 10))).toNat))⟩]) [0,0,0,0,0,0,0,0,0] [4] rfl kr ?_
 refine N_then ?_
 refine G_ret ?_
 refine N_ret [.tmp 4] [.int .u32 (IntKind.wrap .u32 ((BitVec.ofInt (IntKind.bits .u32) (Int.fdiv x (2 ^ 22)) ||| BitVec.ofInt (IntKind.bits .u32) (IntKind.wrap .u32 (x * 2 ^ 10))).toNat))] rfl kr rfl ?_
 exact ⟨by rw [← rotR_eq]; rfl, rfl⟩
theorem primes_ (n : Nat) (hn : n ≤ 64) (W0 : World) (H : List Grp) : Tri Tryz.prog 121 #[.int .i64 ((n : Nat) : Int)] W0 H (fun v H' => ∃ a c g, v = .slice a n c ∧ Go.Sw.Own 163 1 (.slice a n c) g n (u64s (pList.take n)) ∧ H' = g :: H) := by
 refine Tri_of (args := [.int .i64 ((n : Nat) : Int)]) (n := 34) Tryz.func121 rfl rfl (Nat.le_of_ble_eq_true rfl) ?_
 refine G_seq ?_
 refine G_pure (E':=[⟨0,[],.int .i64 ((n : Nat) : Int)⟩]) [0] [0] rfl kr ?_
 refine N_then ?_
 refine G_seq ?_
 refine G_pure (E':=[⟨0,[],.int .i64 ((n : Nat) : Int)⟩,⟨3,[],.slice none 0 0⟩]) [0] [0,3] rfl kr ?_
 refine N_then ?_
 refine G_seq ?_
 refine G_seq ?_
 refine G_pure (E':=[⟨0,[],.int .i64 ((n : Nat) : Int)⟩,⟨3,[],.slice none 0 0⟩,⟨4,[],.int .u64 2⟩]) [0] [0,3,4] rfl kr ?_
 refine N_then ?_
 refine G_block ?_
 refine G_heap (H':=([]::H)) (fun w h=>Sat.flat h (List.Perm.refl _)) ?_
 refine G_loop (EI:=(fun ξ : Nat × Option Addr × Nat × Grp=>[⟨0,[],.int .i64 ((n : Nat) : Int)⟩,⟨3,[],.slice ξ.2.1 ((prU ξ.1).length) ξ.2.2.1⟩,⟨4,[],.int .u64 ((ξ.1+2 : Nat) : Int)⟩])) (HI:=(fun ξ : Nat × Option Addr × Nat × Grp=>(ξ.2.2.2::H))) (Φ:=(fun ξ : Nat × Option Addr × Nat × Grp=>(ξ.1 ≤ 310)∧((prU ξ.1).length ≤ n)∧(Go.Sw.Own 163 1 (.slice ξ.2.1 (prU ξ.1).length ξ.2.2.1) ξ.2.2.2 (prU ξ.1).length (u64s (prU ξ.1))))) (μ:=(fun ξ : Nat × Option Addr × Nat × Grp=>310 - ξ.1)) (s0:=(0,none,0,[])) [0,3,4] kr rfl ⟨(by omega),(Nat.zero_le _),Go.Sw.Own.nil⟩ ?_
 rintro ⟨i, a, c, g⟩ ⟨hi, hl, ho⟩
 dsimp only at hi hl ho
 refine G_seq ?_
 refine G_seq ?_
 refine G_pure (E':=[⟨0,[],.int .i64 ((n : Nat) : Int)⟩,⟨3,[],.slice a ((prU i).length) c⟩,⟨4,[],.int .u64 ((i+2 : Nat) : Int)⟩,⟨11,[],.bool (decide ((((prU i).length : Nat) : Int) < ((n : Nat) : Int)))⟩]) [0,0,0,0] [0,3,4,11] rfl kr ?_
 refine N_then ?_
 refine G_cond (b:=decide ((((prU i).length : Nat) : Int) < ((n : Nat) : Int))) kr (fun hc1=>?_) (fun hc1=>?_)
 ·
  have hlt : (prU i).length < n := by simpa using hc1
  have hi9 := pr_lt (i := i) (by omega)
  refine G_skip ?_
  refine N_then ?_
  refine G_seq ?_
  refine G_block ?_
  refine G_seq ?_
  refine G_pure (E':=[⟨0,[],.int .i64 ((n : Nat) : Int)⟩,⟨3,[],.slice a ((prU i).length) c⟩,⟨4,[],.int .u64 ((i+2 : Nat) : Int)⟩,⟨5,[],.bool true⟩]) [0] [0,3,4,5] rfl kr ?_
  refine N_then ?_
  refine G_seq ?_
  refine G_seq ?_
  refine G_pure (E':=[⟨0,[],.int .i64 ((n : Nat) : Int)⟩,⟨3,[],.slice a ((prU i).length) c⟩,⟨4,[],.int .u64 ((i+2 : Nat) : Int)⟩,⟨5,[],.bool true⟩,⟨14,[],.slice a ((prU i).length) c⟩,⟨15,[],.int .i64 (((prU i).length : Nat) : Int)⟩,⟨16,[],.int .i64 0⟩]) [0,0,0] [0,3,4,5,14,15,16] rfl kr ?_
  refine N_then ?_
  refine G_block ?_
  refine G_loop (EI:=(fun ξ : Nat × Bool=>[⟨0,[],.int .i64 ((n : Nat) : Int)⟩,⟨3,[],.slice a ((prU i).length) c⟩,⟨4,[],.int .u64 ((i+2 : Nat) : Int)⟩,⟨5,[],.bool ξ.2⟩,⟨14,[],.slice a ((prU i).length) c⟩,⟨15,[],.int .i64 (((prU i).length : Nat) : Int)⟩,⟨16,[],.int .i64 ((ξ.1 : Nat) : Int)⟩])) (HI:=(fun ξ : Nat × Bool=>(g::H))) (Φ:=(fun ξ : Nat × Bool=>(ξ.1 ≤ (prU i).length)∧(ξ.2 = ((prU i).take ξ.1).all (fun q=>(i+2) % q != 0)))) (μ:=(fun ξ : Nat × Bool=>(prU i).length - ξ.1)) (s0:=(0,true)) [0,3,4,5,14,15,16] kr rfl ⟨(by omega),rfl⟩ ?_
  rintro ⟨k, b⟩ ⟨hk, hbk⟩
  dsimp only at hk hbk
  refine G_seq ?_
  refine G_pure (E':=[⟨0,[],.int .i64 ((n : Nat) : Int)⟩,⟨3,[],.slice a ((prU i).length) c⟩,⟨4,[],.int .u64 ((i+2 : Nat) : Int)⟩,⟨5,[],.bool b⟩,⟨14,[],.slice a ((prU i).length) c⟩,⟨15,[],.int .i64 (((prU i).length : Nat) : Int)⟩,⟨16,[],.int .i64 ((k : Nat) : Int)⟩,⟨17,[],.bool (decide (((k : Nat) : Int) < (((prU i).length : Nat) : Int)))⟩]) [0] [0,3,4,5,14,15,16,17] rfl kr ?_
  refine N_then ?_
  refine G_seq ?_
  refine G_cond (b:=decide (((k : Nat) : Int) < (((prU i).length : Nat) : Int))) kr (fun hc2=>?_) (fun hc2=>?_)
  ·
   simp at hc2
   have hq2 := (pr_all i _ (getD_mem hc2)).1
   have hq3 := (pr_all i _ (getD_mem hc2)).2
   refine G_skip ?_
   refine N_then ?_
   refine G_seq ?_
   refine G_block ?_
   refine G_seq ?_
   refine G_region ?_
   refine GL_indexAddr (i:=0) (ch:=[]) (a:=a) (len:=(prU i).length) (cap:=c) (kd:=.i64) (j:=((k : Nat) : Int)) (e:=163) (sz:=1) (S:=(inG g)) (cs:=(u64s (prU i))) rfl rfl kr kr kr kr kr kr kr (own_rd ho) (fun _=>by exact ⟨by omega,by omega,u64_ne (by omega)⟩) ?_
   refine GL_loadS (i:=1) (ch:=[]) (a:=a) (q:=k * 1) (S:=(inG g)) (cs:=(u64s (prU i))) (v:=.int .u64 (((prU i).getD k 0 : Nat) : Int)) rfl rfl kr kr kr kr kr (own_rd ho) (at_inG 0 rfl) (fun _=>(u64s_at (Nat.mul_one _) (by omega))) ?_
   refine GL_fin (E':=[⟨0,[],.int .i64 ((n : Nat) : Int)⟩,⟨3,[],.slice a ((prU i).length) c⟩,⟨4,[],.int .u64 ((i+2 : Nat) : Int)⟩,⟨5,[],.bool b⟩,⟨7,[],.int .u64 (((prU i).getD k 0 : Nat) : Int)⟩,⟨14,[],.slice a ((prU i).length) c⟩,⟨15,[],.int .i64 (((prU i).length : Nat) : Int)⟩,⟨16,[],.int .i64 ((k : Nat) : Int)⟩]) [0] [0,3,4,5,7,14,15,16] rfl kr ?_
   refine N_then ?_
   refine G_region ?_
   refine GL_p [0,0,0,0] kr (j:=4) rfl ?_
   refine GL_rem (i:=4) (ch:=[(21,true)]) (kd:=.u64) (a:=((i+2 : Nat) : Int)) (b:=(((prU i).getD k 0 : Nat) : Int)) rfl rfl kr kr kr kr kr (fun _=>by omega) ?_
   refine GL_fin (E':=[⟨0,[],.int .i64 ((n : Nat) : Int)⟩,⟨3,[],.slice a ((prU i).length) c⟩,⟨4,[],.int .u64 ((i+2 : Nat) : Int)⟩,⟨5,[],.bool (b&&((Int.tmod ((i+2 : Nat) : Int) (((prU i).getD k 0 : Nat) : Int)) != 0))⟩,⟨14,[],.slice a ((prU i).length) c⟩,⟨15,[],.int .i64 (((prU i).length : Nat) : Int)⟩,⟨16,[],.int .i64 ((k : Nat) : Int)⟩]) [0,6,0] [0,3,4,5,14,15,16] rfl kr ?_
   refine N_block ?_
   refine N_then ?_
   refine G_region ?_
   refine GL_p [0] kr (j:=1) rfl ?_
   refine GL_wi 27 (((k : Nat) : Int)+1) (by omega) (by omega) kr ?_
   refine GL_fin (E':=[⟨0,[],.int .i64 ((n : Nat) : Int)⟩,⟨3,[],.slice a ((prU i).length) c⟩,⟨4,[],.int .u64 ((i+2 : Nat) : Int)⟩,⟨5,[],.bool (b&&((Int.tmod ((i+2 : Nat) : Int) (((prU i).getD k 0 : Nat) : Int)) != 0))⟩,⟨14,[],.slice a ((prU i).length) c⟩,⟨15,[],.int .i64 (((prU i).length : Nat) : Int)⟩,⟨16,[],.int .i64 (((k : Nat) : Int)+1)⟩]) [0] [0,3,4,5,14,15,16] rfl kr ?_
   refine N_round (s':=(k+1,b&&((Int.tmod ((i+2 : Nat) : Int) (((prU i).getD k 0 : Nat) : Int)) != 0))) [0,3,4,5,14,15,16] kr rfl ⟨(by dsimp only; omega),(by dsimp only; rw [all_take (by omega) hq2,hbk])⟩ (by dsimp only; omega)
  ·
   simp at hc2
   refine G_exit ?_
   refine N_then_exit ?_
   refine N_then_exit ?_
   refine N_block_exit ?_
   refine N_then ?_
   refine G_seq ?_
   refine G_pure (E':=[⟨0,[],.int .i64 ((n : Nat) : Int)⟩,⟨3,[],.slice a ((prU i).length) c⟩,⟨4,[],.int .u64 ((i+2 : Nat) : Int)⟩,⟨28,[],.bool b⟩]) [0] [0,3,4,28] rfl kr ?_
   refine N_then ?_
   refine G_cond (b:=b) kr (fun hc4=>?_) (fun hc4=>?_)
   ·
    have hb : (prU i).all (fun q => (i + 2) % q != 0) = true := by (rw [hbk, List.take_of_length_le (by omega)] at hc4; exact hc4)
    refine G_region ?_
    refine GL_p [0,0] kr (j:=2) rfl ?_
    refine GL_buildSlice (i:=2) (ch:=[]) (e:=163) (l:=[(0,.int .u64 ((i+2 : Nat) : Int))]) (c:=[.int .u64 ((i+2 : Nat) : Int)]) rfl rfl kr kr kr kr kr (fun b5=>?_)
    refine GL_append (i:=3) (ch:=[]) (t:=164) (tx:=164) (e:=163) (inf:=Tryz.t163) (s:=.slice a ((prU i).length) c) (x:=.slice (some ⟨b5,0,none⟩) 1 1) (n:=(prU i).length) (m:=1) (j:=1) (cs:=(u64s (prU i))) (news:=[.int .u64 ((i+2 : Nat) : Int)]) (g:=g) (S:=(inG [(b5,.cells #[.int .u64 ((i+2 : Nat) : Int)] 163 (0,0))])) rfl rfl rfl rfl kr kr kr rfl rfl (.inl ⟨163,kr⟩) (fun ⟨_,h⟩=>by cases h) (fun _=>⟨163,kr⟩) kr kr kr rfl ho (SrcOf.slice _ _ _ _ Rd.lit (fun h=>by cases h)) (at_inG 0 rfl) rfl u64_one (by omega) (by show ((prU i).length+1) * 8 ≤ 140737488355328; omega) (fun v6 g7 hO8=>?_)
    obtain ⟨a9, cap10, rfl, hcap11, hrd12⟩ := hO8.shape
    refine GL_fin (E':=[⟨0,[],.int .i64 ((n : Nat) : Int)⟩,⟨3,[],.slice a9 ((prU i).length+1) cap10⟩,⟨4,[],.int .u64 ((i+2 : Nat) : Int)⟩]) [0] [0,3,4] rfl kr ?_
    refine N_block ?_
    refine N_then ?_
    refine G_pure (E':=[⟨0,[],.int .i64 ((n : Nat) : Int)⟩,⟨3,[],.slice a9 ((prU i).length+1) cap10⟩,⟨4,[],.int .u64 (IntKind.wrap .u64 (((i+2 : Nat) : Int)+1))⟩]) [0,0,0] [0,3,4] rfl kr ?_
    refine N_env (E':=[⟨0,[],.int .i64 ((n : Nat) : Int)⟩,⟨3,[],.slice a9 ((prU (i+1)).length) cap10⟩,⟨4,[],.int .u64 ((i+1+2 : Nat) : Int)⟩]) (by rw [wU_id (x:=((i+2 : Nat) : Int)+1) (by omega) (by omega),show ((i+2 : Nat) : Int)+1 = ((i+1+2 : Nat) : Int) by omega,pr_yes hb,List.length_append]; rfl) ?_
    refine N_heap (H':=(g7::H)) (fun w h=>(h.erase 0)) ?_
    refine N_round (s':=(i+1,a9,cap10,g7)) [0,3,4] kr rfl ⟨(by dsimp only; omega),(by dsimp only; rw [pr_yes hb,List.length_append]; show (prU i).length+1 ≤ n; omega),(own_eqL (own_u64 (x:=i+2) hO8 rfl) (pr_yes hb).symm)⟩ (by dsimp only; omega)
   ·
    have hb : (prU i).all (fun q => (i + 2) % q != 0) = false := by (rw [hbk, List.take_of_length_le (by omega)] at hc4; exact hc4)
    refine G_skip ?_
    refine N_block ?_
    refine N_then ?_
    refine G_pure (E':=[⟨0,[],.int .i64 ((n : Nat) : Int)⟩,⟨3,[],.slice a ((prU i).length) c⟩,⟨4,[],.int .u64 (IntKind.wrap .u64 (((i+2 : Nat) : Int)+1))⟩]) [0,0,0] [0,3,4] rfl kr ?_
    refine N_env (E':=[⟨0,[],.int .i64 ((n : Nat) : Int)⟩,⟨3,[],.slice a ((prU (i+1)).length) c⟩,⟨4,[],.int .u64 ((i+1+2 : Nat) : Int)⟩]) (by rw [wU_id (x:=((i+2 : Nat) : Int)+1) (by omega) (by omega),show ((i+2 : Nat) : Int)+1 = ((i+1+2 : Nat) : Int) by omega,pr_no hb]) ?_
    refine N_round (s':=(i+1,a,c,g)) [0,3,4] kr rfl ⟨(by dsimp only; omega),(by dsimp only; rw [pr_no hb]; exact hl),(own_eqL ho (pr_no hb).symm)⟩ (by dsimp only; omega)
 ·
  have hge : ¬ (prU i).length < n := by simpa using hc1
  refine G_exit ?_
  refine N_then_exit ?_
  refine N_then_exit ?_
  refine N_block_exit ?_
  refine N_then ?_
  refine G_seq ?_
  refine G_pure (E':=[⟨2,[],.slice a ((prU i).length) c⟩]) [0,0] [2] rfl kr ?_
  refine N_then ?_
  refine G_ret ?_
  refine N_ret [.tmp 2] [.slice a ((prU i).length) c] rfl kr rfl ?_
  have e9 : (prU i).length = n := by omega
  rw [pr_take hi e9] at ho
  have e8 : (pList.take n).length = n := by rw [← pr_take hi e9]; exact e9
  rw [e8] at ho
  exact ⟨_, _, _, by rw [e9]; rfl, ho, rfl⟩
theorem times_ (a b : Int) (W0 : World) (H : List Grp) : Tri Tryz.prog 137 #[.int .u64 a, .int .u64 b] W0 H (fun v H' => v = .tuple #[.int .u64 (tHi a b), .int .u64 (tLo a b)] ∧ H' = H) := by
 refine Tri_of (args := [.int .u64 a, .int .u64 b]) (n := 50) Tryz.func137 rfl rfl (Nat.le_of_ble_eq_true rfl) ?_
 refine G_seq ?_
 refine G_pure (E':=[⟨0,[],.int .u64 a⟩,⟨1,[],.int .u64 b⟩]) [0,0] [0,1] rfl kr ?_
 refine N_then ?_
 refine G_seq ?_
 refine G_pure (E':=[⟨1,[],.int .u64 b⟩,⟨6,[],.int .u64 (Int.tmod a 4294967296)⟩,⟨7,[],.int .u64 (IntKind.wrap .u64 (Int.tdiv a 4294967296))⟩]) [0,0,0,0,0,0] [1,6,7] rfl kr ?_
 refine N_env (E':=[⟨1,[],.int .u64 b⟩,⟨6,[],.int .u64 (tA0 a)⟩,⟨7,[],.int .u64 (tA1 a)⟩]) kr ?_
 refine N_then ?_
 refine G_seq ?_
 refine G_pure (E':=[⟨6,[],.int .u64 (tA0 a)⟩,⟨7,[],.int .u64 (tA1 a)⟩,⟨8,[],.int .u64 (Int.tmod b 4294967296)⟩,⟨9,[],.int .u64 (IntKind.wrap .u64 (Int.tdiv b 4294967296))⟩]) [0,0,0,0,0,0] [6,7,8,9] rfl kr ?_
 refine N_env (E':=[⟨6,[],.int .u64 (tA0 a)⟩,⟨7,[],.int .u64 (tA1 a)⟩,⟨8,[],.int .u64 (tA0 b)⟩,⟨9,[],.int .u64 (tA1 b)⟩]) kr ?_
 refine N_then ?_
 refine G_seq ?_
 refine G_pure (E':=[⟨6,[],.int .u64 (tA0 a)⟩,⟨7,[],.int .u64 (tA1 a)⟩,⟨8,[],.int .u64 (tA0 b)⟩,⟨9,[],.int .u64 (tA1 b)⟩,⟨10,[],.int .u64 (IntKind.wrap .u64 ((tA0 a) * (tA0 b)))⟩]) [0,0,0,0] [6,7,8,9,10] rfl kr ?_
 refine N_env (E':=[⟨6,[],.int .u64 (tA0 a)⟩,⟨7,[],.int .u64 (tA1 a)⟩,⟨8,[],.int .u64 (tA0 b)⟩,⟨9,[],.int .u64 (tA1 b)⟩,⟨10,[],.int .u64 (tLow a b)⟩]) kr ?_
 refine N_then ?_
 refine G_seq ?_
 refine G_pure (E':=[⟨6,[],.int .u64 (tA0 a)⟩,⟨7,[],.int .u64 (tA1 a)⟩,⟨9,[],.int .u64 (tA1 b)⟩,⟨10,[],.int .u64 (tLow a b)⟩,⟨11,[],.int .u64 (IntKind.wrap .u64 ((IntKind.wrap .u64 ((tA1 a) * (tA0 b)))+(IntKind.wrap .u64 (Int.tdiv (tLow a b) 4294967296))))⟩]) [0,0,0,0,0,0,0] [6,7,9,10,11] rfl kr ?_
 refine N_env (E':=[⟨6,[],.int .u64 (tA0 a)⟩,⟨7,[],.int .u64 (tA1 a)⟩,⟨9,[],.int .u64 (tA1 b)⟩,⟨10,[],.int .u64 (tLow a b)⟩,⟨11,[],.int .u64 (tMid a b)⟩]) kr ?_
 refine N_then ?_
 refine G_seq ?_
 refine G_pure (E':=[⟨7,[],.int .u64 (tA1 a)⟩,⟨9,[],.int .u64 (tA1 b)⟩,⟨10,[],.int .u64 (tLow a b)⟩,⟨11,[],.int .u64 (tMid a b)⟩,⟨12,[],.int .u64 (IntKind.wrap .u64 ((IntKind.wrap .u64 ((tA0 a) * (tA1 b)))+(Int.tmod (tMid a b) 4294967296)))⟩]) [0,0,0,0,0,0,0] [7,9,10,11,12] rfl kr ?_
 refine N_env (E':=[⟨7,[],.int .u64 (tA1 a)⟩,⟨9,[],.int .u64 (tA1 b)⟩,⟨10,[],.int .u64 (tLow a b)⟩,⟨11,[],.int .u64 (tMid a b)⟩,⟨12,[],.int .u64 (tMid2 a b)⟩]) kr ?_
 refine N_then ?_
 refine G_seq ?_
 refine G_pure (E':=[⟨4,[],.int .u64 (IntKind.wrap .u64 ((IntKind.wrap .u64 ((IntKind.wrap .u64 ((tA1 a) * (tA1 b)))+(IntKind.wrap .u64 (Int.tdiv (tMid a b) 4294967296))))+(IntKind.wrap .u64 (Int.tdiv (tMid2 a b) 4294967296))))⟩,⟨5,[],.int .u64 (IntKind.wrap .u64 ((IntKind.wrap .u64 ((tMid2 a b) * 4294967296))+(Int.tmod (tLow a b) 4294967296)))⟩]) [0,0,0,0,0,0,0,0,0,0,0,0,0,0,0,0] [4,5] rfl kr ?_
 refine N_env (E':=[⟨4,[],.int .u64 (tHi a b)⟩,⟨5,[],.int .u64 (tLo a b)⟩]) kr ?_
 refine N_then ?_
 refine G_ret ?_
 refine N_ret [.tmp 4,.tmp 5] [.int .u64 (tHi a b),.int .u64 (tLo a b)] rfl kr rfl ?_
 exact ⟨rfl, rfl⟩
theorem root2 (p : Int) (W0 : World) (H : List Grp) : Tri Tryz.prog 122 #[.int .u64 p, .int .i64 2] W0 H (fun v H' => v = .int .u32 (r2 p) ∧ H' = H) := by
 refine Tri_of (args := [.int .u64 p, .int .i64 2]) (n := 78) Tryz.func122 rfl rfl (Nat.le_of_ble_eq_true rfl) ?_
 refine G_seq ?_
 refine G_pure (E':=[⟨0,[],.int .u64 p⟩,⟨1,[],.int .i64 2⟩]) [0] [0,1] rfl kr ?_
 refine N_then ?_
 refine G_seq ?_
 refine G_pure (E':=[⟨0,[],.int .u64 p⟩,⟨1,[],.int .i64 2⟩,⟨5,[],.int .u64 0⟩]) [0] [0,1,5] rfl kr ?_
 refine N_then ?_
 refine G_seq ?_
 refine G_seq ?_
 refine G_pure (E':=[⟨0,[],.int .u64 p⟩,⟨1,[],.int .i64 2⟩,⟨5,[],.int .u64 0⟩,⟨6,[],.int .i64 35⟩]) [0] [0,1,5,6] rfl kr ?_
 refine N_then ?_
 refine G_block ?_
 refine G_loop (EI:=(fun ξ : Nat=>[⟨0,[],.int .u64 p⟩,⟨1,[],.int .i64 2⟩,⟨5,[],.int .u64 (rt2 p ξ)⟩,⟨6,[],.int .i64 (35 - (ξ : Int))⟩])) (HI:=(fun ξ : Nat=>H)) (Φ:=(fun ξ : Nat=>(ξ ≤ 36))) (μ:=(fun ξ : Nat=>36 - ξ)) (s0:=(0)) [0,1,5,6] kr rfl (by omega) ?_
 rintro j hj
 refine G_seq ?_
 refine G_seq ?_
 refine G_pure (E':=[⟨0,[],.int .u64 p⟩,⟨1,[],.int .i64 2⟩,⟨5,[],.int .u64 (rt2 p j)⟩,⟨6,[],.int .i64 (35 - (j : Int))⟩,⟨16,[],.bool (decide ((35 - (j : Int)) ≥ 0))⟩]) [0,0] [0,1,5,6,16] rfl kr ?_
 refine N_then ?_
 refine G_cond (b:=decide ((35 - (j : Int)) ≥ 0)) kr (fun hc1=>?_) (fun hc1=>?_)
 ·
  have hj9 : j ≤ 35 := by (have := of_decide_eq_true hc1; omega)
  refine G_skip ?_
  refine N_then ?_
  refine G_seq ?_
  refine G_block ?_
  refine G_seq ?_
  refine G_region ?_
  refine GL_p [0,0,0] kr (j:=3) rfl ?_
  refine GL_shl (i:=3) (ch:=[]) (kd:=.u64) (ky:=.u64) (a:=1) (b:=IntKind.wrap .u64 (35 - (j : Int))) rfl rfl kr kr kr kr kr (by (show 0 ≤ IntKind.wrap .u64 (35 - (j : Int))); rw [wU_id (by omega) (by omega)]; omega) ?_
  refine GL_fin (E':=[⟨0,[],.int .u64 p⟩,⟨1,[],.int .i64 2⟩,⟨5,[],.int .u64 (rt2 p j)⟩,⟨6,[],.int .i64 (35 - (j : Int))⟩,⟨7,[],.int .u64 (IntKind.wrap .u64 ((rt2 p j)+(IntKind.wrap .u64 (1 * 2 ^ (min (Int.toNat (IntKind.wrap .u64 (35 - (j : Int)))) (IntKind.bits .u64))))))⟩]) [0,0] [0,1,5,6,7] rfl kr ?_
  refine N_env (E':=[⟨0,[],.int .u64 p⟩,⟨1,[],.int .i64 2⟩,⟨5,[],.int .u64 (rt2 p j)⟩,⟨6,[],.int .i64 (35 - (j : Int))⟩,⟨7,[],.int .u64 (rY (rt2 p j) j)⟩]) kr ?_
  refine N_then ?_
  refine G_seq ?_
  refine G_region ?_
  refine GL_p [0,0] kr (j:=2) rfl ?_
  refine GL_callQ (i:=2) (ch:=[]) (f:=137) (fst:=#[]) (caps:=#[]) (vs:=[.int .u64 (rY (rt2 p j) j),.int .u64 (rY (rt2 p j) j)]) (v:=.tuple #[.int .u64 (tHi (rY (rt2 p j) j) (rY (rt2 p j) j)),.int .u64 (tLo (rY (rt2 p j) j) (rY (rt2 p j) j))]) rfl rfl rfl kr kr Tryz.func137 rfl rfl kr kr kr (fun _=>times_ _ _ _ _) ?_
  refine GL_fin (E':=[⟨0,[],.int .u64 p⟩,⟨1,[],.int .i64 2⟩,⟨5,[],.int .u64 (rt2 p j)⟩,⟨6,[],.int .i64 (35 - (j : Int))⟩,⟨7,[],.int .u64 (rY (rt2 p j) j)⟩,⟨8,[],.int .u64 (tHi (rY (rt2 p j) j) (rY (rt2 p j) j))⟩,⟨9,[],.int .u64 (tLo (rY (rt2 p j) j) (rY (rt2 p j) j))⟩]) [0,0,0,0,0] [0,1,5,6,7,8,9] rfl kr ?_
  refine N_then ?_
  refine G_seq ?_
  refine G_seq ?_
  refine G_pure (E':=[⟨0,[],.int .u64 p⟩,⟨1,[],.int .i64 2⟩,⟨5,[],.int .u64 (rt2 p j)⟩,⟨6,[],.int .i64 (35 - (j : Int))⟩,⟨7,[],.int .u64 (rY (rt2 p j) j)⟩,⟨8,[],.int .u64 (tHi (rY (rt2 p j) j) (rY (rt2 p j) j))⟩,⟨9,[],.int .u64 (tLo (rY (rt2 p j) j) (rY (rt2 p j) j))⟩,⟨31,[],.bool true⟩]) [0,0] [0,1,5,6,7,8,9,31] rfl kr ?_
  refine N_then ?_
  refine G_condt kr ?_
  refine G_seq ?_
  refine G_seq ?_
  refine G_pure (E':=[⟨0,[],.int .u64 p⟩,⟨1,[],.int .i64 2⟩,⟨5,[],.int .u64 (rt2 p j)⟩,⟨6,[],.int .i64 (35 - (j : Int))⟩,⟨7,[],.int .u64 (rY (rt2 p j) j)⟩,⟨43,[],.bool ((decide ((tHi (rY (rt2 p j) j) (rY (rt2 p j) j)) < p))||(((tHi (rY (rt2 p j) j) (rY (rt2 p j) j)) == p)&&((tLo (rY (rt2 p j) j) (rY (rt2 p j) j)) == 0)))⟩]) [0,0,0,0,0,0,0,0,0,0,6,5] [0,1,5,6,7,43] rfl kr ?_
  refine N_then ?_
  refine G_cond (b:=(decide ((tHi (rY (rt2 p j) j) (rY (rt2 p j) j)) < p))||(((tHi (rY (rt2 p j) j) (rY (rt2 p j) j)) == p)&&((tLo (rY (rt2 p j) j) (rY (rt2 p j) j)) == 0))) kr (fun hc2=>?_) (fun hc2=>?_)
  ·
   have hcc : c2 p (rY (rt2 p j) j) = true := hc2
   refine G_pure (E':=[⟨0,[],.int .u64 p⟩,⟨1,[],.int .i64 2⟩,⟨5,[],.int .u64 (rY (rt2 p j) j)⟩,⟨6,[],.int .i64 (35 - (j : Int))⟩]) [0,0] [0,1,5,6] rfl kr ?_
   refine N_then ?_
   refine G_exit ?_
   refine N_then_exit ?_
   refine N_block_exit ?_
   refine N_then ?_
   refine G_region ?_
   refine GL_p [0,0] kr (j:=2) rfl ?_
   refine GL_wi 18 ((35 - (j : Int)) - 1) (by omega) (by omega) kr ?_
   refine GL_fin (E':=[⟨0,[],.int .u64 p⟩,⟨1,[],.int .i64 2⟩,⟨5,[],.int .u64 (rY (rt2 p j) j)⟩,⟨6,[],.int .i64 ((35 - (j : Int)) - 1)⟩]) [0] [0,1,5,6] rfl kr ?_
   refine N_env (E':=[⟨0,[],.int .u64 p⟩,⟨1,[],.int .i64 2⟩,⟨5,[],.int .u64 (rt2 p (j+1))⟩,⟨6,[],.int .i64 (35 - ((j+1 : Nat) : Int))⟩]) (by rw [rt2_yes hcc,show 35 - ((j+1 : Nat) : Int) = 35 - (j : Int) - 1 by omega]) ?_
   refine N_round (s':=(j+1)) [0,1,5,6] kr rfl (by omega) (by omega)
  ·
   have hcc : c2 p (rY (rt2 p j) j) = false := hc2
   refine G_skip ?_
   refine N_then ?_
   refine G_exit ?_
   refine N_then_exit ?_
   refine N_block_exit ?_
   refine N_then ?_
   refine G_region ?_
   refine GL_p [0,0] kr (j:=2) rfl ?_
   refine GL_wi 18 ((35 - (j : Int)) - 1) (by omega) (by omega) kr ?_
   refine GL_fin (E':=[⟨0,[],.int .u64 p⟩,⟨1,[],.int .i64 2⟩,⟨5,[],.int .u64 (rt2 p j)⟩,⟨6,[],.int .i64 ((35 - (j : Int)) - 1)⟩]) [0] [0,1,5,6] rfl kr ?_
   refine N_env (E':=[⟨0,[],.int .u64 p⟩,⟨1,[],.int .i64 2⟩,⟨5,[],.int .u64 (rt2 p (j+1))⟩,⟨6,[],.int .i64 (35 - ((j+1 : Nat) : Int))⟩]) (by rw [rt2_no hcc,show 35 - ((j+1 : Nat) : Int) = 35 - (j : Int) - 1 by omega]) ?_
   refine N_round (s':=(j+1)) [0,1,5,6] kr rfl (by omega) (by omega)
 ·
  have hj9 : j = 36 := by (have := of_decide_eq_false hc1; omega)
  refine G_exit ?_
  refine N_then_exit ?_
  refine N_then_exit ?_
  refine N_block_exit ?_
  refine N_then ?_
  refine G_seq ?_
  refine G_pure (E':=[⟨4,[],.int .u32 (IntKind.wrap .u32 (Int.tmod (rt2 p j) 4294967296))⟩]) [0,0,0,0] [4] rfl kr ?_
  refine N_then ?_
  refine G_ret ?_
  refine N_ret [.tmp 4] [.int .u32 (IntKind.wrap .u32 (Int.tmod (rt2 p j) 4294967296))] rfl kr rfl ?_
  exact ⟨by rw [hj9]; rfl, rfl⟩
theorem root3 (p : Int) (W0 : World) (H : List Grp) : Tri Tryz.prog 122 #[.int .u64 p, .int .i64 3] W0 H (fun v H' => v = .int .u32 (r3 p) ∧ H' = H) := by
 refine Tri_of (args := [.int .u64 p, .int .i64 3]) (n := 78) Tryz.func122 rfl rfl (Nat.le_of_ble_eq_true rfl) ?_
 refine G_seq ?_
 refine G_pure (E':=[⟨0,[],.int .u64 p⟩,⟨1,[],.int .i64 3⟩]) [0] [0,1] rfl kr ?_
 refine N_then ?_
 refine G_seq ?_
 refine G_pure (E':=[⟨0,[],.int .u64 p⟩,⟨1,[],.int .i64 3⟩,⟨5,[],.int .u64 0⟩]) [0] [0,1,5] rfl kr ?_
 refine N_then ?_
 refine G_seq ?_
 refine G_seq ?_
 refine G_pure (E':=[⟨0,[],.int .u64 p⟩,⟨1,[],.int .i64 3⟩,⟨5,[],.int .u64 0⟩,⟨6,[],.int .i64 35⟩]) [0] [0,1,5,6] rfl kr ?_
 refine N_then ?_
 refine G_block ?_
 refine G_loop (EI:=(fun ξ : Nat=>[⟨0,[],.int .u64 p⟩,⟨1,[],.int .i64 3⟩,⟨5,[],.int .u64 (rt3 p ξ)⟩,⟨6,[],.int .i64 (35 - (ξ : Int))⟩])) (HI:=(fun ξ : Nat=>H)) (Φ:=(fun ξ : Nat=>(ξ ≤ 36))) (μ:=(fun ξ : Nat=>36 - ξ)) (s0:=(0)) [0,1,5,6] kr rfl (by omega) ?_
 rintro j hj
 refine G_seq ?_
 refine G_seq ?_
 refine G_pure (E':=[⟨0,[],.int .u64 p⟩,⟨1,[],.int .i64 3⟩,⟨5,[],.int .u64 (rt3 p j)⟩,⟨6,[],.int .i64 (35 - (j : Int))⟩,⟨16,[],.bool (decide ((35 - (j : Int)) ≥ 0))⟩]) [0,0] [0,1,5,6,16] rfl kr ?_
 refine N_then ?_
 refine G_cond (b:=decide ((35 - (j : Int)) ≥ 0)) kr (fun hc1=>?_) (fun hc1=>?_)
 ·
  have hj9 : j ≤ 35 := by (have := of_decide_eq_true hc1; omega)
  refine G_skip ?_
  refine N_then ?_
  refine G_seq ?_
  refine G_block ?_
  refine G_seq ?_
  refine G_region ?_
  refine GL_p [0,0,0] kr (j:=3) rfl ?_
  refine GL_shl (i:=3) (ch:=[]) (kd:=.u64) (ky:=.u64) (a:=1) (b:=IntKind.wrap .u64 (35 - (j : Int))) rfl rfl kr kr kr kr kr (by (show 0 ≤ IntKind.wrap .u64 (35 - (j : Int))); rw [wU_id (by omega) (by omega)]; omega) ?_
  refine GL_fin (E':=[⟨0,[],.int .u64 p⟩,⟨1,[],.int .i64 3⟩,⟨5,[],.int .u64 (rt3 p j)⟩,⟨6,[],.int .i64 (35 - (j : Int))⟩,⟨7,[],.int .u64 (IntKind.wrap .u64 ((rt3 p j)+(IntKind.wrap .u64 (1 * 2 ^ (min (Int.toNat (IntKind.wrap .u64 (35 - (j : Int)))) (IntKind.bits .u64))))))⟩]) [0,0] [0,1,5,6,7] rfl kr ?_
  refine N_env (E':=[⟨0,[],.int .u64 p⟩,⟨1,[],.int .i64 3⟩,⟨5,[],.int .u64 (rt3 p j)⟩,⟨6,[],.int .i64 (35 - (j : Int))⟩,⟨7,[],.int .u64 (rY (rt3 p j) j)⟩]) kr ?_
  refine N_then ?_
  refine G_seq ?_
  refine G_region ?_
  refine GL_p [0,0] kr (j:=2) rfl ?_
  refine GL_callQ (i:=2) (ch:=[]) (f:=137) (fst:=#[]) (caps:=#[]) (vs:=[.int .u64 (rY (rt3 p j) j),.int .u64 (rY (rt3 p j) j)]) (v:=.tuple #[.int .u64 (tHi (rY (rt3 p j) j) (rY (rt3 p j) j)),.int .u64 (tLo (rY (rt3 p j) j) (rY (rt3 p j) j))]) rfl rfl rfl kr kr Tryz.func137 rfl rfl kr kr kr (fun _=>times_ _ _ _ _) ?_
  refine GL_fin (E':=[⟨0,[],.int .u64 p⟩,⟨1,[],.int .i64 3⟩,⟨5,[],.int .u64 (rt3 p j)⟩,⟨6,[],.int .i64 (35 - (j : Int))⟩,⟨7,[],.int .u64 (rY (rt3 p j) j)⟩,⟨8,[],.int .u64 (tHi (rY (rt3 p j) j) (rY (rt3 p j) j))⟩,⟨9,[],.int .u64 (tLo (rY (rt3 p j) j) (rY (rt3 p j) j))⟩]) [0,0,0,0,0] [0,1,5,6,7,8,9] rfl kr ?_
  refine N_then ?_
  refine G_seq ?_
  refine G_seq ?_
  refine G_pure (E':=[⟨0,[],.int .u64 p⟩,⟨1,[],.int .i64 3⟩,⟨5,[],.int .u64 (rt3 p j)⟩,⟨6,[],.int .i64 (35 - (j : Int))⟩,⟨7,[],.int .u64 (rY (rt3 p j) j)⟩,⟨8,[],.int .u64 (tHi (rY (rt3 p j) j) (rY (rt3 p j) j))⟩,⟨9,[],.int .u64 (tLo (rY (rt3 p j) j) (rY (rt3 p j) j))⟩,⟨31,[],.bool false⟩]) [0,0] [0,1,5,6,7,8,9,31] rfl kr ?_
  refine N_then ?_
  refine G_condf kr ?_
  refine G_skip ?_
  refine N_then ?_
  refine G_seq ?_
  refine G_region ?_
  refine GL_p [0,0] kr (j:=2) rfl ?_
  refine GL_callQ (i:=2) (ch:=[]) (f:=137) (fst:=#[]) (caps:=#[]) (vs:=[.int .u64 (tLo (rY (rt3 p j) j) (rY (rt3 p j) j)),.int .u64 (rY (rt3 p j) j)]) (v:=.tuple #[.int .u64 (tHi (tLo (rY (rt3 p j) j) (rY (rt3 p j) j)) (rY (rt3 p j) j)),.int .u64 (tLo (tLo (rY (rt3 p j) j) (rY (rt3 p j) j)) (rY (rt3 p j) j))]) rfl rfl rfl kr kr Tryz.func137 rfl rfl kr kr kr (fun _=>times_ _ _ _ _) ?_
  refine GL_fin (E':=[⟨0,[],.int .u64 p⟩,⟨1,[],.int .i64 3⟩,⟨5,[],.int .u64 (rt3 p j)⟩,⟨6,[],.int .i64 (35 - (j : Int))⟩,⟨7,[],.int .u64 (rY (rt3 p j) j)⟩,⟨8,[],.int .u64 (tHi (rY (rt3 p j) j) (rY (rt3 p j) j))⟩,⟨10,[],.int .u64 (tHi (tLo (rY (rt3 p j) j) (rY (rt3 p j) j)) (rY (rt3 p j) j))⟩,⟨11,[],.int .u64 (tLo (tLo (rY (rt3 p j) j) (rY (rt3 p j) j)) (rY (rt3 p j) j))⟩]) [0,0,0,0,0] [0,1,5,6,7,8,10,11] rfl kr ?_
  refine N_then ?_
  refine G_seq ?_
  refine G_region ?_
  refine GL_p [0,0] kr (j:=2) rfl ?_
  refine GL_callQ (i:=2) (ch:=[]) (f:=137) (fst:=#[]) (caps:=#[]) (vs:=[.int .u64 (tHi (rY (rt3 p j) j) (rY (rt3 p j) j)),.int .u64 (rY (rt3 p j) j)]) (v:=.tuple #[.int .u64 (tHi (tHi (rY (rt3 p j) j) (rY (rt3 p j) j)) (rY (rt3 p j) j)),.int .u64 (tLo (tHi (rY (rt3 p j) j) (rY (rt3 p j) j)) (rY (rt3 p j) j))]) rfl rfl rfl kr kr Tryz.func137 rfl rfl kr kr kr (fun _=>times_ _ _ _ _) ?_
  refine GL_fin (E':=[⟨0,[],.int .u64 p⟩,⟨1,[],.int .i64 3⟩,⟨5,[],.int .u64 (rt3 p j)⟩,⟨6,[],.int .i64 (35 - (j : Int))⟩,⟨7,[],.int .u64 (rY (rt3 p j) j)⟩,⟨10,[],.int .u64 (tHi (tLo (rY (rt3 p j) j) (rY (rt3 p j) j)) (rY (rt3 p j) j))⟩,⟨11,[],.int .u64 (tLo (tLo (rY (rt3 p j) j) (rY (rt3 p j) j)) (rY (rt3 p j) j))⟩,⟨13,[],.int .u64 (tLo (tHi (rY (rt3 p j) j) (rY (rt3 p j) j)) (rY (rt3 p j) j))⟩]) [0,0,0,0,0] [0,1,5,6,7,10,11,13] rfl kr ?_
  refine N_then ?_
  refine G_seq ?_
  refine G_pure (E':=[⟨0,[],.int .u64 p⟩,⟨1,[],.int .i64 3⟩,⟨5,[],.int .u64 (rt3 p j)⟩,⟨6,[],.int .i64 (35 - (j : Int))⟩,⟨7,[],.int .u64 (rY (rt3 p j) j)⟩,⟨11,[],.int .u64 (tLo (tLo (rY (rt3 p j) j) (rY (rt3 p j) j)) (rY (rt3 p j) j))⟩,⟨14,[],.int .u64 (IntKind.wrap .u64 ((tLo (tHi (rY (rt3 p j) j) (rY (rt3 p j) j)) (rY (rt3 p j) j))+(tHi (tLo (rY (rt3 p j) j) (rY (rt3 p j) j)) (rY (rt3 p j) j))))⟩]) [0,0,0,0] [0,1,5,6,7,11,14] rfl kr ?_
  refine N_env (E':=[⟨0,[],.int .u64 p⟩,⟨1,[],.int .i64 3⟩,⟨5,[],.int .u64 (rt3 p j)⟩,⟨6,[],.int .i64 (35 - (j : Int))⟩,⟨7,[],.int .u64 (rY (rt3 p j) j)⟩,⟨11,[],.int .u64 (tLo (tLo (rY (rt3 p j) j) (rY (rt3 p j) j)) (rY (rt3 p j) j))⟩,⟨14,[],.int .u64 (top3 (rY (rt3 p j) j))⟩]) kr ?_
  refine N_then ?_
  refine G_seq ?_
  refine G_pure (E':=[⟨0,[],.int .u64 p⟩,⟨1,[],.int .i64 3⟩,⟨5,[],.int .u64 (rt3 p j)⟩,⟨6,[],.int .i64 (35 - (j : Int))⟩,⟨7,[],.int .u64 (rY (rt3 p j) j)⟩,⟨73,[],.bool ((decide ((top3 (rY (rt3 p j) j)) < (IntKind.wrap .u64 (p * 4294967296))))||(((top3 (rY (rt3 p j) j)) == (IntKind.wrap .u64 (p * 4294967296)))&&((tLo (tLo (rY (rt3 p j) j) (rY (rt3 p j) j)) (rY (rt3 p j) j)) == 0)))⟩]) [0,0,0,0,0,0,0,0,0,0,0,0,6,5] [0,1,5,6,7,73] rfl kr ?_
  refine N_then ?_
  refine G_cond (b:=(decide ((top3 (rY (rt3 p j) j)) < (IntKind.wrap .u64 (p * 4294967296))))||(((top3 (rY (rt3 p j) j)) == (IntKind.wrap .u64 (p * 4294967296)))&&((tLo (tLo (rY (rt3 p j) j) (rY (rt3 p j) j)) (rY (rt3 p j) j)) == 0))) kr (fun hc2=>?_) (fun hc2=>?_)
  ·
   have hcc : c3 p (rY (rt3 p j) j) = true := hc2
   refine G_pure (E':=[⟨0,[],.int .u64 p⟩,⟨1,[],.int .i64 3⟩,⟨5,[],.int .u64 (rY (rt3 p j) j)⟩,⟨6,[],.int .i64 (35 - (j : Int))⟩]) [0,0] [0,1,5,6] rfl kr ?_
   refine N_block ?_
   refine N_then ?_
   refine G_region ?_
   refine GL_p [0,0] kr (j:=2) rfl ?_
   refine GL_wi 18 ((35 - (j : Int)) - 1) (by omega) (by omega) kr ?_
   refine GL_fin (E':=[⟨0,[],.int .u64 p⟩,⟨1,[],.int .i64 3⟩,⟨5,[],.int .u64 (rY (rt3 p j) j)⟩,⟨6,[],.int .i64 ((35 - (j : Int)) - 1)⟩]) [0] [0,1,5,6] rfl kr ?_
   refine N_env (E':=[⟨0,[],.int .u64 p⟩,⟨1,[],.int .i64 3⟩,⟨5,[],.int .u64 (rt3 p (j+1))⟩,⟨6,[],.int .i64 (35 - ((j+1 : Nat) : Int))⟩]) (by rw [rt3_yes hcc,show 35 - ((j+1 : Nat) : Int) = 35 - (j : Int) - 1 by omega]) ?_
   refine N_round (s':=(j+1)) [0,1,5,6] kr rfl (by omega) (by omega)
  ·
   have hcc : c3 p (rY (rt3 p j) j) = false := hc2
   refine G_skip ?_
   refine N_block ?_
   refine N_then ?_
   refine G_region ?_
   refine GL_p [0,0] kr (j:=2) rfl ?_
   refine GL_wi 18 ((35 - (j : Int)) - 1) (by omega) (by omega) kr ?_
   refine GL_fin (E':=[⟨0,[],.int .u64 p⟩,⟨1,[],.int .i64 3⟩,⟨5,[],.int .u64 (rt3 p j)⟩,⟨6,[],.int .i64 ((35 - (j : Int)) - 1)⟩]) [0] [0,1,5,6] rfl kr ?_
   refine N_env (E':=[⟨0,[],.int .u64 p⟩,⟨1,[],.int .i64 3⟩,⟨5,[],.int .u64 (rt3 p (j+1))⟩,⟨6,[],.int .i64 (35 - ((j+1 : Nat) : Int))⟩]) (by rw [rt3_no hcc,show 35 - ((j+1 : Nat) : Int) = 35 - (j : Int) - 1 by omega]) ?_
   refine N_round (s':=(j+1)) [0,1,5,6] kr rfl (by omega) (by omega)
 ·
  have hj9 : j = 36 := by (have := of_decide_eq_false hc1; omega)
  refine G_exit ?_
  refine N_then_exit ?_
  refine N_then_exit ?_
  refine N_block_exit ?_
  refine N_then ?_
  refine G_seq ?_
  refine G_pure (E':=[⟨4,[],.int .u32 (IntKind.wrap .u32 (Int.tmod (rt3 p j) 4294967296))⟩]) [0,0,0,0] [4] rfl kr ?_
  refine N_then ?_
  refine G_ret ?_
  refine N_ret [.tmp 4] [.int .u32 (IntKind.wrap .u32 (Int.tmod (rt3 p j) 4294967296))] rfl kr rfl ?_
  exact ⟨by rw [hj9]; rfl, rfl⟩
end Go.Proofs.YtlaoeiaaeifidaaGreat
