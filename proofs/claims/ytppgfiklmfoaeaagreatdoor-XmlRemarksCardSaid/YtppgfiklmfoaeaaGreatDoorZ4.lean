/- What the walk of an element of XML says, road by road. Plain. (and what it stands on) -/
import Derived.Test.YtppgfiklmfoaeaaGreatDoorZ3
import Derived.Lib.Split
namespace Go.Proofs.YtppgfiklmfoaeaaGreatDoor
open Go.Sw Go.Sha Go.Esc Go.Json Go.Xml
theorem genReplace_ (b t n1 n2:Nat) (l:List UInt8) (hl:l.length≤1000000) (W0:World) (H:List Grp):Tri Tryz.prog 278 #[pt b,.string (bk l)] W0 ([(b,.cells (H6 [.string eB,.int .i64 0,.string eB,.pointer none,.slice (some ⟨t,0,none⟩) 2 2,.int .i64 2] (J1 256)) 268 (0,0))]::[(t,.cells #[.pointer none,pt n1] 263 (0,0))]::[(n1,.cells #[.string (mB #[10]),.int .i64 2,.string (mB #[10]),pt n2,.slice none 0 0] 266 (0,0))]::[(n2,.cells #[.string (mB #[10]),.int .i64 4,.string eB,.pointer none,.slice none 0 0] 266 (0,0))]::H) (fun v H'=>v=.string (bk (A7 l))∧H'=([(b,.cells (H6 [.string eB,.int .i64 0,.string eB,.pointer none,.slice (some ⟨t,0,none⟩) 2 2,.int .i64 2] (J1 256)) 268 (0,0))]::[(t,.cells #[.pointer none,pt n1] 263 (0,0))]::[(n1,.cells #[.string (mB #[10]),.int .i64 2,.string (mB #[10]),pt n2,.slice none 0 0] 266 (0,0))]::[(n2,.cells #[.string (mB #[10]),.int .i64 4,.string eB,.pointer none,.slice none 0 0] 266 (0,0))]::H)):=by
 have hbz:=D9 l
 refine D0 (args:=[pt b,.string (bk l)]) (n:=15) Tryz.func278 rfl rfl (Nat.le_of_ble_eq_true rfl) ?_
 refine A1 (C3 (E':=[⟨0,[],pt b⟩,⟨1,[],.string (bk l)⟩]) [0] [0,1] (k:=?_))
 refine A0 (A1 ?_)
 refine A3 (A4 (j:=2) [0,0] (k:=?_))
 refine GL_makeLC (i:=2) (ch:=[]) (t:=308) (e:=5) (inf:=Tryz.t5) (z:=.int .u8 0) (l:=0) (m:=(bk l).size) (c:=(P8 [] (bk l).size).toList) rfl rfl kr kr kr kr kr (Nat.zero_le _) (by rw [hbz]; show (1:Int) * _≤_; omega) (by omega) (by rw [hbz]; show l.length * 1≤16777216; omega) (by rw [Array.toArray_toList]; exact madeZ _) kr kr kr (fun b1=>H5 (ch:=[]) (z:=.slice none 0 0) (k:=(fun b2=>?_)))
 refine E2 (ch:=[]) (b:=b2) (off:=0) (v:=.slice (some ⟨b1,0,none⟩) 0 ((bk l).size)) (j:=0) ([(b2,.cells #[.slice (some ⟨b1,0,none⟩) 0 ((bk l).size)] 308 (0,0))]::[(b1,.cells (P8 [] (bk l).size).toList.toArray 5 (0,0))]::[(b,.cells (H6 [.string eB,.int .i64 0,.string eB,.pointer none,.slice (some ⟨t,0,none⟩) 2 2,.int .i64 2] (J1 256)) 268 (0,0))]::[(t,.cells #[.pointer none,pt n1] 263 (0,0))]::[(n1,.cells #[.string (mB #[10]),.int .i64 2,.string (mB #[10]),pt n2,.slice none 0 0] 266 (0,0))]::[(n2,.cells #[.string (mB #[10]),.int .i64 4,.string eB,.pointer none,.slice none 0 0] 266 (0,0))]::H) (hoff:=Nat.le_of_ble_eq_true rfl) (hfz:=(fun _ _=>E0)) (k:=B1 [] [0,1,5] (k:=?_))
 refine A0 (A1 ?_)
 refine A3 (A4 (j:=3) [0,0,0] (k:=?_))
 refine H4 rfl (H':=([(b,.cells (H6 [.string eB,.int .i64 0,.string eB,.pointer none,.slice (some ⟨t,0,none⟩) 2 2,.int .i64 2] (J1 256)) 268 (0,0))]::[(t,.cells #[.pointer none,pt n1] 263 (0,0))]::[(n1,.cells #[.string (mB #[10]),.int .i64 2,.string (mB #[10]),pt n2,.slice none 0 0] 266 (0,0))]::[(n2,.cells #[.string (mB #[10]),.int .i64 4,.string eB,.pointer none,.slice none 0 0] 266 (0,0))]::[(b2,.cells #[.slice (some ⟨b1,0,none⟩) 0 ((bk l).size)] 308 (0,0))]::[(b1,.cells (P8 [] (bk l).size).toList.toArray 5 (0,0))]::H)) (fun w h=>((((((h.front (j:=1) rfl).front (j:=1) rfl).front (j:=5) rfl).front (j:=5) rfl).front (j:=5) rfl).front (j:=5) rfl)) (E7 (vs:=[pt b,.iface 309 (pt b2),.string (bk l)]) Tryz.func279 (genWrite_ b t n1 n2 b2 (.slice (some ⟨b1,0,none⟩) 0 ((bk l).size)) [(b1,.cells (P8 [] (bk l).size).toList.toArray 5 (0,0))] l (by omega) (own_cut0 (c:=(P8 [] (bk l).size).toList) (by rw [Array.length_toList,S3]; show 0+_=_ * 1; omega)) _ _) ?_)
 rintro _ _ ⟨n,v2,g2,rfl,hO,rfl⟩
 obtain ⟨ra,rc,rfl,hcap,hrd⟩:=hO.shape
 refine B5 (E':=[⟨5,[],pt b2⟩]) [] [5] (k:=A0 ?_)
 refine A1 (A3 ?_)
 refine A6 (ch:=[]) (b:=b2) (off:=0) (v:=.slice ra ((bk (A7 l)).size) rc) (hA:=At.grp 4 0 rfl rfl) (k:=T0 (ch:=[]) (a:=ra) (cap:=rc) (e:=5) (S:=(inG g2)) (bk (A7 l)) (hrd:=show Rd (inG g2) ra (u8s (A7 l)) from hrd) (hS:=D4 5 rfl) (k:=?_))
 refine B5 (E':=[⟨4,[],.string (bk (A7 l))⟩]) [0] [4] (k:=A0 ?_)
 refine C5 (C1 (H':=([(b,.cells (H6 [.string eB,.int .i64 0,.string eB,.pointer none,.slice (some ⟨t,0,none⟩) 2 2,.int .i64 2] (J1 256)) 268 (0,0))]::[(t,.cells #[.pointer none,pt n1] 263 (0,0))]::[(n1,.cells #[.string (mB #[10]),.int .i64 2,.string (mB #[10]),pt n2,.slice none 0 0] 266 (0,0))]::[(n2,.cells #[.string (mB #[10]),.int .i64 4,.string eB,.pointer none,.slice none 0 0] 266 (0,0))]::H)) (fun w h=>((h.erase 5).erase 4)) ?_)
 refine B9 [.tmp 4] [.string (bk (A7 l))] (k:=?_)
 exact ⟨rfl,rfl⟩
theorem newRepC_ (v:Nat) (W0:World) (H:List Grp):Tri Tryz.prog 148 #[.slice (some ⟨v,0,none⟩) 4 4] W0 ([(v,.cells #[.string (mB #[13,10]),.string (mB #[10]),.string (mB #[13]),.string (mB #[10])] 9 (0,0))]::H) (fun x H'=>∃ b a cap g,x=pt b∧Go.Sw.Own 9 1 (.slice a 4 cap) g 4 crT∧H'=repG b 0 0 .nilIface (.slice a 4 cap)::g::[(v,.cells #[.string (mB #[13,10]),.string (mB #[10]),.string (mB #[13]),.string (mB #[10])] 9 (0,0))]::H):=by
 refine D0 (args:=[.slice (some ⟨v,0,none⟩) 4 4]) (n:=12) Tryz.func148 rfl rfl (Nat.le_of_ble_eq_true rfl) ?_
 refine A1 (G_p [0] [0] (k:=?_))
 refine A0 (A1 ?_)
 refine A1 (A3 ?_)
 refine A4 (j:=3) [0,0,0] (k:=?_)
 have hw1:Int.tmod 4 2=4 % 2:=r64 (by omega)
 refine GL_w 5 hw1 kr (B1 [0] [0,6] (k:=?_))
 refine A0 (B7 (b:=(4 % 2)==1) kr (fun hc2=>?_) (fun hc2=>?_))
 ·
  exact absurd hc2 (by decide)
 ·
  skip
  refine B4 (A0 ?_)
  refine A1 (A3 ?_)
  refine A4 (j:=1) [0] (k:=H4 rfl (H':=([]::[(v,.cells #[.string (mB #[13,10]),.string (mB #[10]),.string (mB #[13]),.string (mB #[10])] 9 (0,0))]::H)) (fun w h=>h.flat (List.Perm.refl _)) ?_)
  refine G4 (i:=1) (ch:=[]) (t:=25) (tx:=25) (e:=9) (inf:=Tryz.t9) (s:=.slice none 0 0) (x:=.slice (some ⟨v,0,none⟩) 4 4) (n:=0) (m:=4) (j:=0) (cs:=[]) (news:=[.string (mB #[13,10]),.string (mB #[10]),.string (mB #[13]),.string (mB #[10])]) (g:=[]) (S:=(inG [(v,.cells #[.string (mB #[13,10]),.string (mB #[10]),.string (mB #[13]),.string (mB #[10])] 9 (0,0))])) rfl rfl rfl rfl kr kr kr rfl rfl (.inl ⟨9,kr⟩) (fun ⟨_,h⟩=>by cases h) (fun _=>⟨9,kr⟩) kr kr kr rfl Go.Sw.Own.nil (SrcOf.slice _ _ _ _ Rd.lit (fun h=>by cases h)) (D4 1 rfl) kr (by intro u hu; simp only [List.mem_cons,List.not_mem_nil,or_false] at hu; rcases hu with rfl | rfl | rfl | rfl <;> rfl) (by omega) (by show (0+4) * 16≤140737488355328; omega) (fun v3 g4 hO5=>?_)
  replace hO5:=own_nilE hO5
  obtain ⟨a6,cap7,rfl,hcap8,hrd9⟩:=hO5.shape
  refine A4 (j:=3) [0] (k:=T1 (ch:=[]) (v:=.agg #[.int .u32 0,.int .i32 0,.int .u32 0,.nilIface,.slice a6 4 cap7]) (k:=(fun b10=>?_)))
  refine B5 (E':=[⟨2,[],pt b10⟩]) [0] [2] (k:=A0 ?_)
  refine C5 (B9 [.tmp 2] [pt b10] (k:=?_))
  exact ⟨_,_,_,_,rfl,hO5,rfl⟩
theorem buildC_ (rb:Nat) (a:Option Addr) (cap:Nat) (g:Grp) (hr:Rd (inG g) a crT) (W0:World) (H:List Grp):Tri Tryz.prog 190 #[pt rb] W0 ([(rb,.cells #[.int .u32 0,.int .i32 1,.int .u32 0,.nilIface,.slice a 4 cap] 213 (0,0))]::g::H) (fun x H'=>∃ b t n1 n2,x=.iface 242 (pt b)∧H'=([(b,.cells (H6 [.string eB,.int .i64 0,.string eB,.pointer none,.slice (some ⟨t,0,none⟩) 2 2,.int .i64 2] (J1 256)) 268 (0,0))]::[(t,.cells #[.pointer none,pt n1] 263 (0,0))]::[(n1,.cells #[.string (mB #[10]),.int .i64 2,.string (mB #[10]),pt n2,.slice none 0 0] 266 (0,0))]::[(n2,.cells #[.string (mB #[10]),.int .i64 4,.string eB,.pointer none,.slice none 0 0] 266 (0,0))]::[(rb,.cells #[.int .u32 0,.int .i32 1,.int .u32 0,.nilIface,.slice a 4 cap] 213 (0,0))]::g::H)):=by
 refine D0 (args:=[pt rb]) (n:=132) Tryz.func190 rfl rfl (Nat.le_of_ble_eq_true rfl) ?_
 refine A1 (C3 (E':=[⟨0,[],pt rb⟩]) [0] [0] (k:=?_))
 refine A0 (A1 ?_)
 refine A3 (A4 (j:=3) [0,0,0] (k:=?_))
 refine A6 (ch:=[]) (b:=rb) (off:=4) (v:=.slice a 4 cap) (hA:=At.grp 0 0 rfl rfl) (k:=B5 (E':=[⟨3,[],.slice a 4 cap⟩]) [0] [3] (k:=?_))
 refine A0 (A1 ?_)
 refine A1 (G_p [0,0,0,0,1,1,1,1,1,3] [3,28] (k:=?_))
 refine A0 (D3 kr ?_)
 refine B4 (A0 ?_)
 refine A1 (G_p [0] [3,4] (k:=?_))
 refine A0 (A1 ?_)
 refine A1 (G_p [0] [3,4,5] (k:=?_))
 refine A0 (B8 ?_)
 refine N9 1 (G1 ?_)
 refine A1 (A1 ?_)
 refine G_p [0,0,0,0] [3,4,5,40] (k:=A0 ?_)
 refine C4 kr (B4 ?_)
 refine A0 (A1 ?_)
 refine B8 (A1 ?_)
 refine A1 (A3 ?_)
 refine A4 (j:=2) [0,0] (k:=A9 (ch:=[]) (a:=a) (len:=4) (cap:=cap) (kd:=.i64) (j:=0) (e:=9) (sz:=1) (S:=(inG g)) (cs:=crT) (hrd:=hr) (hb:=(fun _=>by exact ⟨by decide,by decide,by intro h; cases h⟩)) (k:=?_))
 refine F4 (ch:=[]) (a:=a) (q:=0 * 1) (S:=(inG g)) (cs:=crT) (v:=.string (mB #[13,10])) (hrd:=hr) (hS:=D4 1 rfl) (hv:=(fun _=>rfl)) (k:=B1 [0,0] [3,4,5,48] (k:=?_))
 refine A0 (C4 kr ?_)
 refine A1 (A3 ?_)
 refine A4 (j:=1) [0] (k:=H4 rfl (H':=(g::[(rb,.cells #[.int .u32 0,.int .i32 1,.int .u32 0,.nilIface,.slice a 4 cap] 213 (0,0))]::H)) (fun w h=>(h.front (j:=1) rfl)) ?_)
 refine E7 Tryz.func212 (mkGen_ a cap g hr _ _) ?_
 rintro _ _ ⟨b,t,n1,n2,rfl,rfl⟩
 refine B5 (E':=[⟨2,[],.iface 242 (pt b)⟩]) [0,0] [2] (k:=A0 ?_)
 refine C5 (B2 ?_)
 refine D6 (B2 ?_)
 refine B2 (D6 ?_)
 refine B2 (C1 (H':=([(b,.cells (H6 [.string eB,.int .i64 0,.string eB,.pointer none,.slice (some ⟨t,0,none⟩) 2 2,.int .i64 2] (J1 256)) 268 (0,0))]::[(t,.cells #[.pointer none,pt n1] 263 (0,0))]::[(n1,.cells #[.string (mB #[10]),.int .i64 2,.string (mB #[10]),pt n2,.slice none 0 0] 266 (0,0))]::[(n2,.cells #[.string (mB #[10]),.int .i64 4,.string eB,.pointer none,.slice none 0 0] 266 (0,0))]::[(rb,.cells #[.int .u32 0,.int .i32 1,.int .u32 0,.nilIface,.slice a 4 cap] 213 (0,0))]::g::H)) (fun w h=>((((((h.front (j:=4) rfl).front (j:=5) rfl).front (j:=5) rfl).front (j:=5) rfl).front (j:=5) rfl).front (j:=5) rfl)) ?_)
 refine B9 [.tmp 2] [.iface 242 (pt b)] (k:=?_)
 exact ⟨_,_,_,_,rfl,rfl⟩
def crRep (g:Grp) (x:Value) (K:List Grp):Prop:=∃ b t n1 n2,x=.iface 242 (pt b)∧K=[[(b,.cells (H6 [.string eB,.int .i64 0,.string eB,.pointer none,.slice (some ⟨t,0,none⟩) 2 2,.int .i64 2] (J1 256)) 268 (0,0))],[(t,.cells #[.pointer none,pt n1] 263 (0,0))],[(n1,.cells #[.string (mB #[10]),.int .i64 2,.string (mB #[10]),pt n2,.slice none 0 0] 266 (0,0))],[(n2,.cells #[.string (mB #[10]),.int .i64 4,.string eB,.pointer none,.slice none 0 0] 266 (0,0))],g]
theorem buildOnceC_ (rb:Nat) (a:Option Addr) (cap:Nat) (g:Grp) (hr:Rd (inG g) a crT) (W0:World) (H:List Grp):Tri Tryz.prog 172 #[pt rb] W0 ([(rb,.cells #[.int .u32 0,.int .i32 1,.int .u32 0,.nilIface,.slice a 4 cap] 213 (0,0))]::g::H) (fun _ H'=>∃ r2 K2,crRep g r2 K2∧H'=repG rb 0 1 r2 (.slice none 0 0)::(K2++H)):=by
 refine D0 (args:=[pt rb]) (n:=10) Tryz.func172 rfl rfl (Nat.le_of_ble_eq_true rfl) ?_
 refine A1 (A3 ?_)
 refine A4 (j:=2) [0,0] (k:=E7 Tryz.func190 (buildC_ rb a cap g hr _ _) ?_)
 rintro _ _ ⟨b,t,n1,n2,rfl,rfl⟩
 refine A4 (j:=5) [0,0] (k:=E2 (ch:=[]) (b:=rb) (off:=3) (v:=.iface 242 (pt b)) (j:=4) ([(b,.cells (H6 [.string eB,.int .i64 0,.string eB,.pointer none,.slice (some ⟨t,0,none⟩) 2 2,.int .i64 2] (J1 256)) 268 (0,0))]::[(t,.cells #[.pointer none,pt n1] 263 (0,0))]::[(n1,.cells #[.string (mB #[10]),.int .i64 2,.string (mB #[10]),pt n2,.slice none 0 0] 266 (0,0))]::[(n2,.cells #[.string (mB #[10]),.int .i64 4,.string eB,.pointer none,.slice none 0 0] 266 (0,0))]::[(rb,.cells #[.int .u32 0,.int .i32 1,.int .u32 0,.iface 242 (pt b),.slice a 4 cap] 213 (0,0))]::g::H) (hoff:=Nat.le_of_ble_eq_true rfl) (hfz:=(fun _ _=>E0)) (k:=?_))
 refine B5 (E':=[⟨0,[],pt rb⟩]) [] [0] (k:=A0 ?_)
 refine A3 (A4 (j:=3) [0,0,0] (k:=?_))
 refine E2 (ch:=[]) (b:=rb) (off:=4) (v:=.slice none 0 0) (j:=4) ([(b,.cells (H6 [.string eB,.int .i64 0,.string eB,.pointer none,.slice (some ⟨t,0,none⟩) 2 2,.int .i64 2] (J1 256)) 268 (0,0))]::[(t,.cells #[.pointer none,pt n1] 263 (0,0))]::[(n1,.cells #[.string (mB #[10]),.int .i64 2,.string (mB #[10]),pt n2,.slice none 0 0] 266 (0,0))]::[(n2,.cells #[.string (mB #[10]),.int .i64 4,.string eB,.pointer none,.slice none 0 0] 266 (0,0))]::[(rb,.cells #[.int .u32 0,.int .i32 1,.int .u32 0,.iface 242 (pt b),.slice none 0 0] 213 (0,0))]::g::H) (hoff:=Nat.le_of_ble_eq_true rfl) (hfz:=(fun _ _=>E0)) (k:=B5 (E':=[]) [] [] (k:=?_))
 refine C1 (H':=([(rb,.cells #[.int .u32 0,.int .i32 1,.int .u32 0,.iface 242 (pt b),.slice none 0 0] 213 (0,0))]::[(b,.cells (H6 [.string eB,.int .i64 0,.string eB,.pointer none,.slice (some ⟨t,0,none⟩) 2 2,.int .i64 2] (J1 256)) 268 (0,0))]::[(t,.cells #[.pointer none,pt n1] 263 (0,0))]::[(n1,.cells #[.string (mB #[10]),.int .i64 2,.string (mB #[10]),pt n2,.slice none 0 0] 266 (0,0))]::[(n2,.cells #[.string (mB #[10]),.int .i64 4,.string eB,.pointer none,.slice none 0 0] 266 (0,0))]::g::H)) (fun w h=>((((((h.front (j:=5) rfl).front (j:=4) rfl).front (j:=4) rfl).front (j:=4) rfl).front (j:=4) rfl).front (j:=5) rfl)) (B9 [] [] (k:=?_))
 exact ⟨_,_,⟨b,t,n1,n2,rfl,rfl⟩,rfl⟩
theorem crOnce (rb:Nat) (a:Option Addr) (cap:Nat) (g:Grp) (hr:Rd (inG g) a crT) (W0:World) (H:List Grp):Tri Tryz.prog 171 #[pt rb,.func (.func 172) #[pt rb] #[]] W0 (repG rb 0 0 .nilIface (.slice a 4 cap)::([g]++H)) (fun _ H'=>∃ r2 K2,crRep g r2 K2∧H'=repG rb 1 0 r2 (.slice none 0 0)::(K2++H)) :=
  onceDo_ rb .nilIface (.slice a 4 cap) (.slice none 0 0) [g] (crRep g) (fun W0 H=>buildOnceC_ rb a cap g hr W0 H) W0 H
theorem crReplace_ (rb:Nat) (a:Option Addr) (cap:Nat) (g:Grp) (hr:Rd (inG g) a crT) (l:List UInt8) (hl:l.length≤1000000) (W0:World) (H:List Grp):Tri Tryz.prog 149 #[pt rb,.string (bk l)] W0 ([(rb,.cells #[.int .u32 0,.int .i32 0,.int .u32 0,.nilIface,.slice a 4 cap] 213 (0,0))]::g::H) (fun v H'=>v=.string (bk (A7 l))∧H'=H):=by
 refine D0 (args:=[pt rb,.string (bk l)]) (n:=17) Tryz.func149 rfl rfl (Nat.le_of_ble_eq_true rfl) ?_
 refine A1 (G_p [0] [0,1] (k:=?_))
 refine A0 (A1 ?_)
 refine A3 (A4 (j:=5) [0,0,0,0,0] (k:=?_))
 refine E7 Tryz.func171 (crOnce rb a cap g hr _ _) ?_
 rintro _ _ ⟨_,_,⟨b,t,n1,n2,rfl,rfl⟩,rfl⟩
 refine B1 [] [0,1] (k:=A0 ?_)
 refine A1 (A3 ?_)
 refine A4 (j:=3) [0,0,0] (k:=A6 (ch:=[]) (b:=rb) (off:=3) (v:=.iface 242 (pt b)) (hA:=At.grp 0 0 rfl rfl) (k:=?_))
 refine A4 (j:=5) [0] (k:=H4 rfl (H':=([(b,.cells (H6 [.string eB,.int .i64 0,.string eB,.pointer none,.slice (some ⟨t,0,none⟩) 2 2,.int .i64 2] (J1 256)) 268 (0,0))]::[(t,.cells #[.pointer none,pt n1] 263 (0,0))]::[(n1,.cells #[.string (mB #[10]),.int .i64 2,.string (mB #[10]),pt n2,.slice none 0 0] 266 (0,0))]::[(n2,.cells #[.string (mB #[10]),.int .i64 4,.string eB,.pointer none,.slice none 0 0] 266 (0,0))]::[(rb,.cells #[.int .u32 1,.int .i32 0,.int .u32 0,.iface 242 (pt b),.slice none 0 0] 213 (0,0))]::g::H)) (fun w h=>((((h.front (j:=4) rfl).front (j:=4) rfl).front (j:=4) rfl).front (j:=4) rfl)) ?_)
 refine Q8 (t:=242) (rv:=pt b) (f:=278) (vs:=[.string (bk l)]) (av:=#[pt b,.string (bk l)]) (hm:=(fun _=>by kernel_rfl)) (hc:=genReplace_ b t n1 n2 l hl _ _) (k:=?_)
 rintro _ _ ⟨rfl,rfl⟩
 refine B5 (E':=[⟨4,[],.string (bk (A7 l))⟩]) [0] [4] (k:=A0 ?_)
 refine C5 (C1 (H':=([(b,.cells (H6 [.string eB,.int .i64 0,.string eB,.pointer none,.slice (some ⟨t,0,none⟩) 2 2,.int .i64 2] (J1 256)) 268 (0,0))]::[(t,.cells #[.pointer none,pt n1] 263 (0,0))]::[(n1,.cells #[.string (mB #[10]),.int .i64 2,.string (mB #[10]),pt n2,.slice none 0 0] 266 (0,0))]::[(n2,.cells #[.string (mB #[10]),.int .i64 4,.string eB,.pointer none,.slice none 0 0] 266 (0,0))]::[(rb,.cells #[.int .u32 1,.int .i32 0,.int .u32 0,.iface 242 (pt b),.slice none 0 0] 213 (0,0))]::H)) (fun w h=>h.erase 5) ?_)
 refine C1 (H':=([(b,.cells (H6 [.string eB,.int .i64 0,.string eB,.pointer none,.slice (some ⟨t,0,none⟩) 2 2,.int .i64 2] (J1 256)) 268 (0,0))]::[(t,.cells #[.pointer none,pt n1] 263 (0,0))]::[(n1,.cells #[.string (mB #[10]),.int .i64 2,.string (mB #[10]),pt n2,.slice none 0 0] 266 (0,0))]::[(n2,.cells #[.string (mB #[10]),.int .i64 4,.string eB,.pointer none,.slice none 0 0] 266 (0,0))]::H)) (fun w h=>h.erase 4) (C1 (H':=([(b,.cells (H6 [.string eB,.int .i64 0,.string eB,.pointer none,.slice (some ⟨t,0,none⟩) 2 2,.int .i64 2] (J1 256)) 268 (0,0))]::[(t,.cells #[.pointer none,pt n1] 263 (0,0))]::[(n1,.cells #[.string (mB #[10]),.int .i64 2,.string (mB #[10]),pt n2,.slice none 0 0] 266 (0,0))]::H)) (fun w h=>h.erase 3) ?_)
 refine C1 (H':=([(b,.cells (H6 [.string eB,.int .i64 0,.string eB,.pointer none,.slice (some ⟨t,0,none⟩) 2 2,.int .i64 2] (J1 256)) 268 (0,0))]::[(t,.cells #[.pointer none,pt n1] 263 (0,0))]::H)) (fun w h=>h.erase 2) (C1 (H':=([(b,.cells (H6 [.string eB,.int .i64 0,.string eB,.pointer none,.slice (some ⟨t,0,none⟩) 2 2,.int .i64 2] (J1 256)) 268 (0,0))]::H)) (fun w h=>h.erase 1) ?_)
 refine C1 (H':=H) (fun w h=>h.erase 0) (B9 [.tmp 4] [.string (bk (A7 l))] (k:=?_))
 exact ⟨rfl,rfl⟩
end Go.Proofs.YtppgfiklmfoaeaaGreatDoor
namespace Go.Proofs.YtppgfiklmfoaeaaGreatDoor
open Go.Sw Go.Sha Go.Esc Go.RowKit
theorem lit38:(⟨#[Nat.toUInt8 38]⟩:ByteArray).data.toList=[38]:=rfl
theorem sz38:(⟨#[Nat.toUInt8 38]⟩:ByteArray).size=1:=rfl
theorem toNat1 (m:Nat):Int.toNat ((m:Int)+1)=m+1:=by omega
theorem sz_drop (s:ByteArray) (k:Nat):(s.extract k s.size).size=s.size - k:=by rw [ByteArray.size_extract,Nat.min_self]
theorem w32i {x:Int} (h0:0≤x) (h1:x≤2147483647):IntKind.wrap .i32 x=x:=by
  have e:∀ y,IntKind.wrap .i32 y=if y % 4294967296<2147483648 then y % 4294967296 else y % 4294967296 - 4294967296:=by intro y; first | rfl | (simp [IntKind.wrap,IntKind.bits,IntKind.signed]; split <;> split <;> omega)
  rw [e]; split <;> omega
theorem number10_ (s:ByteArray) (hs:s.size≤1000000000000) (W0:World) (H:List Grp) (hW:R5 W0):Tri Tryz.prog 206 #[.string s,.int .i64 10,.int .i64 7] W0 H (fun v H'=>v=.int .i64 (J5 s.data.toList 10 7)∧H'=H):=by
 refine D0 (args:=[.string s,.int .i64 10,.int .i64 7]) (n:=42) Tryz.func206 rfl rfl (Nat.le_of_ble_eq_true rfl) ?_
 refine A1 (G_p [0] [0,1,2] (k:=?_))
 refine A0 (A1 ?_)
 refine A1 (G_p [0,0,0,0,0,0,0,0,5] [0,1,17] (k:=?_))
 refine A0 (B7 (b:=((s.size:Int)==0)||(decide ((s.size:Int) > 7))) kr (fun hc1=>?_) (fun hc1=>?_))
 ·
  simp only [Bool.or_eq_true,decide_eq_true_eq,beq_iff_eq,gt_iff_lt] at hc1
  refine A1 (C3 (E':=[⟨6,[],.int .i64 (-1)⟩]) [0] [6] (k:=?_))
  refine A0 (C5 ?_)
  refine B2 (B9 [.tmp 6] [.int .i64 (-1)] (k:=?_))
  exact ⟨congrArg (Value.int .i64) (by unfold J5; rw [if_pos (by rw [M2]; omega)]),rfl⟩
 ·
  simp only [Bool.or_eq_false_iff,decide_eq_false_iff_not,beq_eq_false_iff_ne,gt_iff_lt] at hc1
  refine B4 (A0 ?_)
  refine A1 (A3 ?_)
  refine A4 (j:=2) [0,0] (k:=E7 Tryz.func191 (parse10_ s (by omega) (by omega) _ _ hW) ?_)
  rintro _ _ ⟨⟨n,hV,hn0,hn1,rfl⟩ | ⟨hV,N,rfl⟩,rfl⟩
  ·
   have hp:=pow16 (show s.size≤7 by omega)
   refine B1 [0,0,0,0,0] [7,8] (k:=A0 ?_)
   refine A1 (A1 ?_)
   refine A3 (A4 (j:=1) [0] (k:=?_))
   refine O1 (ch:=[]) (v:=.nilIface) (e:=true) true (hv:=.inl ⟨rfl,rfl⟩) (k:=A4 (j:=13) [0,0,0,3,0,0,0,5,0,0,0] (k:=?_))
   refine J7 (ch:=[(34,false)]) (f:=192) (fst:=#[]) (caps:=#[]) (vs:=[.int .i32 (IntKind.wrap .i32 n)]) (v:=.bool (isB (IntKind.wrap .i32 n))) (hf:=Tryz.func192) (hc:=(fun hc=>vRune_ (IntKind.wrap .i32 n) _ _)) (k:=B1 [0,5] [7,39] (k:=?_))
   refine A0 (B7 (b:=((n==0)||(decide (n > 1114111)))||(!(isB (IntKind.wrap .i32 n)))) kr (fun hc2=>?_) (fun hc2=>?_))
   ·
    simp only [Bool.or_eq_true,decide_eq_true_eq,beq_iff_eq,gt_iff_lt,Bool.not_eq_true'] at hc2
    have hbad:=hc2
    refine A1 (C3 (E':=[⟨6,[],.int .i64 (-1)⟩]) [0] [6] (k:=?_))
    refine A0 (C5 ?_)
    refine B2 (B9 [.tmp 6] [.int .i64 (-1)] (k:=?_))
    exact ⟨congrArg (Value.int .i64) (by unfold J5; rw [if_neg (by rw [M2]; omega),hV]; dsimp only; rw [if_pos]; unfold isB; by_cases hn:n=0; exact .inl hn; right; rw [← Bool.not_eq_true]; intro hb; have hr:=isB_iff.1 hb; unfold isR at hr; rcases hbad with (h | h) | h; exact hn h; omega; rw [w32i (by omega) (by omega)] at h; rw [show isB n=true from hb] at h; cases h),rfl⟩
   ·
    simp only [Bool.or_eq_false_iff,decide_eq_false_iff_not,beq_eq_false_iff_ne,gt_iff_lt,Bool.not_eq_false'] at hc2
    have hok:=hc2
    refine B4 (A0 ?_)
    refine A1 (A3 ?_)
    refine A4 (j:=2) [0,0] (k:=F6 41 n (by omega) (by omega) kr ?_)
    refine B5 (E':=[⟨6,[],.int .i64 n⟩]) [0] [6] (k:=A0 ?_)
    refine C5 (B9 [.tmp 6] [.int .i64 n] (k:=?_))
    exact ⟨congrArg (Value.int .i64) (by unfold J5; rw [if_neg (by rw [M2]; omega),hV]; dsimp only; rw [if_neg]; rintro (h | h); exact hok.1.1 h; have h2:=hok.2; rw [w32i (by omega) (by omega),h] at h2; cases h2),rfl⟩
  ·
   refine B1 [0,0,0,0,0] [7,8] (k:=A0 ?_)
   refine A1 (A1 ?_)
   refine A3 (A4 (j:=1) [0] (k:=?_))
   refine O1 (ch:=[]) (v:=.iface 272 (pt N)) (e:=false) true (hv:=.inr ⟨⟨_,_,rfl⟩,rfl⟩) (k:=B1 [0,1,1,2,0,1,1,2,0,1,1,1,1,2] [7,39] (k:=?_))
   refine A0 (C4 kr ?_)
   refine A1 (C3 (E':=[⟨6,[],.int .i64 (-1)⟩]) [0] [6] (k:=?_))
   refine A0 (C5 ?_)
   refine B2 (B9 [.tmp 6] [.int .i64 (-1)] (k:=?_))
   exact ⟨congrArg (Value.int .i64) (by unfold J5; rw [if_neg (by rw [M2]; omega),hV]),rfl⟩
theorem number16_ (s:ByteArray) (hs:s.size≤1000000000000) (W0:World) (H:List Grp) (hW:R5 W0):Tri Tryz.prog 206 #[.string s,.int .i64 16,.int .i64 6] W0 H (fun v H'=>v=.int .i64 (J5 s.data.toList 16 6)∧H'=H):=by
 refine D0 (args:=[.string s,.int .i64 16,.int .i64 6]) (n:=42) Tryz.func206 rfl rfl (Nat.le_of_ble_eq_true rfl) ?_
 refine A1 (G_p [0] [0,1,2] (k:=?_))
 refine A0 (A1 ?_)
 refine A1 (G_p [0,0,0,0,0,0,0,0,5] [0,1,17] (k:=?_))
 refine A0 (B7 (b:=((s.size:Int)==0)||(decide ((s.size:Int) > 6))) kr (fun hc1=>?_) (fun hc1=>?_))
 ·
  simp only [Bool.or_eq_true,decide_eq_true_eq,beq_iff_eq,gt_iff_lt] at hc1
  refine A1 (C3 (E':=[⟨6,[],.int .i64 (-1)⟩]) [0] [6] (k:=?_))
  refine A0 (C5 ?_)
  refine B2 (B9 [.tmp 6] [.int .i64 (-1)] (k:=?_))
  exact ⟨congrArg (Value.int .i64) (by unfold J5; rw [if_pos (by rw [M2]; omega)]),rfl⟩
 ·
  simp only [Bool.or_eq_false_iff,decide_eq_false_iff_not,beq_eq_false_iff_ne,gt_iff_lt] at hc1
  refine B4 (A0 ?_)
  refine A1 (A3 ?_)
  refine A4 (j:=2) [0,0] (k:=E7 Tryz.func191 (parse16_ s (by omega) (by omega) _ _ hW) ?_)
  rintro _ _ ⟨⟨n,hV,hn0,hn1,rfl⟩ | ⟨hV,N,rfl⟩,rfl⟩
  ·
   have hp:=pow16 (show s.size≤7 by omega)
   refine B1 [0,0,0,0,0] [7,8] (k:=A0 ?_)
   refine A1 (A1 ?_)
   refine A3 (A4 (j:=1) [0] (k:=?_))
   refine O1 (ch:=[]) (v:=.nilIface) (e:=true) true (hv:=.inl ⟨rfl,rfl⟩) (k:=A4 (j:=13) [0,0,0,3,0,0,0,5,0,0,0] (k:=?_))
   refine J7 (ch:=[(34,false)]) (f:=192) (fst:=#[]) (caps:=#[]) (vs:=[.int .i32 (IntKind.wrap .i32 n)]) (v:=.bool (isB (IntKind.wrap .i32 n))) (hf:=Tryz.func192) (hc:=(fun hc=>vRune_ (IntKind.wrap .i32 n) _ _)) (k:=B1 [0,5] [7,39] (k:=?_))
   refine A0 (B7 (b:=((n==0)||(decide (n > 1114111)))||(!(isB (IntKind.wrap .i32 n)))) kr (fun hc2=>?_) (fun hc2=>?_))
   ·
    simp only [Bool.or_eq_true,decide_eq_true_eq,beq_iff_eq,gt_iff_lt,Bool.not_eq_true'] at hc2
    have hbad:=hc2
    refine A1 (C3 (E':=[⟨6,[],.int .i64 (-1)⟩]) [0] [6] (k:=?_))
    refine A0 (C5 ?_)
    refine B2 (B9 [.tmp 6] [.int .i64 (-1)] (k:=?_))
    exact ⟨congrArg (Value.int .i64) (by unfold J5; rw [if_neg (by rw [M2]; omega),hV]; dsimp only; rw [if_pos]; unfold isB; by_cases hn:n=0; exact .inl hn; right; rw [← Bool.not_eq_true]; intro hb; have hr:=isB_iff.1 hb; unfold isR at hr; rcases hbad with (h | h) | h; exact hn h; omega; rw [w32i (by omega) (by omega)] at h; rw [show isB n=true from hb] at h; cases h),rfl⟩
   ·
    simp only [Bool.or_eq_false_iff,decide_eq_false_iff_not,beq_eq_false_iff_ne,gt_iff_lt,Bool.not_eq_false'] at hc2
    have hok:=hc2
    refine B4 (A0 ?_)
    refine A1 (A3 ?_)
    refine A4 (j:=2) [0,0] (k:=F6 41 n (by omega) (by omega) kr ?_)
    refine B5 (E':=[⟨6,[],.int .i64 n⟩]) [0] [6] (k:=A0 ?_)
    refine C5 (B9 [.tmp 6] [.int .i64 n] (k:=?_))
    exact ⟨congrArg (Value.int .i64) (by unfold J5; rw [if_neg (by rw [M2]; omega),hV]; dsimp only; rw [if_neg]; rintro (h | h); exact hok.1.1 h; have h2:=hok.2; rw [w32i (by omega) (by omega),h] at h2; cases h2),rfl⟩
  ·
   refine B1 [0,0,0,0,0] [7,8] (k:=A0 ?_)
   refine A1 (A1 ?_)
   refine A3 (A4 (j:=1) [0] (k:=?_))
   refine O1 (ch:=[]) (v:=.iface 272 (pt N)) (e:=false) true (hv:=.inr ⟨⟨_,_,rfl⟩,rfl⟩) (k:=B1 [0,1,1,2,0,1,1,2,0,1,1,1,1,2] [7,39] (k:=?_))
   refine A0 (C4 kr ?_)
   refine A1 (C3 (E':=[⟨6,[],.int .i64 (-1)⟩]) [0] [6] (k:=?_))
   refine A0 (C5 ?_)
   refine B2 (B9 [.tmp 6] [.int .i64 (-1)] (k:=?_))
   exact ⟨congrArg (Value.int .i64) (by unfold J5; rw [if_neg (by rw [M2]; omega),hV]),rfl⟩
theorem reference_ (s:ByteArray) (hs:s.size≤1000000000000) (W0:World) (H:List Grp) (hW:R5 W0):Tri Tryz.prog 187 #[.string s] W0 H (fun v H'=>v=.int .i64 (refM s.data.toList)∧H'=H):=by
 refine D0 (args:=[.string s]) (n:=44) Tryz.func187 rfl rfl (Nat.le_of_ble_eq_true rfl) ?_
 refine A1 (C3 (E':=[⟨0,[],.string s⟩]) [0] [0] (k:=?_))
 refine A0 (A1 ?_)
 refine A1 (C3 (E':=[⟨0,[],.string s⟩,⟨9,[],.string s⟩]) [0] [0,9] (k:=?_))
 refine A0 (B8 ?_)
 refine A1 (G_p [0,0] [0,9,10] (k:=?_))
 refine A0 (B7 (b:=s.toList==(mB #[97,109,112]).toList) kr (fun hc1=>?_) (fun hc1=>?_))
 ·
  have e0:=(eqB _ _).1 hc1
  refine A1 (C3 (E':=[⟨2,[],.int .i64 38⟩]) [0] [2] (k:=?_))
  refine A0 (C5 ?_)
  refine D6 (B2 ?_)
  refine B9 [.tmp 2] [.int .i64 38] (k:=?_)
  exact ⟨congrArg (Value.int .i64) (by unfold refM; rw [if_pos e0]),rfl⟩
 ·
  have e0:=(eqBf _ _).1 hc1
  refine A1 (G_p [0,0] [0,9,12] (k:=?_))
  refine A0 (B7 (b:=s.toList==(mB #[108,116]).toList) kr (fun hc2=>?_) (fun hc2=>?_))
  ·
   have e1:=(eqB _ _).1 hc2
   refine A1 (C3 (E':=[⟨2,[],.int .i64 60⟩]) [0] [2] (k:=?_))
   refine A0 (C5 ?_)
   refine D6 (B2 ?_)
   refine B9 [.tmp 2] [.int .i64 60] (k:=?_)
   exact ⟨congrArg (Value.int .i64) (by unfold refM; rw [if_neg e0,if_pos e1]),rfl⟩
  ·
   have e1:=(eqBf _ _).1 hc2
   refine A1 (G_p [0,0] [0,9,14] (k:=?_))
   refine A0 (B7 (b:=s.toList==(mB #[103,116]).toList) kr (fun hc3=>?_) (fun hc3=>?_))
   ·
    have e2:=(eqB _ _).1 hc3
    refine A1 (C3 (E':=[⟨2,[],.int .i64 62⟩]) [0] [2] (k:=?_))
    refine A0 (C5 ?_)
    refine D6 (B2 ?_)
    refine B9 [.tmp 2] [.int .i64 62] (k:=?_)
    exact ⟨congrArg (Value.int .i64) (by unfold refM; rw [if_neg e0,if_neg e1,if_pos e2]),rfl⟩
   ·
    have e2:=(eqBf _ _).1 hc3
    refine A1 (G_p [0,0] [0,9,16] (k:=?_))
    refine A0 (B7 (b:=s.toList==(mB #[113,117,111,116]).toList) kr (fun hc4=>?_) (fun hc4=>?_))
    ·
     have e3:=(eqB _ _).1 hc4
     refine A1 (C3 (E':=[⟨2,[],.int .i64 34⟩]) [0] [2] (k:=?_))
     refine A0 (C5 ?_)
     refine D6 (B2 ?_)
     refine B9 [.tmp 2] [.int .i64 34] (k:=?_)
     exact ⟨congrArg (Value.int .i64) (by unfold refM; rw [if_neg e0,if_neg e1,if_neg e2,if_pos e3]),rfl⟩
    ·
     have e3:=(eqBf _ _).1 hc4
     refine A1 (G_p [0,0] [0,18] (k:=?_))
     refine A0 (B7 (b:=s.toList==(mB #[97,112,111,115]).toList) kr (fun hc5=>?_) (fun hc5=>?_))
     ·
      have e4:=(eqB _ _).1 hc5
      refine A1 (C3 (E':=[⟨2,[],.int .i64 39⟩]) [0] [2] (k:=?_))
      refine A0 (C5 ?_)
      refine D6 (B2 ?_)
      refine B9 [.tmp 2] [.int .i64 39] (k:=?_)
      exact ⟨congrArg (Value.int .i64) (by unfold refM; rw [if_neg e0,if_neg e1,if_neg e2,if_neg e3,if_pos e4]),rfl⟩
     ·
      have e4:=(eqBf _ _).1 hc5
      refine B4 (C6 ?_)
      refine A0 (A1 ?_)
      refine A1 (A3 ?_)
      refine A4 (j:=1) [0] (k:=E7 Tryz.func124 (cutP_ s (mB #[35,120]) (by omega) (by first | omega | decide) _ _) ?_)
      rintro _ _ ⟨rfl,rfl⟩
      cases hsp:I0 s (mB #[35,120])
      all_goals simp only [Bool.false_eq_true,if_false,if_true]
      ·
       have hp44:¬ s.data.toList.take 2=[35,120]:=(N3 _ _).1 hsp
       refine B5 (E':=[⟨0,[],.string s⟩,⟨3,[],.string s⟩,⟨4,[],.bool false⟩]) [0,0,0,0,0] [0,3,4] (k:=A0 ?_)
       refine A1 (G_p [0] [0,3,25] (k:=?_))
       refine A0 (D3 kr ?_)
       refine B4 (A0 ?_)
       refine A1 (A1 ?_)
       refine A3 (A4 (j:=1) [0] (k:=?_))
       refine E7 Tryz.func124 (cutP_ s (mB #[35,88]) (by omega) (by first | omega | decide) _ _) ?_
       rintro _ _ ⟨rfl,rfl⟩
       cases hsp:I0 s (mB #[35,88])
       all_goals simp only [Bool.false_eq_true,if_false,if_true]
       ·
        have hp47:¬ s.data.toList.take 2=[35,88]:=(N3 _ _).1 hsp
        refine B1 [0,0,0,0,0] [0,5,6] (k:=A0 ?_)
        refine A1 (G_p [0] [0,5,33] (k:=?_))
        refine A0 (D3 kr ?_)
        refine B4 (A0 ?_)
        refine A1 (A1 ?_)
        refine A3 (A4 (j:=1) [0] (k:=?_))
        refine E7 Tryz.func124 (cutP_ s (mB #[35]) (by omega) (by first | omega | decide) _ _) ?_
        rintro _ _ ⟨rfl,rfl⟩
        cases hsp:I0 s (mB #[35])
        all_goals simp only [Bool.false_eq_true,if_false,if_true]
        ·
         have hp50:¬ s.data.toList.take 1=[35]:=(N3 _ _).1 hsp
         refine B1 [0,0,0,0,0] [7,8] (k:=A0 ?_)
         refine A1 (G_p [0] [7,41] (k:=?_))
         refine A0 (D3 kr ?_)
         refine B4 (A0 ?_)
         refine A1 (C3 (E':=[⟨2,[],.int .i64 (-1)⟩]) [0] [2] (k:=?_))
         refine A0 (C5 ?_)
         refine B9 [.tmp 2] [.int .i64 (-1)] (k:=?_)
         exact ⟨congrArg (Value.int .i64) (by unfold refM; rw [if_neg e0,if_neg e1,if_neg e2,if_neg e3,if_neg e4,if_neg hp44,if_neg hp47,if_neg hp50]),rfl⟩
        ·
         have hp50:s.data.toList.take 1=[35]:=(N4 _ _).1 hsp
         refine B1 [0,0,0,0,0] [7,8] (k:=A0 ?_)
         refine A1 (G_p [0] [7,41] (k:=?_))
         refine A0 (C4 kr ?_)
         refine A1 (A3 ?_)
         refine A4 (j:=1) [0] (k:=E7 Tryz.func206 (number10_ (s.extract (mB #[35]).size s.size) (by first | omega | (rw [ByteArray.size_extract]; omega)) _ _ hW) ?_)
         rintro _ _ ⟨rfl,rfl⟩
         refine B5 (E':=[⟨2,[],.int .i64 (J5 (s.extract (mB #[35]).size s.size).data.toList 10 7)⟩]) [0] [2] (k:=A0 ?_)
         refine C5 (B2 ?_)
         refine B9 [.tmp 2] [.int .i64 (J5 (s.extract (mB #[35]).size s.size).data.toList 10 7)] (k:=?_)
         exact ⟨congrArg (Value.int .i64) (by unfold refM; rw [if_neg e0,if_neg e1,if_neg e2,if_neg e3,if_neg e4,if_neg hp44,if_neg hp47,if_pos hp50,P0]; rfl),rfl⟩
       ·
        have hp47:s.data.toList.take 2=[35,88]:=(N4 _ _).1 hsp
        refine B1 [0,0,0,0,0] [0,5,6] (k:=A0 ?_)
        refine A1 (G_p [0] [0,5,33] (k:=?_))
        refine A0 (C4 kr ?_)
        refine A1 (A3 ?_)
        refine A4 (j:=1) [0] (k:=E7 Tryz.func206 (number16_ (s.extract (mB #[35,88]).size s.size) (by first | omega | (rw [ByteArray.size_extract]; omega)) _ _ hW) ?_)
        rintro _ _ ⟨rfl,rfl⟩
        refine B1 [0] [2] (k:=A0 ?_)
        refine C5 (B2 ?_)
        refine B9 [.tmp 2] [.int .i64 (J5 (s.extract (mB #[35,88]).size s.size).data.toList 16 6)] (k:=?_)
        exact ⟨congrArg (Value.int .i64) (by unfold refM; rw [if_neg e0,if_neg e1,if_neg e2,if_neg e3,if_neg e4,if_neg hp44,if_pos hp47,P0]; rfl),rfl⟩
      ·
       have hp44:s.data.toList.take 2=[35,120]:=(N4 _ _).1 hsp
       refine B5 (E':=[⟨0,[],.string s⟩,⟨3,[],.string (s.extract (mB #[35,120]).size s.size)⟩,⟨4,[],.bool true⟩]) [0,0,0,0,0] [0,3,4] (k:=A0 ?_)
       refine A1 (G_p [0] [0,3,25] (k:=?_))
       refine A0 (C4 kr ?_)
       refine A1 (A3 ?_)
       refine A4 (j:=1) [0] (k:=E7 Tryz.func206 (number16_ (s.extract (mB #[35,120]).size s.size) (by first | omega | (rw [ByteArray.size_extract]; omega)) _ _ hW) ?_)
       rintro _ _ ⟨rfl,rfl⟩
       refine B1 [0] [2] (k:=A0 ?_)
       refine C5 (B2 ?_)
       refine B9 [.tmp 2] [.int .i64 (J5 (s.extract (mB #[35,120]).size s.size).data.toList 16 6)] (k:=?_)
       exact ⟨congrArg (Value.int .i64) (by unfold refM; rw [if_neg e0,if_neg e1,if_neg e2,if_neg e3,if_neg e4,if_pos hp44,P0]; rfl),rfl⟩
theorem unhtml_ (s:ByteArray) (hs:s.size≤10000000000) (W0:World) (H:List Grp) (hW:R5 W0):Tri Tryz.prog 169 #[.string s] W0 H (fun v H'=>v=.string ⟨(unL s.data.toList).toArray⟩∧H'=H):=by
 refine D0 (args:=[.string s]) (n:=41) Tryz.func169 rfl rfl (Nat.le_of_ble_eq_true rfl) ?_
 refine A1 (C3 (E':=[⟨0,[],.string s⟩]) [0] [0] (k:=?_))
 refine A0 (A1 ?_)
 refine A3 (H5 (ch:=[]) (z:=.agg #[.pointer none,.slice none 0 0]) (k:=(fun b1=>?_)))
 refine H4 rfl (H':=([(b1,.cells #[.pointer none,.slice none 0 0] 87 (0,0))]::[]::H)) (fun w h=>h.flat (List.Perm.refl _)) (B5 (E':=[⟨0,[],.string s⟩,⟨3,[],pt b1⟩]) [] [0,3] (k:=?_))
 refine A0 (B8 ?_)
 refine L4 (EI:=(fun ξ:Value × Value × Grp × ByteArray × ByteArray=>[⟨0,[],.string ξ.2.2.2.2⟩,⟨3,[],pt b1⟩])) (HI:=(fun ξ:Value × Value × Grp × ByteArray × ByteArray=>([(b1,.cells #[ξ.1,ξ.2.1] 87 (0,0))]::ξ.2.2.1::H))) (Φ:=(fun ξ:Value × Value × Grp × ByteArray × ByteArray=>(Bld b1 ξ.1)∧(BOwn ξ.2.1 ξ.2.2.1 ξ.2.2.2.1)∧(ξ.2.2.2.2.size≤s.size)∧(ξ.2.2.2.1.size+4 * ξ.2.2.2.2.size≤4 * s.size)∧(ξ.2.2.2.1.data.toList++unL ξ.2.2.2.2.data.toList=unL s.data.toList))) (μ:=(fun ξ:Value × Value × Grp × ByteArray × ByteArray=>ξ.2.2.2.2.size)) (s0:=(.pointer none,.slice none 0 0,[],.empty,s)) [0,3] kr rfl ⟨bld0,bown0,(Nat.le_refl _),(by show 0+4 * s.size≤4 * s.size; omega),(by rfl)⟩ ?_
 rintro ⟨p,v,g,t,sv⟩ ⟨hbp,hB,hz,hts,hT⟩
 dsimp only at hbp hB hz hts hT
 refine B8 (A1 ?_)
 refine A3 (A4 (j:=1) [0] (k:=?_))
 refine E7 Tryz.func168 (idx_ sv 38 _ _) ?_
 rintro _ _ ⟨rfl,rfl⟩
 rcases bIdx_spec sv (c:=38) (by decide) (by decide) with ⟨k,hk,hik,hbk,hnk⟩ | ⟨hik,hnk⟩
 all_goals rw [hik]
 ·
  have hz1:(sv.extract k sv.size).size=sv.size - k:=sz_drop sv k
  have hz0:(sv.extract 0 k).size=k:=by rw [ByteArray.size_extract]; omega
  have hz4:((sv.extract k sv.size).extract 1 (sv.extract k sv.size).size).size=sv.size - k - 1:=by rw [sz_drop,hz1]
  refine B1 [0] [0,3,4] (k:=A0 ?_)
  refine A1 (A1 ?_)
  refine G_p [0,0] [0,3,4,10] (k:=A0 ?_)
  refine B7 (b:=decide (((k:Nat):Int)<0)) kr (fun hc2=>?_) (fun hc2=>?_)
  ·
   simp only [decide_eq_true_eq] at hc2; omega
  ·
   skip
   refine B4 (A0 ?_)
   refine A1 (A3 ?_)
   refine A4 (j:=2) [0,0] (k:=H8 (ch:=[]) (s:=sv) (vl:=none) (vh:=(some (.int .i64 ((k:Nat):Int)))) (l:=0) (h:=((k:Nat):Int)) (hb:=(by omega)) (k:=?_))
   refine E7 Tryz.func90 (M6 b1 (p) (v) g t (sv.extract 0 k) hbp hB (by (try simp only [I3]); omega) _ _) ?_
   rintro _ _ ⟨v3,g4,hB5,rfl⟩
   refine B1 [] [0,3,4] (k:=A0 ?_)
   refine A1 (A3 ?_)
   refine A4 (j:=2) [0,0] (k:=H8 (ch:=[]) (s:=sv) (vl:=(some (.int .i64 ((k:Nat):Int)))) (vh:=none) (l:=((k:Nat):Int)) (h:=(sv.size:Int)) (hb:=(by omega)) (k:=?_))
   refine B1 [0] [0,3] (k:=A0 ?_)
   refine A1 (G_p [0] [0,3,5] (k:=?_))
   refine A0 (A1 ?_)
   refine A3 (A4 (j:=1) [0] (k:=?_))
   refine E7 Tryz.func168 (idx_ (sv.extract k sv.size) 59 _ _) ?_
   rintro _ _ ⟨rfl,rfl⟩
   rcases bIdx_spec (sv.extract k sv.size) (c:=59) (by decide) (by decide) with ⟨m,hm,him,hbm,hnm⟩ | ⟨him,hnm⟩
   all_goals rw [him]
   ·
    have hz2:((sv.extract k sv.size).extract (m+1) (sv.extract k sv.size).size).size=sv.size - k - (m+1):=by rw [sz_drop,hz1]
    have hz3:((sv.extract k sv.size).extract 1 m).size=m - 1:=by rw [ByteArray.size_extract]; omega
    refine B5 (E':=[⟨0,[],.string (sv.extract k sv.size)⟩,⟨3,[],pt b1⟩,⟨5,[],.int .i64 (-1)⟩,⟨6,[],.int .i64 ((m:Nat):Int)⟩]) [0] [0,3,5,6] (k:=A0 ?_)
    refine A1 (A1 ?_)
    refine G_p [0,0] [0,3,5,6,24] (k:=A0 ?_)
    refine B7 (b:=decide (((m:Nat):Int) > 0)) kr (fun hc6=>?_) (fun hc6=>?_)
    ·
     have hm0:=m_pos hk hbk hbm
     refine A3 (A4 (j:=2) [0,0] (k:=?_))
     refine H8 (ch:=[]) (s:=sv.extract k sv.size) (vl:=(some (.int .i64 1))) (vh:=(some (.int .i64 ((m:Nat):Int)))) (l:=1) (h:=((m:Nat):Int)) (hb:=(by omega)) (k:=E7 Tryz.func187 (reference_ ((sv.extract k sv.size).extract 1 m) (by omega) _ _ hW) ?_)
     rintro _ _ ⟨rfl,rfl⟩
     refine B1 [0] [0,3,5,6] (k:=A0 ?_)
     refine A1 (A1 ?_)
     refine G_p [0,0] [0,3,5,6,30] (k:=A0 ?_)
     refine B7 (b:=decide ((refM ((sv.extract k sv.size).extract 1 m).data.toList)<0)) kr (fun hc7=>?_) (fun hc7=>?_)
     ·
      simp only [decide_eq_true_eq] at hc7
      refine A1 (A3 ?_)
      refine E7 Tryz.func92 (writeByteC b1 (pt b1) (v3) g4 (t++(sv.extract 0 k)) (Nat.toUInt8 38) bld1 hB5 (by (try simp only [I3]); omega) _ _) ?_
      rintro _ _ ⟨v8,g9,hB10,rfl⟩
      refine B1 [] [0,3] (k:=A0 ?_)
      refine A1 (A3 ?_)
      refine A4 (j:=1) [0] (k:=H8 (ch:=[]) (s:=sv.extract k sv.size) (vl:=(some (.int .i64 1))) (vh:=none) (l:=1) (h:=((sv.extract k sv.size).size:Int)) (hb:=(by omega)) (k:=?_))
      refine B1 [0] [0,3] (k:=A0 ?_)
      refine H7 (B0 ?_)
      refine C7 (E9 (s':=(pt b1,v8,g9,((t++(sv.extract 0 k))++⟨#[Nat.toUInt8 38]⟩),(sv.extract k sv.size).extract 1 (sv.extract k sv.size).size)) [0,3] kr rfl ⟨bld1,hB10,(by dsimp only; omega),(by dsimp only; simp only [I3,sz38]; omega),(by dsimp only; rw [← hT,(unB hk hbk hnk hm hbm hnm hm0).1 (by omega),J4,J4,ext_take,lit38]; simp only [List.append_assoc,List.cons_append,List.nil_append])⟩ (by dsimp only; omega))
     ·
      simp only [decide_eq_false_iff_not] at hc7
      have hri:=refM_isR (t:=((sv.extract k sv.size).extract 1 m).data.toList) (by omega)
      unfold isR at hri
      refine B4 (A0 ?_)
      refine A1 (A3 ?_)
      refine G5 (E':=[⟨35,[],.int .i32 (IntKind.wrap .i32 (refM ((sv.extract k sv.size).extract 1 m).data.toList))⟩,⟨0,[],.string (sv.extract k sv.size)⟩,⟨3,[],pt b1⟩,⟨6,[],.int .i64 ((m:Nat):Int)⟩]) (j:=2) [0,0] (k:=F0 (E':=[⟨35,[],.int .i32 (refM ((sv.extract k sv.size).extract 1 m).data.toList)⟩,⟨0,[],.string (sv.extract k sv.size)⟩,⟨3,[],pt b1⟩,⟨6,[],.int .i64 ((m:Nat):Int)⟩]) (by rw [w32i (by omega) (by omega)]) ?_)
      refine E7 Tryz.func136 (writeRune b1 (pt b1) (v3) g4 (t++(sv.extract 0 k)) (refM ((sv.extract k sv.size).extract 1 m).data.toList) bld1 hB5 (refM_isR (by omega)) (by (try simp only [I3]); omega) _ _) ?_
      rintro _ _ ⟨v11,g12,hB13,rfl⟩
      refine B1 [] [0,3,6] (k:=A0 ?_)
      refine A3 (A4 (j:=3) [0,0,0] (k:=?_))
      refine F6 39 (((m:Nat):Int)+1) (by omega) (by omega) kr (H8 (ch:=[]) (s:=sv.extract k sv.size) (vl:=(some (.int .i64 (((m:Nat):Int)+1)))) (vh:=none) (l:=((m:Nat):Int)+1) (h:=((sv.extract k sv.size).size:Int)) (hb:=(by omega)) (k:=?_))
      refine F0 (E':=[⟨40,[],.string ((sv.extract k sv.size).extract (m+1) (sv.extract k sv.size).size)⟩,⟨39,[],.int .i64 (((m:Nat):Int)+1)⟩,⟨38,[],.int .i64 ((m:Nat):Int)⟩,⟨37,[],.string (sv.extract k sv.size)⟩,⟨0,[],.string (sv.extract k sv.size)⟩,⟨3,[],pt b1⟩,⟨6,[],.int .i64 ((m:Nat):Int)⟩]) (by have hz:([⟨40,[],.string ((sv.extract k sv.size).extract (Int.toNat (((m:Nat):Int)+1)) (sv.extract k sv.size).size)⟩,⟨39,[],.int .i64 (((m:Nat):Int)+1)⟩,⟨38,[],.int .i64 ((m:Nat):Int)⟩,⟨37,[],.string (sv.extract k sv.size)⟩,⟨0,[],.string (sv.extract k sv.size)⟩,⟨3,[],pt b1⟩,⟨6,[],.int .i64 ((m:Nat):Int)⟩]:List Sl)=[⟨40,[],.string ((sv.extract k sv.size).extract (m+1) (sv.extract k sv.size).size)⟩,⟨39,[],.int .i64 (((m:Nat):Int)+1)⟩,⟨38,[],.int .i64 ((m:Nat):Int)⟩,⟨37,[],.string (sv.extract k sv.size)⟩,⟨0,[],.string (sv.extract k sv.size)⟩,⟨3,[],pt b1⟩,⟨6,[],.int .i64 ((m:Nat):Int)⟩]:=(by rw [toNat1]); exact Eq.trans kr hz) (B1 [0] [0,3] (k:=?_))
      refine C6 (E9 (s':=(pt b1,v11,g12,((t++(sv.extract 0 k))++encB (refM ((sv.extract k sv.size).extract 1 m).data.toList)),(sv.extract k sv.size).extract (m+1) (sv.extract k sv.size).size)) [0,3] kr rfl ⟨bld1,hB13,(by dsimp only; omega),(by dsimp only; have he:=encB_size (refM ((sv.extract k sv.size).extract 1 m).data.toList); simp only [I3]; omega),(by dsimp only; rw [← hT,(unB hk hbk hnk hm hbm hnm hm0).2 (by omega),J4,J4,Q3,ext_take]; simp only [List.append_assoc])⟩ (by dsimp only; omega))
    ·
     exact absurd (m_pos hk hbk hbm) (by simp only [gt_iff_lt,decide_eq_false_iff_not] at hc6; omega)
   ·
    refine B5 (E':=[⟨0,[],.string (sv.extract k sv.size)⟩,⟨3,[],pt b1⟩,⟨5,[],.int .i64 (-1)⟩,⟨6,[],.int .i64 (-1)⟩]) [0] [0,3,5,6] (k:=A0 ?_)
    refine A1 (A1 ?_)
    refine G_p [0,0] [0,3,5,6,24] (k:=A0 ?_)
    refine D3 kr (B4 ?_)
    refine A0 (A1 ?_)
    refine A1 (G_p [0,0] [0,3,5,6,30] (k:=?_))
    refine A0 (C4 kr ?_)
    refine A1 (A3 ?_)
    refine E7 Tryz.func92 (writeByteC b1 (pt b1) (v3) g4 (t++(sv.extract 0 k)) (Nat.toUInt8 38) bld1 hB5 (by (try simp only [I3]); omega) _ _) ?_
    rintro _ _ ⟨v15,g16,hB17,rfl⟩
    refine B1 [] [0,3] (k:=A0 ?_)
    refine A1 (A3 ?_)
    refine A4 (j:=1) [0] (k:=H8 (ch:=[]) (s:=sv.extract k sv.size) (vl:=(some (.int .i64 1))) (vh:=none) (l:=1) (h:=((sv.extract k sv.size).size:Int)) (hb:=(by omega)) (k:=?_))
    refine B1 [0] [0,3] (k:=A0 ?_)
    refine H7 (B0 ?_)
    refine C7 (E9 (s':=(pt b1,v15,g16,((t++(sv.extract 0 k))++⟨#[Nat.toUInt8 38]⟩),(sv.extract k sv.size).extract 1 (sv.extract k sv.size).size)) [0,3] kr rfl ⟨bld1,hB17,(by dsimp only; omega),(by dsimp only; simp only [I3,sz38]; omega),(by dsimp only; rw [← hT,unA hk hbk hnk hnm,J4,J4,ext_take,lit38]; simp only [List.append_assoc,List.cons_append,List.nil_append])⟩ (by dsimp only; omega))
 ·
  refine B1 [0] [0,3,4] (k:=A0 ?_)
  refine A1 (A1 ?_)
  refine G_p [0,0] [0,3,4,10] (k:=A0 ?_)
  refine C4 kr (A1 ?_)
  refine A3 (A4 (j:=1) [0] (k:=?_))
  refine E7 Tryz.func90 (M6 b1 (p) (v) g t sv hbp hB (by (try simp only [I3]); omega) _ _) ?_
  rintro _ _ ⟨v18,g19,hB20,rfl⟩
  refine B5 (E':=[⟨3,[],pt b1⟩]) [] [3] (k:=A0 ?_)
  refine A1 (A3 ?_)
  refine E7 Tryz.func53 (X4 b1 (pt b1) (v18) g19 (t++sv) hB20 (by (try simp only [I3]); omega) _ _) ?_
  rintro _ _ ⟨rfl,rfl⟩
  refine B5 (E':=[⟨2,[],.string (t++sv)⟩]) [0] [2] (k:=A0 ?_)
  refine C5 (B2 ?_)
  refine D6 (B2 ?_)
  refine D6 (C1 (H':=H) (fun w h=>(h.erase 0)) ?_)
  refine B9 [.tmp 2] [.string (t++sv)] (k:=?_)
  exact ⟨congrArg Value.string (ba_eq (by rw [← hT,unC hnk,J4])),rfl⟩
end Go.Proofs.YtppgfiklmfoaeaaGreatDoor
namespace Go.Xml
open Go.Esc Go.Json
theorem X1 {c:UInt8}:∀ {l:List UInt8} {i:Nat},idxL [c] l=some i→l=l.take i++c::l.drop (i+1)∧(∀ b∈l.take i,b≠c)∧i<l.length
  | [],i,h=>by cases h
  | b::l,i,h=>by
    rw [idxL] at h
    by_cases hb:b=c
    · subst hb
      rw [if_pos (by simp [List.isPrefixOf])] at h
      injection h with h; subst h
      exact ⟨rfl,fun _ h=>absurd h List.not_mem_nil,Nat.succ_pos _⟩
    · rw [if_neg (by simpa [List.isPrefixOf] using fun e=>hb e.symm)] at h
      cases hi:idxL [c] l with
      | none=>rw [hi] at h; cases h
      | some j =>
        rw [hi] at h
        injection h with h; subst h
        obtain ⟨h1,h2,h3⟩:=X1 hi
        refine ⟨?_,fun x hx=>?_,by simpa using h3⟩
        · show b::l=b::(l.take j++c::l.drop (j+1)); rw [← h1]
        · rcases List.mem_cons.1 (show x∈b::l.take j from hx) with rfl | hx
          · exact hb
          · exact h2 x hx
theorem idx_no {c:UInt8} {l:List UInt8} (h:idxL [c] l=none):∀ b∈l,b≠c:=by
  intro b hb e
  have:=idx_mem c l
  rw [h] at this
  subst e
  simp [hb] at this
theorem piecesC_keep (c:UInt8):∀ (a t:List UInt8),(∀ b∈a,b≠c)→A8 c (a++t)=(a++(A8 c t).1,(A8 c t).2)
  | [],t,_=>rfl
  | b::a,t,h=>by
    rw [List.cons_append,A8,piecesC_keep c a t (fun x hx=>h x (List.mem_cons_of_mem _ hx))]
    dsimp only
    rw [if_neg (h b List.mem_cons_self)]; rfl
theorem pieces_sign (c:UInt8) (t:List UInt8):A8 c (c::t)=([],(A8 c t).1::(A8 c t).2):=by
  rw [A8]; (try dsimp only); rw [if_pos rfl]
theorem split_pieces (c:UInt8):∀ (n:Nat) (s:List UInt8),s.length≤n→Lib.splitK [c] 0 (Lib.count s [c]) s=(A8 c s).1::(A8 c s).2∧Lib.count s [c]=(A8 c s).2.length:=by
  intro n
  induction n with
  | zero =>
    intro s h
    have:s=[]:=List.eq_nil_of_length_eq_zero (by omega)
    subst this
    rw [Lib.count_miss (by rw [idx_lib]; rfl)]
    exact ⟨rfl,rfl⟩
  | succ n ih =>
    intro s h
    have hx:=idx_lib s [c]
    cases hi:idxL [c] s with
    | none =>
      rw [hi] at hx
      rw [Lib.count_miss hx]
      have h1:=piecesC_keep c s [] (idx_no hi)
      rw [List.append_nil] at h1
      have h2:A8 c s=(s,[]):=by rw [h1]; show (s++[],[])=_; rw [List.append_nil]
      rw [h2]; exact ⟨rfl,rfl⟩
    | some i =>
      rw [hi] at hx
      dsimp only at hx
      obtain ⟨h1,h2,h3⟩:=X1 hi
      obtain ⟨h4,h5⟩:=ih (s.drop (i+1)) (by clear hx; rw [List.length_drop]; have:=Nat.zero_le i; omega)
      have h6:A8 c s=(s.take i,(A8 c (s.drop (i+1))).1::(A8 c (s.drop (i+1))).2):=by
        conv=>lhs; rw [h1]
        rw [piecesC_keep c _ _ h2,pieces_sign,List.append_nil]
      have h7:=Lib.count_hit (s:=s) (sub:=[c]) (by simp) hx
      have h8:([c]:List UInt8).length=1:=rfl
      rw [h8] at h7
      rw [h7,h6]
      dsimp only
      refine ⟨?_,by rw [h5,List.length_cons]; omega⟩
      rw [Nat.add_comm 1,Lib.splitK,if_neg (by rw [hx,beq_iff_eq]; have:=Int.natCast_nonneg i; omega),hx,Int.toNat_natCast,Nat.add_zero,h8,h4]
theorem bidx_none {p:List UInt8} (h:idxL [59] p=none):Go.Sw.bIdx (bk p) 59=-1:=by
  refine Go.Sw.bIdx_none (by decide) (by decide) (fun j hj he=>?_)
  rw [byteJ] at he
  rw [D9] at hj
  have hm:p.getD j 0∈p:=by rw [show p.getD j 0=p[j] by simp [List.getD,hj]]; exact List.getElem_mem hj
  exact idx_no h _ hm (UInt8.toNat_inj.1 (by show (p.getD j 0).toNat=59; omega))
theorem bidx_some {p:List UInt8} {i:Nat} (h:idxL [59] p=some i):Go.Sw.bIdx (bk p) 59=i:=by
  obtain ⟨h1,h2,h3⟩:=X1 h
  refine Go.Sw.bIdx_eq (by decide) (by decide) (by rw [D9]; exact h3) ?_ (fun j hj he=>?_)
  · rw [byteJ]
    have:p.getD i 0=59:=by
      conv=>lhs; rw [h1]
      simp [List.getD,List.length_take,Nat.min_eq_left (Nat.le_of_lt h3)]
    rw [this]; rfl
  · rw [byteJ] at he
    have hm:p.getD j 0∈p.take i:=by
      rw [show p.getD j 0=p[j]'(by omega) by simp [List.getD,show j<p.length by omega]]
      rw [List.mem_take_iff_getElem]
      exact ⟨j,by omega,rfl⟩
    exact h2 _ hm (UInt8.toNat_inj.1 (by show (p.getD j 0).toNat=59; omega))
theorem flt_flt (e f:Int) (q:XS) (he:e≠0):E3 f (E3 e q)=E3 e q:=by
  by_cases h:q.2=0
  · rw [flt_0 h]; exact flt_ne he
  · rw [flt_ne h,flt_ne h]
theorem bad_none {p:List UInt8} (h:idxL [59] p=none):badX p=true:=by unfold badX; rw [h]
theorem bad_some {p:List UInt8} {i:Nat} (h:idxL [59] p=some i):badX p=(unL (38::p.take (i+1))==38::p.take (i+1)):=by unfold badX; rw [h]
def pcX (ps:List (List UInt8)) (k:Nat) (q:XS):XS:=if (ps.take k).any badX then E3 70 q else q
theorem pcX_0 (ps:List (List UInt8)) (q:XS):pcX ps 0 q=q:=by unfold pcX; rw [List.take_zero]; rfl
theorem pcX_bad {ps:List (List UInt8)} {k:Nat} {q:XS} (h:k<ps.length) (hb:badX ps[k]=true):pcX ps (k+1) q=E3 70 (pcX ps k q):=by
  unfold pcX
  rw [List.take_succ_eq_append_getElem h,List.any_append,List.any_cons,List.any_nil,hb,Bool.or_false,Bool.or_true,if_pos rfl]
  split
  · rw [flt_flt _ _ _ (by decide)]
  · rfl
theorem pcX_good {ps:List (List UInt8)} {k:Nat} {q:XS} (h:k<ps.length) (hb:badX ps[k]=false):pcX ps (k+1) q=pcX ps k q:=by
  unfold pcX
  rw [List.take_succ_eq_append_getElem h,List.any_append,List.any_cons,List.any_nil,hb,Bool.or_false,Bool.or_false]
theorem refs_yes {s:List UInt8} {q:XS} (h:I6 (unL (A7 s))≠unL (A7 s)):G7 s q=(unL (A7 s),E3 70 (pcX (A8 38 (A7 s)).2 (A8 38 (A7 s)).2.length q)):=by
  unfold G7 pcX; dsimp only; rw [List.take_length,if_pos h]
theorem refs_no {s:List UInt8} {q:XS} (h:I6 (unL (A7 s))=unL (A7 s)):G7 s q=(unL (A7 s),pcX (A8 38 (A7 s)).2 (A8 38 (A7 s)).2.length q):=by
  unfold G7 pcX; dsimp only; rw [List.take_length,if_neg (fun hn=>hn h)]
theorem pieces_len (c:UInt8):∀ (l:List UInt8),(A8 c l).1.length≤l.length∧(∀ p∈(A8 c l).2,p.length≤l.length)∧(A8 c l).2.length≤l.length
  | []=>⟨Nat.le_refl _,fun _ h=>absurd h List.not_mem_nil,Nat.le_refl _⟩
  | b::l=>by
    obtain ⟨h1,h2,h3⟩:=pieces_len c l
    rw [A8]; (try dsimp only)
    split
    · refine ⟨Nat.zero_le _,fun p hp=>?_,by simp only [List.length_cons]; omega⟩
      rcases List.mem_cons.1 hp with rfl | hp
      · rw [List.length_cons]; omega
      · have:=h2 p hp; rw [List.length_cons]; omega
    · refine ⟨by simp only [List.length_cons]; omega,fun p hp=>?_,by simp only [List.length_cons]; omega⟩
      have:=h2 p hp; rw [List.length_cons]; omega
end Go.Xml
namespace Go.Proofs.YtppgfiklmfoaeaaGreatDoor
open Go.Sw Go.Sha Go.Esc Go.RowKit Go.Json Go.Xml
theorem Tri_alloc {P:Program} {f:FuncId} {args:Array Value} {W0:World} {H:List Grp} {v:Nat→Value} {o:Obj} (h:∀ w,Sat W0 H w→Calls P f args w fun e w'=>e=.returned (v w.heap.size)∧w'=w.alloc o):Tri P f args W0 H (fun u H'=>∃ b,u=v b∧H'=[(b,o)]::H) :=
  fun w hs=>(h w hs).mono fun e w' ⟨he,hw⟩=>⟨_,_,he,⟨w.heap.size,rfl,rfl⟩,by subst hw; exact hs.new rfl rfl rfl rfl⟩
theorem splitW (l:List UInt8) (hl:l.length≤1000000000) (W0:World) (H:List Grp) (hX:R2 W0):Tri Tryz.prog 167 #[.string (bk l),.string (mB #[38])] W0 H (fun v H'=>∃ b,v=.slice (some ⟨b,0,none⟩) ((A8 38 l).2.length+1) ((A8 38 l).2.length+1)∧H'=[(b,.cells (strV ((A8 38 l).1::(A8 38 l).2)).toArray 9 (0,0))]::H):=by
  obtain ⟨m,h1,h2⟩:=hX.max
  have hs:=split_pieces 38 l.length l (Nat.le_refl _)
  have hc:Lib.countB (bk l) (mB #[38])=(A8 38 l).2.length:=hs.2
  have hd:(Lib.splitB (mB #[38]) 0 (Lib.countB (bk l) (mB #[38])) (bk l)).map Value.string=strV ((A8 38 l).1::(A8 38 l).2):=by
    have h3:=Lib.splitB_data (mB #[38]) 0 (Lib.countB (bk l) (mB #[38])) (bk l)
    have h4:Lib.splitK [38] 0 (Lib.countB (bk l) (mB #[38])) l=(A8 38 l).1::(A8 38 l).2:=hs.1
    rw [← h4]
    have h5:(Lib.splitB (mB #[38]) 0 (Lib.countB (bk l) (mB #[38])) (bk l)).map (·.data.toList)=Lib.splitK [38] 0 (Lib.countB (bk l) (mB #[38])) l:=h3
    rw [← h5]
    unfold strV
    rw [List.map_map]
    rfl
  refine (Tri_alloc (v:=fun b=>.slice (some ⟨b,0,none⟩) (Lib.countB (bk l) (mB #[38])+1) (Lib.countB (bk l) (mB #[38])+1)) (o:=.cells ((Lib.splitB (mB #[38]) 0 (Lib.countB (bk l) (mB #[38])) (bk l)).map Value.string).toArray 9 (0,0)) (fun w' hs=>Tryz.strings_Split (bk l) (mB #[38]) m w' (by rw [D9]; omega) (cell_base hs h1 h2) (Nat.le_refl _))).post fun v H' ⟨b,hv,hH⟩=>⟨H',⟨b,?_,?_⟩,fun _ h=>h⟩
  · rw [hv,hc]
  · rw [hH,hd]
theorem rd_tail {b:Nat} {v:Value} {cs:List Value} {e:TypeId} {fz:Nat × Nat}:Rd (inG [(b,.cells (v::cs).toArray e fz)]) (some ⟨b,1,none⟩) cs :=
  .inr ⟨b,1,_,_,_,rfl,List.mem_singleton.2 rfl,fun j u h=>by rw [List.getElem?_toArray,Nat.add_comm,List.getElem?_cons_succ]; exact h⟩
theorem rd_cut {b n:Nat} {v:Value} {cs:List Value} {e:TypeId} {fz:Nat × Nat} (hn:cs.length+1=n):Rd (inG [(b,.cells (v::cs).toArray e fz)]) (cutA (some ⟨b,0,none⟩) n 1 1) cs:=by
  cases cs with
  | nil=>exact .inl rfl
  | cons u t=>rw [Go.Sw.cut_some (by rw [← hn,List.length_cons]; omega)]; exact rd_tail
theorem cat38 (l:List UInt8):(mB #[38])++bk l=bk (38::l):=by
  apply ByteArray.ext; apply Array.ext'
  rw [ByteArray.data_append,Array.toList_append]; rfl
theorem xrefs_ (r:Nat) (q:XS) (s:List UInt8) (hs:s.length≤1000000) (W0:World) (H:List Grp) (hX:R2 W0):Tri Tryz.prog 144 #[pt r,.string (bk s)] W0 ([(r,.cells #[.string (bk q.1),.int .i64 q.2] 97 (0,0))]::H) (fun v H'=>v=.string (bk (G7 s q).1)∧H'=rdX r (G7 s q).2::H):=by
 have hW:R5 W0:=hX.base
 have hls:=S6 s
 obtain ⟨hp0,hp1,hp2⟩:=pieces_len 38 (A7 s)
 refine D0 (args:=[pt r,.string (bk s)]) (n:=50) Tryz.func144 rfl rfl (Nat.le_of_ble_eq_true rfl) ?_
 refine A1 (C3 (E':=[⟨0,[],pt r⟩,⟨1,[],.string (bk s)⟩]) [0] [0,1] (k:=?_))
 refine A0 (A1 ?_)
 refine A3 (D5 (ch:=[]) (e:=9) (l:=[(0,.string (mB #[13,10])),(1,.string (mB #[10])),(2,.string (mB #[13])),(3,.string (mB #[10]))]) (c:=[.string (mB #[13,10]),.string (mB #[10]),.string (mB #[13]),.string (mB #[10])]) (k:=(fun b1=>?_)))
 refine E7 Tryz.func148 (newRepC_ b1 _ _) ?_
 rintro _ _ ⟨rb2,ra2,rcap2,rg2,rfl,hOwn2,rfl⟩
 have hRT2:Rd (inG rg2) ra2 crT:=by
  obtain ⟨a2,c2,e,_,h⟩:=hOwn2.shape
  injection e with e1; subst e1; exact h
 refine A4 (j:=3) [0] (k:=E7 Tryz.func149 (crReplace_ rb2 ra2 rcap2 rg2 hRT2 s (by omega) _ _) ?_)
 rintro _ _ ⟨rfl,rfl⟩
 refine B1 [0] [0,1] (k:=A0 ?_)
 refine A1 (A1 ?_)
 refine A3 (A4 (j:=1) [0] (k:=?_))
 refine E7 Tryz.func167 (splitW (A7 s) (by omega) _ _ hX) ?_
 rintro _ _ ⟨sb,rfl,rfl⟩
 refine GL_sliceL (ch:=[]) (a:=(some ⟨sb,0,none⟩)) (len:=((A8 38 (A7 s)).2.length+1)) (cap:=((A8 38 (A7 s)).2.length+1)) (e:=9) (sz:=1) (vl:=(some (.int .i64 1))) (vh:=none) (l:=1) (h:=((((A8 38 (A7 s)).2.length+1):Nat):Int)) (hb:=(by intro _; exact ⟨by omega,by omega,by omega⟩)) (k:=?_)
 obtain ⟨sa,hsa⟩:∃ sa,sa=cutA (some ⟨sb,0,none⟩) ((A8 38 (A7 s)).2.length+1) 1 1:=⟨_,rfl⟩
 have hrs:Rd (inG [(sb,.cells (strV ((A8 38 (A7 s)).1::(A8 38 (A7 s)).2)).toArray 9 (0,0))]) sa (strV (A8 38 (A7 s)).2):=by rw [hsa]; exact rd_cut (congrArg (·+1) (strV_len _))
 refine F0 (E':=[⟨14,[],.slice sa ((A8 38 (A7 s)).2.length) ((A8 38 (A7 s)).2.length)⟩,⟨13,[],.slice (some ⟨sb,0,none⟩) ((A8 38 (A7 s)).2.length+1) ((A8 38 (A7 s)).2.length+1)⟩,⟨12,[],.string (bk (A7 s))⟩,⟨0,[],pt r⟩,⟨1,[],.string (bk (A7 s))⟩]) (by have hz:([⟨14,[],.slice (cutA (some ⟨sb,0,none⟩) ((A8 38 (A7 s)).2.length+1) 1 1) ((Int.toNat ((((A8 38 (A7 s)).2.length+1):Nat):Int)) - 1) (((A8 38 (A7 s)).2.length+1) - 1)⟩,⟨13,[],.slice (some ⟨sb,0,none⟩) ((A8 38 (A7 s)).2.length+1) ((A8 38 (A7 s)).2.length+1)⟩,⟨12,[],.string (bk (A7 s))⟩,⟨0,[],pt r⟩,⟨1,[],.string (bk (A7 s))⟩]:List Sl)=[⟨14,[],.slice sa ((A8 38 (A7 s)).2.length) ((A8 38 (A7 s)).2.length)⟩,⟨13,[],.slice (some ⟨sb,0,none⟩) ((A8 38 (A7 s)).2.length+1) ((A8 38 (A7 s)).2.length+1)⟩,⟨12,[],.string (bk (A7 s))⟩,⟨0,[],pt r⟩,⟨1,[],.string (bk (A7 s))⟩]:=(by rw [← hsa,Int.toNat_natCast,Nat.add_sub_cancel]); exact Eq.trans kr hz) (B1 [0,0] [0,1,14,15,16] (k:=?_))
 refine A0 (B8 ?_)
 refine G_heap (H':=([(sb,.cells (strV ((A8 38 (A7 s)).1::(A8 38 (A7 s)).2)).toArray 9 (0,0))]::[(b1,.cells #[.string (mB #[13,10]),.string (mB #[10]),.string (mB #[13]),.string (mB #[10])] 9 (0,0))]::[(r,.cells #[.string (bk (pcX (A8 38 (A7 s)).2 0 q).1),.int .i64 ((pcX (A8 38 (A7 s)).2 0 q).2)] 97 (0,0))]::H)) (fun w h=>by rw [pcX_0]; exact h) (L4 (EI:=(fun ξ:Nat=>[⟨0,[],pt r⟩,⟨1,[],.string (bk (A7 s))⟩,⟨14,[],.slice sa ((A8 38 (A7 s)).2.length) ((A8 38 (A7 s)).2.length)⟩,⟨15,[],.int .i64 (((A8 38 (A7 s)).2.length:Nat):Int)⟩,⟨16,[],.int .i64 ((ξ:Nat):Int)⟩])) (HI:=(fun ξ:Nat=>([(sb,.cells (strV ((A8 38 (A7 s)).1::(A8 38 (A7 s)).2)).toArray 9 (0,0))]::[(b1,.cells #[.string (mB #[13,10]),.string (mB #[10]),.string (mB #[13]),.string (mB #[10])] 9 (0,0))]::[(r,.cells #[.string (bk (pcX (A8 38 (A7 s)).2 ξ q).1),.int .i64 ((pcX (A8 38 (A7 s)).2 ξ q).2)] 97 (0,0))]::H))) (Φ:=(fun ξ:Nat=>(ξ≤(A8 38 (A7 s)).2.length))) (μ:=(fun ξ:Nat=>(A8 38 (A7 s)).2.length - ξ)) (s0:=(0)) [0,1,14,15,16] kr rfl (Nat.zero_le _) ?_)
 rintro k hkl
 refine A1 (G_p [0] [0,1,14,15,16,17] (k:=?_))
 refine A0 (A1 ?_)
 refine B7 (b:=decide (((k:Nat):Int)<(((A8 38 (A7 s)).2.length:Nat):Int))) kr (fun hc3=>?_) (fun hc3=>?_)
 ·
  have hk:k<(A8 38 (A7 s)).2.length:=by have:=hc3; simp only [decide_eq_true_eq] at this; omega
  refine B4 (A0 ?_)
  refine A1 (B8 ?_)
  refine A1 (A3 ?_)
  refine A9 (ch:=[]) (a:=sa) (len:=(A8 38 (A7 s)).2.length) (cap:=(A8 38 (A7 s)).2.length) (kd:=.i64) (j:=((k:Nat):Int)) (e:=9) (sz:=1) (S:=(inG [(sb,.cells (strV ((A8 38 (A7 s)).1::(A8 38 (A7 s)).2)).toArray 9 (0,0))])) (cs:=(strV (A8 38 (A7 s)).2)) (hrd:=hrs) (hb:=(fun _=>by exact ⟨by omega,by omega,by intro h; have:=congrArg List.length h; rw [strV_len] at this; simp only [List.length_nil] at this; omega⟩)) (k:=?_)
  obtain ⟨p,hp⟩:∃ p,p=(A8 38 (A7 s)).2[k]'hk:=⟨_,rfl⟩
  have hpl:p.length≤(A7 s).length:=hp1 p (by rw [hp]; exact List.getElem_mem hk)
  have hpz:=D9 p
  refine F4 (ch:=[]) (a:=sa) (q:=k * 1) (S:=(inG [(sb,.cells (strV ((A8 38 (A7 s)).1::(A8 38 (A7 s)).2)).toArray 9 (0,0))])) (cs:=(strV (A8 38 (A7 s)).2)) (v:=.string (bk p)) (hrd:=hrs) (hS:=D4 0 rfl) (hv:=(fun _=>(by rw [Nat.mul_one,hp]; exact strV_at hk))) (k:=B1 [0] [0,1,6,14,15,16] (k:=?_))
  refine A0 (A1 ?_)
  rcases hI:idxL [59] p with _ | i
  ·
   have hbp:badX ((A8 38 (A7 s)).2[k]'hk)=true:=by rw [← hp]; exact bad_none hI
   refine A3 (A4 (j:=1) [0] (k:=?_))
   refine M5 Tryz.func168 (idx_ (bk p) 59 _ _) (F0 (E':=[⟨21,[],.int .i64 (-1)⟩,⟨20,[],.string (bk p)⟩,⟨0,[],pt r⟩,⟨1,[],.string (bk (A7 s))⟩,⟨6,[],.string (bk p)⟩,⟨14,[],.slice sa ((A8 38 (A7 s)).2.length) ((A8 38 (A7 s)).2.length)⟩,⟨15,[],.int .i64 (((A8 38 (A7 s)).2.length:Nat):Int)⟩,⟨16,[],.int .i64 ((k:Nat):Int)⟩]) (by have hz:([⟨21,[],.int .i64 (bIdx (bk p) 59)⟩,⟨20,[],.string (bk p)⟩,⟨0,[],pt r⟩,⟨1,[],.string (bk (A7 s))⟩,⟨6,[],.string (bk p)⟩,⟨14,[],.slice sa ((A8 38 (A7 s)).2.length) ((A8 38 (A7 s)).2.length)⟩,⟨15,[],.int .i64 (((A8 38 (A7 s)).2.length:Nat):Int)⟩,⟨16,[],.int .i64 ((k:Nat):Int)⟩]:List Sl)=[⟨21,[],.int .i64 (-1)⟩,⟨20,[],.string (bk p)⟩,⟨0,[],pt r⟩,⟨1,[],.string (bk (A7 s))⟩,⟨6,[],.string (bk p)⟩,⟨14,[],.slice sa ((A8 38 (A7 s)).2.length) ((A8 38 (A7 s)).2.length)⟩,⟨15,[],.int .i64 (((A8 38 (A7 s)).2.length:Nat):Int)⟩,⟨16,[],.int .i64 ((k:Nat):Int)⟩]:=(by rw [bidx_none hI]); exact Eq.trans kr hz) ?_)
   refine B1 [0] [0,1,6,7,14,15,16] (k:=A0 ?_)
   refine A1 (G_pD [0,0,0,1,1,1,1,1,1,1,1,1,1,1,1,2] [0,1,14,15,16,37] kr kr rfl kr ?_)
   refine A0 (C4 kr ?_)
   refine A3 (A4 (j:=1) [0] (k:=?_))
   refine H4 rfl (H':=([(r,.cells #[.string (bk (pcX (A8 38 (A7 s)).2 k q).1),.int .i64 ((pcX (A8 38 (A7 s)).2 k q).2)] 97 (0,0))]::[(sb,.cells (strV ((A8 38 (A7 s)).1::(A8 38 (A7 s)).2)).toArray 9 (0,0))]::[(b1,.cells #[.string (mB #[13,10]),.string (mB #[10]),.string (mB #[13]),.string (mB #[10])] 9 (0,0))]::H)) (fun w h=>(h.front (j:=2) rfl)) (E7 Tryz.func64 (M3 r (pcX (A8 38 (A7 s)).2 k q) 70 _ _) ?_)
   rintro _ _ rfl
   refine B1 [] [0,1,14,15,16] (k:=C6 ?_)
   refine A0 (A3 ?_)
   refine A4 (j:=1) [0] (k:=F6 40 (((k:Nat):Int)+1) (by omega) (by omega) kr ?_)
   refine B5 (E':=[⟨0,[],pt r⟩,⟨1,[],.string (bk (A7 s))⟩,⟨14,[],.slice sa ((A8 38 (A7 s)).2.length) ((A8 38 (A7 s)).2.length)⟩,⟨15,[],.int .i64 (((A8 38 (A7 s)).2.length:Nat):Int)⟩,⟨16,[],.int .i64 (((k:Nat):Int)+1)⟩]) [0] [0,1,14,15,16] (k:=C1 (H':=([(sb,.cells (strV ((A8 38 (A7 s)).1::(A8 38 (A7 s)).2)).toArray 9 (0,0))]::[(b1,.cells #[.string (mB #[13,10]),.string (mB #[10]),.string (mB #[13]),.string (mB #[10])] 9 (0,0))]::[(r,.cells #[.string (bk (E3 70 (pcX (A8 38 (A7 s)).2 k q)).1),.int .i64 ((E3 70 (pcX (A8 38 (A7 s)).2 k q)).2)] 97 (0,0))]::H)) (fun w h=>((h.front (j:=2) rfl).front (j:=2) rfl)) ?_)
   refine N_heq (H':=([(sb,.cells (strV ((A8 38 (A7 s)).1::(A8 38 (A7 s)).2)).toArray 9 (0,0))]::[(b1,.cells #[.string (mB #[13,10]),.string (mB #[10]),.string (mB #[13]),.string (mB #[10])] 9 (0,0))]::[(r,.cells #[.string (bk (pcX (A8 38 (A7 s)).2 (k+1) q).1),.int .i64 ((pcX (A8 38 (A7 s)).2 (k+1) q).2)] 97 (0,0))]::H)) (by rw [pcX_bad hk hbp]) (E9 (s':=(k+1)) [0,1,14,15,16] kr rfl (by omega) (by omega))
  ·
   obtain ⟨_,_,hip⟩:=X1 hI
   refine A3 (A4 (j:=1) [0] (k:=?_))
   refine M5 Tryz.func168 (idx_ (bk p) 59 _ _) (F0 (E':=[⟨21,[],.int .i64 ((i:Nat):Int)⟩,⟨20,[],.string (bk p)⟩,⟨0,[],pt r⟩,⟨1,[],.string (bk (A7 s))⟩,⟨6,[],.string (bk p)⟩,⟨14,[],.slice sa ((A8 38 (A7 s)).2.length) ((A8 38 (A7 s)).2.length)⟩,⟨15,[],.int .i64 (((A8 38 (A7 s)).2.length:Nat):Int)⟩,⟨16,[],.int .i64 ((k:Nat):Int)⟩]) (by have hz:([⟨21,[],.int .i64 (bIdx (bk p) 59)⟩,⟨20,[],.string (bk p)⟩,⟨0,[],pt r⟩,⟨1,[],.string (bk (A7 s))⟩,⟨6,[],.string (bk p)⟩,⟨14,[],.slice sa ((A8 38 (A7 s)).2.length) ((A8 38 (A7 s)).2.length)⟩,⟨15,[],.int .i64 (((A8 38 (A7 s)).2.length:Nat):Int)⟩,⟨16,[],.int .i64 ((k:Nat):Int)⟩]:List Sl)=[⟨21,[],.int .i64 ((i:Nat):Int)⟩,⟨20,[],.string (bk p)⟩,⟨0,[],pt r⟩,⟨1,[],.string (bk (A7 s))⟩,⟨6,[],.string (bk p)⟩,⟨14,[],.slice sa ((A8 38 (A7 s)).2.length) ((A8 38 (A7 s)).2.length)⟩,⟨15,[],.int .i64 (((A8 38 (A7 s)).2.length:Nat):Int)⟩,⟨16,[],.int .i64 ((k:Nat):Int)⟩]:=(by rw [bidx_some hI]); exact Eq.trans kr hz) ?_)
   refine B1 [0] [0,1,6,7,14,15,16] (k:=A0 ?_)
   refine A1 (I8 (k:=?_))
   refine G5 (E':=[⟨23,[],.bool (decide (((i:Nat):Int)<0))⟩,⟨0,[],pt r⟩,⟨1,[],.string (bk (A7 s))⟩,⟨6,[],.string (bk p)⟩,⟨7,[],.int .i64 ((i:Nat):Int)⟩,⟨14,[],.slice sa ((A8 38 (A7 s)).2.length) ((A8 38 (A7 s)).2.length)⟩,⟨15,[],.int .i64 (((A8 38 (A7 s)).2.length:Nat):Int)⟩,⟨16,[],.int .i64 ((k:Nat):Int)⟩]) (j:=2) [0,0] (k:=F0 (E':=[⟨23,[],.bool false⟩,⟨0,[],pt r⟩,⟨1,[],.string (bk (A7 s))⟩,⟨6,[],.string (bk p)⟩,⟨7,[],.int .i64 ((i:Nat):Int)⟩,⟨14,[],.slice sa ((A8 38 (A7 s)).2.length) ((A8 38 (A7 s)).2.length)⟩,⟨15,[],.int .i64 (((A8 38 (A7 s)).2.length:Nat):Int)⟩,⟨16,[],.int .i64 ((k:Nat):Int)⟩]) (by rw [show decide (((i:Nat):Int)<0)=false from decide_eq_false (by omega)]) ?_)
   have hw5:IntKind.wrap .i64 (((i:Nat):Int)+1)=((i:Nat):Int)+1:=w64 (by omega) (by omega)
   refine G5 (E':=[⟨27,[(24,false)],.int .i64 (((i:Nat):Int)+1)⟩,⟨25,[(24,false)],.string (bk p)⟩,⟨24,[],.bool false⟩,⟨0,[],pt r⟩,⟨1,[],.string (bk (A7 s))⟩,⟨6,[],.string (bk p)⟩,⟨7,[],.int .i64 ((i:Nat):Int)⟩,⟨14,[],.slice sa ((A8 38 (A7 s)).2.length) ((A8 38 (A7 s)).2.length)⟩,⟨15,[],.int .i64 (((A8 38 (A7 s)).2.length:Nat):Int)⟩,⟨16,[],.int .i64 ((k:Nat):Int)⟩]) [0,0,0,0] (Eq.trans (b:=some [⟨27,[(24,false)],.int .i64 (IntKind.wrap .i64 (((i:Nat):Int)+1))⟩,⟨25,[(24,false)],.string (bk p)⟩,⟨24,[],.bool false⟩,⟨0,[],pt r⟩,⟨1,[],.string (bk (A7 s))⟩,⟨6,[],.string (bk p)⟩,⟨7,[],.int .i64 ((i:Nat):Int)⟩,⟨14,[],.slice sa ((A8 38 (A7 s)).2.length) ((A8 38 (A7 s)).2.length)⟩,⟨15,[],.int .i64 (((A8 38 (A7 s)).2.length:Nat):Int)⟩,⟨16,[],.int .i64 ((k:Nat):Int)⟩]) kr (by simp only [hw5])) (j:=6) rfl (H8 (ch:=[(24,false)]) (s:=(bk p)) (vl:=none) (vh:=(some (.int .i64 (((i:Nat):Int)+1)))) (l:=0) (h:=((i:Nat):Int)+1) (hb:=(fun hc=>by first | exact ⟨by omega,by omega,by omega⟩ | exact ⟨by omega,by rw [D9]; omega,by rw [D9]; omega⟩ | (show 1+(bk (p.take (i+1))).size≤_; rw [D9,List.length_take]; omega))) (k:=?_))
   refine F0 (E':=[⟨28,[(24,false)],.string (bk (p.take (i+1)))⟩,⟨27,[(24,false)],.int .i64 (((i:Nat):Int)+1)⟩,⟨25,[(24,false)],.string (bk p)⟩,⟨24,[],.bool false⟩,⟨0,[],pt r⟩,⟨1,[],.string (bk (A7 s))⟩,⟨6,[],.string (bk p)⟩,⟨7,[],.int .i64 ((i:Nat):Int)⟩,⟨14,[],.slice sa ((A8 38 (A7 s)).2.length) ((A8 38 (A7 s)).2.length)⟩,⟨15,[],.int .i64 (((A8 38 (A7 s)).2.length:Nat):Int)⟩,⟨16,[],.int .i64 ((k:Nat):Int)⟩]) (by have hz:([⟨28,[(24,false)],.string ((bk p).extract 0 (Int.toNat (((i:Nat):Int)+1)))⟩,⟨27,[(24,false)],.int .i64 (((i:Nat):Int)+1)⟩,⟨25,[(24,false)],.string (bk p)⟩,⟨24,[],.bool false⟩,⟨0,[],pt r⟩,⟨1,[],.string (bk (A7 s))⟩,⟨6,[],.string (bk p)⟩,⟨7,[],.int .i64 ((i:Nat):Int)⟩,⟨14,[],.slice sa ((A8 38 (A7 s)).2.length) ((A8 38 (A7 s)).2.length)⟩,⟨15,[],.int .i64 (((A8 38 (A7 s)).2.length:Nat):Int)⟩,⟨16,[],.int .i64 ((k:Nat):Int)⟩]:List Sl)=[⟨28,[(24,false)],.string (bk (p.take (i+1)))⟩,⟨27,[(24,false)],.int .i64 (((i:Nat):Int)+1)⟩,⟨25,[(24,false)],.string (bk p)⟩,⟨24,[],.bool false⟩,⟨0,[],pt r⟩,⟨1,[],.string (bk (A7 s))⟩,⟨6,[],.string (bk p)⟩,⟨7,[],.int .i64 ((i:Nat):Int)⟩,⟨14,[],.slice sa ((A8 38 (A7 s)).2.length) ((A8 38 (A7 s)).2.length)⟩,⟨15,[],.int .i64 (((A8 38 (A7 s)).2.length:Nat):Int)⟩,⟨16,[],.int .i64 ((k:Nat):Int)⟩]:=(by rw [show Int.toNat (((i:Nat):Int)+1)=i+1 by omega,ext_bkT]); exact Eq.trans kr hz) (I9 (ch:=[(24,false)]) (s:=(mB #[38])) (u:=(bk (p.take (i+1)))) (hb:=(fun hc=>by first | exact ⟨by omega,by omega,by omega⟩ | exact ⟨by omega,by rw [D9]; omega,by rw [D9]; omega⟩ | (show 1+(bk (p.take (i+1))).size≤_; rw [D9,List.length_take]; omega))) (k:=?_))
   refine F0 (E':=[⟨29,[(24,false)],.string (bk (38::p.take (i+1)))⟩,⟨28,[(24,false)],.string (bk (p.take (i+1)))⟩,⟨27,[(24,false)],.int .i64 (((i:Nat):Int)+1)⟩,⟨25,[(24,false)],.string (bk p)⟩,⟨24,[],.bool false⟩,⟨0,[],pt r⟩,⟨1,[],.string (bk (A7 s))⟩,⟨6,[],.string (bk p)⟩,⟨7,[],.int .i64 ((i:Nat):Int)⟩,⟨14,[],.slice sa ((A8 38 (A7 s)).2.length) ((A8 38 (A7 s)).2.length)⟩,⟨15,[],.int .i64 (((A8 38 (A7 s)).2.length:Nat):Int)⟩,⟨16,[],.int .i64 ((k:Nat):Int)⟩]) (by have hz:([⟨29,[(24,false)],.string ((mB #[38])++(bk (p.take (i+1))))⟩,⟨28,[(24,false)],.string (bk (p.take (i+1)))⟩,⟨27,[(24,false)],.int .i64 (((i:Nat):Int)+1)⟩,⟨25,[(24,false)],.string (bk p)⟩,⟨24,[],.bool false⟩,⟨0,[],pt r⟩,⟨1,[],.string (bk (A7 s))⟩,⟨6,[],.string (bk p)⟩,⟨7,[],.int .i64 ((i:Nat):Int)⟩,⟨14,[],.slice sa ((A8 38 (A7 s)).2.length) ((A8 38 (A7 s)).2.length)⟩,⟨15,[],.int .i64 (((A8 38 (A7 s)).2.length:Nat):Int)⟩,⟨16,[],.int .i64 ((k:Nat):Int)⟩]:List Sl)=[⟨29,[(24,false)],.string (bk (38::p.take (i+1)))⟩,⟨28,[(24,false)],.string (bk (p.take (i+1)))⟩,⟨27,[(24,false)],.int .i64 (((i:Nat):Int)+1)⟩,⟨25,[(24,false)],.string (bk p)⟩,⟨24,[],.bool false⟩,⟨0,[],pt r⟩,⟨1,[],.string (bk (A7 s))⟩,⟨6,[],.string (bk p)⟩,⟨7,[],.int .i64 ((i:Nat):Int)⟩,⟨14,[],.slice sa ((A8 38 (A7 s)).2.length) ((A8 38 (A7 s)).2.length)⟩,⟨15,[],.int .i64 (((A8 38 (A7 s)).2.length:Nat):Int)⟩,⟨16,[],.int .i64 ((k:Nat):Int)⟩]:=(by rw [cat38]); exact Eq.trans kr hz) (J7 (ch:=[(24,false)]) (f:=169) (fst:=#[]) (caps:=#[]) (vs:=[.string (bk (38::p.take (i+1)))]) (v:=.string (bk (unL (38::p.take (i+1))))) (hf:=Tryz.func169) (hc:=(fun hc=>unhtml_ (bk (38::p.take (i+1))) (by rw [D9]; first | omega | (rw [List.length_cons,List.length_take]; omega) | (have:=un_len (A7 s); omega)) _ _ hW)) (k:=?_))
   have hw6:IntKind.wrap .i64 (((i:Nat):Int)+1)=((i:Nat):Int)+1:=w64 (by omega) (by omega)
   refine G5 (E':=[⟨33,[(24,false)],.int .i64 (((i:Nat):Int)+1)⟩,⟨31,[(24,false)],.string (bk p)⟩,⟨30,[(24,false)],.string (bk (unL (38::p.take (i+1))))⟩,⟨24,[],.bool false⟩,⟨0,[],pt r⟩,⟨1,[],.string (bk (A7 s))⟩,⟨14,[],.slice sa ((A8 38 (A7 s)).2.length) ((A8 38 (A7 s)).2.length)⟩,⟨15,[],.int .i64 (((A8 38 (A7 s)).2.length:Nat):Int)⟩,⟨16,[],.int .i64 ((k:Nat):Int)⟩]) [0,0,0] (Eq.trans (b:=some [⟨33,[(24,false)],.int .i64 (IntKind.wrap .i64 (((i:Nat):Int)+1))⟩,⟨31,[(24,false)],.string (bk p)⟩,⟨30,[(24,false)],.string (bk (unL (38::p.take (i+1))))⟩,⟨24,[],.bool false⟩,⟨0,[],pt r⟩,⟨1,[],.string (bk (A7 s))⟩,⟨14,[],.slice sa ((A8 38 (A7 s)).2.length) ((A8 38 (A7 s)).2.length)⟩,⟨15,[],.int .i64 (((A8 38 (A7 s)).2.length:Nat):Int)⟩,⟨16,[],.int .i64 ((k:Nat):Int)⟩]) kr (by simp only [hw6])) (j:=12) rfl (H8 (ch:=[(24,false)]) (s:=(bk p)) (vl:=none) (vh:=(some (.int .i64 (((i:Nat):Int)+1)))) (l:=0) (h:=((i:Nat):Int)+1) (hb:=(fun hc=>by first | exact ⟨by omega,by omega,by omega⟩ | exact ⟨by omega,by rw [D9]; omega,by rw [D9]; omega⟩ | (show 1+(bk (p.take (i+1))).size≤_; rw [D9,List.length_take]; omega))) (k:=?_))
   refine F0 (E':=[⟨34,[(24,false)],.string (bk (p.take (i+1)))⟩,⟨33,[(24,false)],.int .i64 (((i:Nat):Int)+1)⟩,⟨31,[(24,false)],.string (bk p)⟩,⟨30,[(24,false)],.string (bk (unL (38::p.take (i+1))))⟩,⟨24,[],.bool false⟩,⟨0,[],pt r⟩,⟨1,[],.string (bk (A7 s))⟩,⟨14,[],.slice sa ((A8 38 (A7 s)).2.length) ((A8 38 (A7 s)).2.length)⟩,⟨15,[],.int .i64 (((A8 38 (A7 s)).2.length:Nat):Int)⟩,⟨16,[],.int .i64 ((k:Nat):Int)⟩]) (by have hz:([⟨34,[(24,false)],.string ((bk p).extract 0 (Int.toNat (((i:Nat):Int)+1)))⟩,⟨33,[(24,false)],.int .i64 (((i:Nat):Int)+1)⟩,⟨31,[(24,false)],.string (bk p)⟩,⟨30,[(24,false)],.string (bk (unL (38::p.take (i+1))))⟩,⟨24,[],.bool false⟩,⟨0,[],pt r⟩,⟨1,[],.string (bk (A7 s))⟩,⟨14,[],.slice sa ((A8 38 (A7 s)).2.length) ((A8 38 (A7 s)).2.length)⟩,⟨15,[],.int .i64 (((A8 38 (A7 s)).2.length:Nat):Int)⟩,⟨16,[],.int .i64 ((k:Nat):Int)⟩]:List Sl)=[⟨34,[(24,false)],.string (bk (p.take (i+1)))⟩,⟨33,[(24,false)],.int .i64 (((i:Nat):Int)+1)⟩,⟨31,[(24,false)],.string (bk p)⟩,⟨30,[(24,false)],.string (bk (unL (38::p.take (i+1))))⟩,⟨24,[],.bool false⟩,⟨0,[],pt r⟩,⟨1,[],.string (bk (A7 s))⟩,⟨14,[],.slice sa ((A8 38 (A7 s)).2.length) ((A8 38 (A7 s)).2.length)⟩,⟨15,[],.int .i64 (((A8 38 (A7 s)).2.length:Nat):Int)⟩,⟨16,[],.int .i64 ((k:Nat):Int)⟩]:=(by rw [show Int.toNat (((i:Nat):Int)+1)=i+1 by omega,ext_bkT]); exact Eq.trans kr hz) (I9 (ch:=[(24,false)]) (s:=(mB #[38])) (u:=(bk (p.take (i+1)))) (hb:=(fun hc=>by first | exact ⟨by omega,by omega,by omega⟩ | exact ⟨by omega,by rw [D9]; omega,by rw [D9]; omega⟩ | (show 1+(bk (p.take (i+1))).size≤_; rw [D9,List.length_take]; omega))) (k:=?_))
   refine F0 (E':=[⟨35,[(24,false)],.string (bk (38::p.take (i+1)))⟩,⟨34,[(24,false)],.string (bk (p.take (i+1)))⟩,⟨33,[(24,false)],.int .i64 (((i:Nat):Int)+1)⟩,⟨31,[(24,false)],.string (bk p)⟩,⟨30,[(24,false)],.string (bk (unL (38::p.take (i+1))))⟩,⟨24,[],.bool false⟩,⟨0,[],pt r⟩,⟨1,[],.string (bk (A7 s))⟩,⟨14,[],.slice sa ((A8 38 (A7 s)).2.length) ((A8 38 (A7 s)).2.length)⟩,⟨15,[],.int .i64 (((A8 38 (A7 s)).2.length:Nat):Int)⟩,⟨16,[],.int .i64 ((k:Nat):Int)⟩]) (by have hz:([⟨35,[(24,false)],.string ((mB #[38])++(bk (p.take (i+1))))⟩,⟨34,[(24,false)],.string (bk (p.take (i+1)))⟩,⟨33,[(24,false)],.int .i64 (((i:Nat):Int)+1)⟩,⟨31,[(24,false)],.string (bk p)⟩,⟨30,[(24,false)],.string (bk (unL (38::p.take (i+1))))⟩,⟨24,[],.bool false⟩,⟨0,[],pt r⟩,⟨1,[],.string (bk (A7 s))⟩,⟨14,[],.slice sa ((A8 38 (A7 s)).2.length) ((A8 38 (A7 s)).2.length)⟩,⟨15,[],.int .i64 (((A8 38 (A7 s)).2.length:Nat):Int)⟩,⟨16,[],.int .i64 ((k:Nat):Int)⟩]:List Sl)=[⟨35,[(24,false)],.string (bk (38::p.take (i+1)))⟩,⟨34,[(24,false)],.string (bk (p.take (i+1)))⟩,⟨33,[(24,false)],.int .i64 (((i:Nat):Int)+1)⟩,⟨31,[(24,false)],.string (bk p)⟩,⟨30,[(24,false)],.string (bk (unL (38::p.take (i+1))))⟩,⟨24,[],.bool false⟩,⟨0,[],pt r⟩,⟨1,[],.string (bk (A7 s))⟩,⟨14,[],.slice sa ((A8 38 (A7 s)).2.length) ((A8 38 (A7 s)).2.length)⟩,⟨15,[],.int .i64 (((A8 38 (A7 s)).2.length:Nat):Int)⟩,⟨16,[],.int .i64 ((k:Nat):Int)⟩]:=(by rw [cat38]); exact Eq.trans kr hz) (B1 [0,3] [0,1,14,15,16,37] (k:=?_))
   refine A0 (B7 (b:=(bk (unL (38::p.take (i+1)))).toList==(bk (38::p.take (i+1))).toList) kr (fun hc7=>?_) (fun hc7=>?_))
   ·
    have hbp:badX ((A8 38 (A7 s)).2[k]'hk)=true:=by rw [← hp,bad_some hI]; exact beq_iff_eq.2 ((eqB _ _).1 hc7)
    refine A3 (A4 (j:=1) [0] (k:=?_))
    refine H4 rfl (H':=([(r,.cells #[.string (bk (pcX (A8 38 (A7 s)).2 k q).1),.int .i64 ((pcX (A8 38 (A7 s)).2 k q).2)] 97 (0,0))]::[(sb,.cells (strV ((A8 38 (A7 s)).1::(A8 38 (A7 s)).2)).toArray 9 (0,0))]::[(b1,.cells #[.string (mB #[13,10]),.string (mB #[10]),.string (mB #[13]),.string (mB #[10])] 9 (0,0))]::H)) (fun w h=>(h.front (j:=2) rfl)) (E7 Tryz.func64 (M3 r (pcX (A8 38 (A7 s)).2 k q) 70 _ _) ?_)
    rintro _ _ rfl
    refine B1 [] [0,1,14,15,16] (k:=C6 ?_)
    refine A0 (A3 ?_)
    refine A4 (j:=1) [0] (k:=F6 40 (((k:Nat):Int)+1) (by omega) (by omega) kr ?_)
    refine B5 (E':=[⟨0,[],pt r⟩,⟨1,[],.string (bk (A7 s))⟩,⟨14,[],.slice sa ((A8 38 (A7 s)).2.length) ((A8 38 (A7 s)).2.length)⟩,⟨15,[],.int .i64 (((A8 38 (A7 s)).2.length:Nat):Int)⟩,⟨16,[],.int .i64 (((k:Nat):Int)+1)⟩]) [0] [0,1,14,15,16] (k:=C1 (H':=([(sb,.cells (strV ((A8 38 (A7 s)).1::(A8 38 (A7 s)).2)).toArray 9 (0,0))]::[(b1,.cells #[.string (mB #[13,10]),.string (mB #[10]),.string (mB #[13]),.string (mB #[10])] 9 (0,0))]::[(r,.cells #[.string (bk (E3 70 (pcX (A8 38 (A7 s)).2 k q)).1),.int .i64 ((E3 70 (pcX (A8 38 (A7 s)).2 k q)).2)] 97 (0,0))]::H)) (fun w h=>((h.front (j:=2) rfl).front (j:=2) rfl)) ?_)
    refine N_heq (H':=([(sb,.cells (strV ((A8 38 (A7 s)).1::(A8 38 (A7 s)).2)).toArray 9 (0,0))]::[(b1,.cells #[.string (mB #[13,10]),.string (mB #[10]),.string (mB #[13]),.string (mB #[10])] 9 (0,0))]::[(r,.cells #[.string (bk (pcX (A8 38 (A7 s)).2 (k+1) q).1),.int .i64 ((pcX (A8 38 (A7 s)).2 (k+1) q).2)] 97 (0,0))]::H)) (by rw [pcX_bad hk hbp]) (E9 (s':=(k+1)) [0,1,14,15,16] kr rfl (by omega) (by omega))
   ·
    have hbp:badX ((A8 38 (A7 s)).2[k]'hk)=false:=by rw [← hp,bad_some hI]; exact beq_eq_false_iff_ne.2 ((eqBf _ _).1 hc7)
    refine B4 (C6 ?_)
    refine A0 (A3 ?_)
    refine A4 (j:=1) [0] (k:=F6 40 (((k:Nat):Int)+1) (by omega) (by omega) kr ?_)
    refine B1 [0] [0,1,14,15,16] (k:=N_heq (H':=([(sb,.cells (strV ((A8 38 (A7 s)).1::(A8 38 (A7 s)).2)).toArray 9 (0,0))]::[(b1,.cells #[.string (mB #[13,10]),.string (mB #[10]),.string (mB #[13]),.string (mB #[10])] 9 (0,0))]::[(r,.cells #[.string (bk (pcX (A8 38 (A7 s)).2 (k+1) q).1),.int .i64 ((pcX (A8 38 (A7 s)).2 (k+1) q).2)] 97 (0,0))]::H)) (by rw [pcX_good hk hbp]) ?_)
    refine E9 (s':=(k+1)) [0,1,14,15,16] kr rfl (by omega) (by omega)
 ·
  have hk:k=(A8 38 (A7 s)).2.length:=by have:=hc3; simp only [decide_eq_false_iff_not] at this; omega
  refine H7 (B0 ?_)
  refine B0 (C7 ?_)
  refine A0 (A1 ?_)
  refine A3 (A4 (j:=1) [0] (k:=?_))
  refine M5 Tryz.func169 (unhtml_ (bk (A7 s)) (by rw [D9]; first | omega | (rw [List.length_cons,List.length_take]; omega) | (have:=un_len (A7 s); omega)) _ _ hW) (B1 [0] [0,1] (k:=?_))
  refine A0 (A1 ?_)
  refine A1 (A3 ?_)
  refine A4 (j:=1) [0] (k:=M5 Tryz.func60 (plain_ (bk (unL (A7 s))) (by rw [D9]; first | omega | (rw [List.length_cons,List.length_take]; omega) | (have:=un_len (A7 s); omega)) _ _) ?_)
  refine B1 [0,0] [0,1,46] (k:=A0 ?_)
  refine B7 (b:=!((bk (I6 (unL (A7 s)))).toList==(bk (unL (A7 s))).toList)) kr (fun hc10=>?_) (fun hc10=>?_)
  ·
   have hp9:I6 (unL (A7 s))≠unL (A7 s):=(eqBf _ _).1 (by simpa only [Bool.not_eq_true'] using hc10)
   refine A3 (A4 (j:=1) [0] (k:=?_))
   refine H4 rfl (H':=([(r,.cells #[.string (bk (pcX (A8 38 (A7 s)).2 k q).1),.int .i64 ((pcX (A8 38 (A7 s)).2 k q).2)] 97 (0,0))]::[(sb,.cells (strV ((A8 38 (A7 s)).1::(A8 38 (A7 s)).2)).toArray 9 (0,0))]::[(b1,.cells #[.string (mB #[13,10]),.string (mB #[10]),.string (mB #[13]),.string (mB #[10])] 9 (0,0))]::H)) (fun w h=>(h.front (j:=2) rfl)) (E7 Tryz.func64 (M3 r (pcX (A8 38 (A7 s)).2 k q) 70 _ _) ?_)
   rintro _ _ rfl
   refine B5 (E':=[⟨1,[],.string (bk (unL (A7 s)))⟩]) [] [1] (k:=A0 ?_)
   refine A1 (C3 (E':=[⟨4,[],.string (bk (unL (A7 s)))⟩]) [0,0] [4] (k:=?_))
   refine A0 (C5 ?_)
   refine C1 (H':=([(r,.cells #[.string (bk (E3 70 (pcX (A8 38 (A7 s)).2 k q)).1),.int .i64 ((E3 70 (pcX (A8 38 (A7 s)).2 k q)).2)] 97 (0,0))]::H)) (fun w h=>((h.erase 2).erase 1)) (B9 [.tmp 4] [.string (bk (unL (A7 s)))] (k:=?_))
   exact ⟨by rw [refs_yes hp9]; try rfl,by rw [refs_yes hp9,← hk]; try rfl⟩
  ·
   have hp9:I6 (unL (A7 s))=unL (A7 s):=(eqB _ _).1 (by simpa only [Bool.not_eq_false'] using hc10)
   refine B4 (A0 ?_)
   refine A1 (C3 (E':=[⟨4,[],.string (bk (unL (A7 s)))⟩]) [0,0] [4] (k:=?_))
   refine A0 (C5 ?_)
   refine C1 (H':=([(r,.cells #[.string (bk (pcX (A8 38 (A7 s)).2 k q).1),.int .i64 ((pcX (A8 38 (A7 s)).2 k q).2)] 97 (0,0))]::H)) (fun w h=>((h.erase 1).erase 0)) (B9 [.tmp 4] [.string (bk (unL (A7 s)))] (k:=?_))
   exact ⟨by rw [refs_no hp9]; try rfl,by rw [refs_no hp9,← hk]; try rfl⟩
end Go.Proofs.YtppgfiklmfoaeaaGreatDoor
namespace Go.Xml
open Go.Sw Go.Esc Go.Json
def xaC (a:XA):List Value:=[.string (bk a.space),.string (bk a.name),.string (bk a.value)]
def xaV:List XA→List Value
  | []=>[]
  | a::l=>xaC a++xaV l
theorem xaV_app:∀ (a b:List XA),xaV (a++b)=xaV a++xaV b
  | [],_=>rfl
  | x::a,b=>by rw [List.cons_append,xaV,xaV_app a b,xaV,List.append_assoc]
theorem xaV_len:∀ a:List XA,(xaV a).length=a.length * 3
  | []=>rfl
  | x::a=>by rw [xaV,List.length_append,xaV_len a,List.length_cons]; show 3+_=_; omega
theorem xaV_at:∀ {a:List XA} {i:Nat} (h:i<a.length),((xaV a).drop (i * 3)).take 3=xaC a[i]
  | [],_,h=>absurd h (Nat.not_lt_zero _)
  | x::a,0,_=>rfl
  | x::a,i+1,h=>by
    have e:(xaV (x::a)).drop ((i+1) * 3)=(xaV a).drop (i * 3):=by
      rw [xaV,List.drop_append,List.drop_eq_nil_of_le (by show 3≤_; omega),List.nil_append]; show List.drop ((i+1) * 3 - 3) _=_; congr 1; omega
    rw [e]; exact xaV_at (a:=a) (by simpa using h)
def atC (a:AT):List Value:=[.string (bk a.q.pre),.string (bk a.q.name),.string (bk a.value),.bool a.q.has]
def atV:List AT→List Value
  | []=>[]
  | a::l=>atC a++atV l
theorem atV_app:∀ (a b:List AT),atV (a++b)=atV a++atV b
  | [],_=>rfl
  | x::a,b=>by rw [List.cons_append,atV,atV_app a b,atV,List.append_assoc]
theorem atV_len:∀ a:List AT,(atV a).length=a.length * 4
  | []=>rfl
  | x::a=>by rw [atV,List.length_append,atV_len a,List.length_cons]; show 4+_=_; omega
theorem atV_at:∀ {a:List AT} {i:Nat} (h:i<a.length),((atV a).drop (i * 4)).take 4=atC a[i]
  | [],_,h=>absurd h (Nat.not_lt_zero _)
  | x::a,0,_=>rfl
  | x::a,i+1,h=>by
    have e:(atV (x::a)).drop ((i+1) * 4)=(atV a).drop (i * 4):=by
      rw [atV,List.drop_append,List.drop_eq_nil_of_le (by show 4≤_; omega),List.nil_append]; show List.drop ((i+1) * 4 - 4) _=_; congr 1; omega
    rw [e]; exact atV_at (a:=a) (by simpa using h)
mutual
inductive XRd (S:Nat→Obj→Prop):XN→List Value→Prop
  | mk {sp nm t:List UInt8} {ats:List XA} {l:List XN} {an al:Option Addr} {cn cl:Nat} {cs:List Value}:ats.length≤cn→Rd S an (xaV ats)→Rd S al cs→XRdL S l cs→XRd S (.mk sp nm ats l t) [.string (bk sp),.string (bk nm),.slice an ats.length cn,.slice al l.length cl,.string (bk t)]
inductive XRdL (S:Nat→Obj→Prop):List XN→List Value→Prop
  | nil:XRdL S [] []
  | cons {v:XN} {l:List XN} {c cs:List Value}:XRd S v c→XRdL S l cs→XRdL S (v::l) (c++cs)
end
mutual
/-- owned: one group for all of it -/
inductive XRep (ta tn:TypeId):XN→List Value→Grp→Prop
  | mk {sp nm t:List UInt8} {ats:List XA} {l:List XN} {an al:Option Addr} {cn cl:Nat} {cs:List Value} {ga gl gs:Grp}:Own ta 3 (.slice an ats.length cn) ga ats.length (xaV ats)→Own tn 5 (.slice al l.length cl) gl l.length cs→XRepL ta tn l cs gs→XRep ta tn (.mk sp nm ats l t) [.string (bk sp),.string (bk nm),.slice an ats.length cn,.slice al l.length cl,.string (bk t)] (ga++(gl++gs))
inductive XRepL (ta tn:TypeId):List XN→List Value→Grp→Prop
  | nil:XRepL ta tn [] [] []
  | cons {v:XN} {l:List XN} {c cs:List Value} {g gs:Grp}:XRep ta tn v c g→XRepL ta tn l cs gs→XRepL ta tn (v::l) (c++cs) (g++gs)
end
theorem XRd.len {S:Nat→Obj→Prop} {v:XN} {c:List Value} (h:XRd S v c):c.length=5:=by cases h; rfl
theorem XRdL.len {S:Nat→Obj→Prop}:∀ {l:List XN} {cs:List Value},XRdL S l cs→cs.length=l.length * 5
  | [],_,h=>by cases h; rfl
  | v::l,_,h=>by
    cases h with
    | cons h1 h2=>rw [List.length_append,h1.len,h2.len,List.length_cons]; omega
theorem XRdL.at {S:Nat→Obj→Prop}:∀ {l:List XN} {cs:List Value} {i:Nat} (hi:i<l.length),XRdL S l cs→XRd S l[i] ((cs.drop (i * 5)).take 5)
  | [],_,_,hi,_=>absurd hi (Nat.not_lt_zero _)
  | v::l,_,0,_,h=>by
    cases h with
    | cons h1 h2 =>
      rw [Nat.zero_mul,List.drop_zero,List.take_append_of_le_length (by rw [h1.len]; exact Nat.le_refl _),List.take_of_length_le (by rw [h1.len]; exact Nat.le_refl _)]; exact h1
  | v::l,_,i+1,hi,h=>by
    cases h with
    | cons h1 h2 =>
      rename_i c cs
      have e:(c++cs).drop ((i+1) * 5)=cs.drop (i * 5):=by
        rw [List.drop_append,List.drop_eq_nil_of_le (by rw [h1.len]; omega),h1.len,List.nil_append,show (i+1) * 5 - 5=i * 5 by omega]
      rw [e]; exact XRdL.at (l:=l) (by simpa using hi) h2
theorem XRep.len {ta tn:TypeId} {v:XN} {c:List Value} {g:Grp} (h:XRep ta tn v c g):c.length=5:=by cases h; rfl
theorem XRepL.len {ta tn:TypeId}:∀ {l:List XN} {cs:List Value} {g:Grp},XRepL ta tn l cs g→cs.length=l.length * 5
  | [],_,_,h=>by cases h; rfl
  | v::l,_,_,h=>by
    cases h with
    | cons h1 h2=>rw [List.length_append,h1.len,XRepL.len h2,List.length_cons]; omega
theorem XRep.nul {ta tn:TypeId}:XRep ta tn T2 [.string (bk []),.string (bk []),.slice none 0 0,.slice none 0 0,.string (bk [])] []:=.mk (ats:=[]) (l:=[]) Own.nil Own.nil .nil
theorem XRep.text {ta tn:TypeId} (t:List UInt8):XRep ta tn (.mk [] [] [] [] t) [.string (bk []),.string (bk []),.slice none 0 0,.slice none 0 0,.string (bk t)] []:=.mk (ats:=[]) (l:=[]) Own.nil Own.nil .nil
theorem XRepL.snoc {ta tn:TypeId}:∀ {l:List XN} {cs:List Value} {gs:Grp} {v:XN} {c:List Value} {g:Grp},XRepL ta tn l cs gs→XRep ta tn v c g→XRepL ta tn (l++[v]) (cs++c) (gs++g)
  | [],_,_,v,c,g,h,hv=>by
    cases h
    have:=XRepL.cons hv .nil
    rw [List.append_nil,List.append_nil] at this
    exact this
  | x::l,_,_,v,c,g,h,hv=>by
    cases h with
    | cons h1 h2 =>
      rw [List.cons_append,List.append_assoc,List.append_assoc]
      exact .cons h1 (XRepL.snoc h2 hv)
theorem XRepL.last {ta tn:TypeId}:∀ {l:List XN} {cs:List Value} {gs:Grp},XRepL ta tn l cs gs→l≠[]→∃ l0 v cs0 c g0 g,l=l0++[v]∧cs=cs0++c∧gs=g0++g∧XRepL ta tn l0 cs0 g0∧XRep ta tn v c g
  | [],_,_,_,h=>absurd rfl h
  | [x],_,_,h,_=>by
    cases h with
    | cons h1 h2=>cases h2; exact ⟨[],x,[],_,[],_,rfl,by simp,by simp,.nil,h1⟩
  | x::y::l,_,_,h,_=>by
    cases h with
    | cons h1 h2 =>
      obtain ⟨l0,v,cs0,c,g0,g,e1,e2,e3,h3,h4⟩:=XRepL.last h2 (by simp)
      exact ⟨x::l0,v,_++cs0,c,_++g0,g,by rw [e1]; rfl,by rw [e2,List.append_assoc],by rw [e3,List.append_assoc],.cons h1 h3,h4⟩
mutual
theorem XRep.rd {ta tn:TypeId} {S:Nat→Obj→Prop}:∀ {v:XN} {c:List Value} {g:Grp},XRep ta tn v c g→(∀ b o,inG g b o→S b o)→XRd S v c
  | .mk _ _ _ _ _,_,_,.mk h1 h2 h3,hs=>.mk (own_cap h1) (rd_mono (K7 h1) fun b o h=>hs b o (List.mem_append_left _ h)) (rd_mono (K7 h2) fun b o h=>hs b o (List.mem_append_right _ (List.mem_append_left _ h))) (XRepL.rd h3 fun b o h=>hs b o (List.mem_append_right _ (List.mem_append_right _ h)))
theorem XRepL.rd {ta tn:TypeId} {S:Nat→Obj→Prop}:∀ {l:List XN} {cs:List Value} {g:Grp},XRepL ta tn l cs g→(∀ b o,inG g b o→S b o)→XRdL S l cs
  | [],_,_,.nil,_=>.nil
  | _::_,_,_,.cons h1 h2,hs=>.cons (XRep.rd h1 fun b o h=>hs b o (List.mem_append_left _ h)) (XRepL.rd h2 fun b o h=>hs b o (List.mem_append_right _ h))
end
theorem XRep.shape {ta tn:TypeId} {v:XN} {c:List Value} {g:Grp} (h:XRep ta tn v c g):∃ an cn al cl,c=[.string (bk v.space),.string (bk v.name),.slice an v.attrs.length cn,.slice al v.kids.length cl,.string (bk v.text)]:=by
  cases h; exact ⟨_,_,_,_,rfl⟩
theorem XRep.cells5 {ta tn:TypeId} {v:XN} {c:List Value} {g:Grp} (h:XRep ta tn v c g):∃ e0 e1 e2 e3 e4,c=[e0,e1,e2,e3,e4]∧([e0,e1,e2,e3,e4].all Value.oneCell')=true:=by
  cases h; exact ⟨_,_,_,_,_,rfl,rfl⟩
end Go.Xml
namespace Go.Xml
open Go.Esc Go.Json Go.Sw
theorem quote_1 {q:XS} (h:[34].isPrefixOf q.1=true):C8 q=F5 [34] (q.1.drop 1,q.2):=by unfold C8; rw [O8 h]; rfl
theorem quote_2 {q:XS} (h1:¬ [34].isPrefixOf q.1=true) (h:[39].isPrefixOf q.1=true):C8 q=F5 [39] (q.1.drop 1,q.2):=by unfold C8; rw [M0 h1,O8 h]; rfl
theorem quote_3 {q:XS} (h1:¬ [34].isPrefixOf q.1=true) (h:¬ [39].isPrefixOf q.1=true):C8 q=([],E3 70 q):=by unfold C8; rw [M0 h1,M0 h]; rfl
def eqX (q:XS):XS:=(K5 (C2 [61] (K5 (A5 q).2).2)).2
theorem eqX_le (q:XS):(eqX q).1.length≤q.1.length:=by
  unfold eqX
  have h1:=qual_le q
  have h2:=skip_le (A5 q).2
  have h3:=must_le [61] (K5 (A5 q).2).2
  have h4:=skip_le (C2 [61] (K5 (A5 q).2).2)
  omega
theorem until_v (w:List UInt8) (q:XS):(F5 w q).1.length≤q.1.length:=by
  unfold F5
  cases h:idxL w q.1 with
  | none=>exact Nat.zero_le _
  | some i=>show (q.1.take i).length≤_; rw [List.length_take]; omega
theorem quote_le (q:XS):(C8 q).1.length≤q.1.length∧(C8 q).2.1.length≤q.1.length:=by
  unfold C8
  split
  · have h1:=take_le [34] q
    have h2:=until_v [34] (G0 [34] q).2
    have h3:=P6 [34] (G0 [34] q).2
    exact ⟨by omega,by omega⟩
  · split
    · have h1:=take_le [39] q
      have h2:=until_v [39] (G0 [39] q).2
      have h3:=P6 [39] (G0 [39] q).2
      exact ⟨by omega,by omega⟩
    · exact ⟨Nat.zero_le _,Nat.le_refl _⟩
theorem attr_yes {q:XS} (h:(idxL [60] (C8 (eqX q)).1).isSome=true):V5 q=(⟨(A5 q).1,(G7 (C8 (eqX q)).1 (E3 70 (C8 (eqX q)).2)).1⟩,(G7 (C8 (eqX q)).1 (E3 70 (C8 (eqX q)).2)).2):=by
  rw [idx_mem] at h
  have h:=of_decide_eq_true h
  unfold V5; dsimp only
  rw [show (C8 (K5 (C2 [61] (K5 (A5 q).2).2)).2)=C8 (eqX q) from rfl,if_pos h]
theorem attr_no {q:XS} (h:(idxL [60] (C8 (eqX q)).1).isSome=false):V5 q=(⟨(A5 q).1,(G7 (C8 (eqX q)).1 (C8 (eqX q)).2).1⟩,(G7 (C8 (eqX q)).1 (C8 (eqX q)).2).2):=by
  rw [idx_mem] at h
  have h:=of_decide_eq_false h
  unfold V5; dsimp only
  rw [show (C8 (K5 (C2 [61] (K5 (A5 q).2).2)).2)=C8 (eqX q) from rfl,if_neg h]
theorem attrX_le (q:XS):(V5 q).2.1.length≤q.1.length:=by
  have h1:=eqX_le q
  have h2:=(quote_le (eqX q)).2
  cases h:(idxL [60] (C8 (eqX q)).1).isSome with
  | true=>rw [attr_yes h]; dsimp only; rw [refs_len,V4]; omega
  | false=>rw [attr_no h]; dsimp only; rw [refs_len]; omega
theorem attrs_stop {n:Nat} {acc:List AT} {q:XS} (h0:q.2=0) (h:¬ (blk q.1).length<q.1.length∨[62].isPrefixOf (blk q.1)=true∨[47,62].isPrefixOf (blk q.1)=true):F1 (n+1) acc q=(acc,(blk q.1,q.2)):=by
  rw [F1,if_neg (fun hn=>hn h0)]
  have hs:K5 q=(decide ((blk q.1).length<q.1.length),(blk q.1,q.2)):=rfl
  rw [hs]
  dsimp only
  rw [if_neg]
  rintro ⟨h1,h2,h3⟩
  rcases h with h | h | h
  · exact h (of_decide_eq_true h1)
  · exact h2 h
  · exact h3 h
theorem attrs_go {n:Nat} {acc:List AT} {q:XS} (h0:q.2=0) (h1:(blk q.1).length<q.1.length) (h2:¬ [62].isPrefixOf (blk q.1)=true) (h3:¬ [47,62].isPrefixOf (blk q.1)=true):F1 (n+1) acc q=F1 n (acc++[(V5 (blk q.1,q.2)).1]) (V5 (blk q.1,q.2)).2:=by
  rw [F1,if_neg (fun hn=>hn h0)]
  have hs:K5 q=(decide ((blk q.1).length<q.1.length),(blk q.1,q.2)):=rfl
  rw [hs]
  dsimp only
  rw [if_pos ⟨decide_eq_true h1,h2,h3⟩]
theorem mgetX_put {m:SM} {c:Nat} {k p:ByteArray} {v:Value}:mget (I2 m c k v) p=if p==k then some v else mget m p:=by
  unfold mget
  have gen:∀ (m:SM) (i:Nat),(mfind p (I2 m c k v) i).map (·.2)=if p==k then some v else (mfind p m i).map (·.2):=by
    intro m
    induction m with
    | nil =>
      intro i
      show (if p==k then some (i,v) else none).map (·.2)=_
      cases p==k <;> rfl
    | cons e m ih =>
      intro i
      by_cases hk:(k==e.1)=true
      · rw [I2,if_pos hk]
        have he:=baEq.1 hk
        show (if p==k then some (i,v) else mfind p m (i+1)).map (·.2)=if p==k then some v else (if p==e.1 then some (i,e.2.1) else mfind p m (i+1)).map (·.2)
        rw [← he]
        cases p==k <;> rfl
      · rw [I2,if_neg hk]
        show (if p==e.1 then some (i,e.2.1) else mfind p (I2 m c k v) (i+1)).map (·.2)=if p==k then some v else (if p==e.1 then some (i,e.2.1) else mfind p m (i+1)).map (·.2)
        by_cases hp:(p==e.1)=true
        · rw [if_pos hp,if_pos hp,if_neg]
          intro hpk
          exact hk (baEq.2 ((baEq.1 hpk).symm.trans (baEq.1 hp)))
        · rw [if_neg hp,if_neg hp]; exact ih (i+1)
  exact gen m 0
theorem bk_inj {a b:List UInt8}:(bk a==bk b)=true ↔ a=b:=by
  rw [baEq]
  constructor
  · intro h
    have:=congrArg (fun x:ByteArray=>x.data.toList) h
    exact this
  · intro h; rw [h]
def SpR (m:SM) (sp:SPX):Prop:=∀ p,mget m (bk p)=(lookX sp p).map fun v=>.string (bk v)
theorem SpR.put {m:SM} {sp:SPX} (h:SpR m sp) (c:Nat) (p v:List UInt8):SpR (I2 m c (bk p) (.string (bk v))) ((p,v)::sp):=by
  intro x
  rw [mgetX_put]
  unfold lookX
  rw [List.find?_cons]
  by_cases hx:x=p
  · subst hx
    rw [if_pos (bk_inj.2 rfl)]
    simp
  · rw [if_neg (fun hh=>hx (bk_inj.1 hh)),show ((p,v).1==x)=false from beq_eq_false_iff_ne.2 (fun e=>hx e.symm)]
    exact h x
def SeR (m:SM) (seen:List (List UInt8)):Prop:=∀ p,mget m (bk p)=if p∈seen then some (.bool true) else none
theorem SeR.nil:SeR [] []:=fun p=>by rw [if_neg List.not_mem_nil]; rfl
theorem SeR.put {m:SM} {seen:List (List UInt8)} (h:SeR m seen) (c:Nat) (p:List UInt8):SeR (I2 m c (bk p) (.bool true)) (p::seen):=by
  intro x
  rw [mgetX_put]
  by_cases hx:x=p
  · subst hx; rw [if_pos (bk_inj.2 rfl),if_pos List.mem_cons_self]
  · rw [if_neg (fun hh=>hx (bk_inj.1 hh)),h x]
    by_cases hm:x∈seen
    · rw [if_pos hm,if_pos (List.mem_cons_of_mem _ hm)]
    · rw [if_neg hm,if_neg (fun hh=>(List.mem_cons.1 hh).elim hx hm)]
theorem sp_step_no {a:AT} {r:List AT} {seen:List (List UInt8)} {sp:SPX} {q:XS} (h:Q4 a=none):L5 (a::r) seen sp q=L5 r seen sp q:=by rw [L5,h]
theorem sp_step {a:AT} {r:List AT} {seen:List (List UInt8)} {sp:SPX} {q:XS} {p:List UInt8} (h:Q4 a=some p):L5 (a::r) seen sp q=L5 r (p::seen) ((p,a.value)::sp) (if p∈seen∨a.q.has=true∧a.value=[] then E3 70 q else q):=by rw [L5,h]
theorem decl_own {a:AT} (h1:a.q.has=false) (h2:a.q.name=xmlns):Q4 a=some []:=if_pos ⟨h1,h2⟩
theorem decl_pre {a:AT} (h1:a.q.has=true) (h2:a.q.pre=xmlns):Q4 a=some a.q.name:=by
  unfold Q4; rw [if_neg (fun h=>by rw [h1] at h; exact Bool.noConfusion h.1),if_pos ⟨h1,h2⟩]
theorem decl_none {a:AT} (h1:¬ (a.q.has=false∧a.q.name=xmlns)) (h2:¬ (a.q.has=true∧a.q.pre=xmlns)):Q4 a=none:=by
  unfold Q4; rw [if_neg h1,if_neg h2]
theorem marks_skip {a:AT} {r:List AT} {out:List XA} {sp:SPX} {q:XS} (h:(Q4 a).isSome=true):M7 (a::r) out sp q=M7 r out sp q:=by rw [M7,if_pos h]
theorem marks_go {a:AT} {r:List AT} {out:List XA} {sp:SPX} {q:XS} (h:(Q4 a).isSome=false):M7 (a::r) out sp q=M7 r (out++[⟨(if a.q.has then J2 a.q.pre true sp q else ([],q)).1,a.q.name,a.value⟩]) sp (if out.any (fun y=>y.space==(if a.q.has then J2 a.q.pre true sp q else ([],q)).1&&y.name==a.q.name) then E3 70 (if a.q.has then J2 a.q.pre true sp q else ([],q)).2 else (if a.q.has then J2 a.q.pre true sp q else ([],q)).2):=by
  rw [M7,if_neg (by rw [h]; exact Bool.false_ne_true)]
theorem L7 {α:Type} {l:List α} {k:Nat} (h:k<l.length):l.drop k=l[k]::l.drop (k+1):=List.drop_eq_getElem_cons h
theorem space_some {p v:List UInt8} {has:Bool} {sp:SPX} {q:XS} (h:lookX sp p=some v):J2 p has sp q=(v,q):=by
  unfold J2; rw [h]; dsimp only [Option.getD]; rw [if_neg (fun hh=>by cases hh.2)]
theorem space_none {p:List UInt8} {has:Bool} {sp:SPX} {q:XS} (h:lookX sp p=none) (hh:has=true):J2 p has sp q=([],E3 70 q):=by
  unfold J2; rw [h]; dsimp only [Option.getD]; rw [if_pos ⟨hh,rfl⟩]
theorem space_own {p:List UInt8} {has:Bool} {sp:SPX} {q:XS} (h:lookX sp p=none) (hh:has=false):J2 p has sp q=([],q):=by
  unfold J2; rw [h]; dsimp only [Option.getD]; rw [if_neg (fun h1=>by rw [hh] at h1; cases h1.1)]
theorem space_le (p:List UInt8) (has:Bool) (sp:SPX) (q:XS):(J2 p has sp q).2.1=q.1:=by unfold J2; dsimp only; split; rfl; rfl
theorem sp_le:∀ (ats:List AT) (seen:List (List UInt8)) (sp:SPX) (q:XS),(L5 ats seen sp q).2.1=q.1
  | [],_,_,_=>rfl
  | a::r,seen,sp,q=>by
    rw [L5]
    cases Q4 a with
    | none=>exact sp_le r _ _ _
    | some p=>dsimp only; rw [sp_le r]; split; rfl; rfl
theorem any_take {α:Type} {f:α→Bool} {l:List α} {k:Nat} (h:k<l.length):(l.take (k+1)).any f=((l.take k).any f||f l[k]):=by
  rw [List.take_succ_eq_append_getElem h,List.any_append,List.any_cons,List.any_nil,Bool.or_false]
theorem any_at {α:Type} {f:α→Bool} {l:List α} {k:Nat} (h:k<l.length) (hf:f l[k]=true):l.any f=true:=List.any_eq_true.2 ⟨_,List.getElem_mem h,hf⟩
end Go.Xml
namespace Go.Proofs.YtppgfiklmfoaeaaGreatDoor
open Go.Sw Go.Sha Go.Esc Go.RowKit Go.Json Go.Xml
theorem xattrs_ (r:Nat) (q:XS) (hl:q.1.length≤1000000) (W0:World) (H:List Grp) (hX:R2 W0):Tri Tryz.prog 104 #[pt r] W0 ([(r,.cells #[.string (bk q.1),.int .i64 q.2] 97 (0,0))]::H) (fun v H'=>∃ a cap g,v=.slice a (F1 (q.1.length+1) [] q).1.length cap∧Go.Sw.Own 137 4 (.slice a (F1 (q.1.length+1) [] q).1.length cap) g (F1 (q.1.length+1) [] q).1.length (atV (F1 (q.1.length+1) [] q).1)∧H'=rdX r (F1 (q.1.length+1) [] q).2::g::H):=by
 refine D0 (args:=[pt r]) (n:=74) Tryz.func104 rfl rfl (Nat.le_of_ble_eq_true rfl) ?_
 refine A1 (C3 (E':=[⟨0,[],pt r⟩]) [0] [0] (k:=?_))
 refine A0 (A1 ?_)
 refine G_p [0] [0,3] (k:=A0 ?_)
 refine A1 (B8 ?_)
 refine G_heap (H':=([(r,.cells #[.string (bk q.1),.int .i64 q.2] 97 (0,0))]::[]::H)) (fun w h=>Sat.flat h (List.Perm.refl _)) (L4 (EI:=(fun ξ:Nat × List AT × XS × Nat × Option Addr × Nat × Grp=>[⟨0,[],pt r⟩,⟨3,[],.slice ξ.2.2.2.2.1 ξ.2.2.2.1 ξ.2.2.2.2.2.1⟩])) (HI:=(fun ξ:Nat × List AT × XS × Nat × Option Addr × Nat × Grp=>([(r,.cells #[.string (bk ξ.2.2.1.1),.int .i64 ξ.2.2.1.2] 97 (0,0))]::ξ.2.2.2.2.2.2::H))) (Φ:=(fun ξ:Nat × List AT × XS × Nat × Option Addr × Nat × Grp=>(F1 (q.1.length+1) [] q=F1 ξ.1 ξ.2.1 ξ.2.2.1)∧(ξ.2.2.1.2=0→ξ.2.2.1.1.length<ξ.1)∧(ξ.2.2.1.1.length≤1000000)∧(Go.Sw.Own 137 4 (.slice ξ.2.2.2.2.1 ξ.2.2.2.1 ξ.2.2.2.2.2.1) ξ.2.2.2.2.2.2 ξ.2.2.2.1 (atV ξ.2.1))∧(ξ.2.2.2.1=ξ.2.1.length)∧(ξ.2.2.2.1+ξ.1≤1000002))) (μ:=(fun ξ:Nat × List AT × XS × Nat × Option Addr × Nat × Grp=>ξ.1)) (s0:=((q.1.length+1),[],q,0,none,0,[])) [0,3] kr rfl ⟨rfl,(fun _=>Nat.lt_succ_self _),hl,Go.Sw.Own.nil,rfl,(by show 0+(q.1.length+1)≤_; omega)⟩ ?_)
 rintro ⟨n,acc,q2,nl,ra,rc,rg⟩ ⟨hT,hn,hl2,hO,hnl,hb⟩
 dsimp only at hT hn hl2 hO hnl hb
 refine A1 (A1 ?_)
 by_cases hq0:q2.2=0
 ·
  have hnq:=hn hq0
  obtain ⟨m,rfl⟩:∃ m,n=m+1:=⟨n - 1,by omega⟩
  have hbl:=Q5 q2.1
  have hqe:(eqX (blk q2.1,q2.2)).1.length≤(blk q2.1).length:=eqX_le (blk q2.1,q2.2)
  refine A3 (A4 (j:=3) [0,0,0] (k:=?_))
  refine A6 (ch:=[]) (b:=r) (off:=1) (v:=.int .i64 q2.2) (hA:=At.grp 0 0 rfl rfl) (k:=G5 (E':=[⟨9,[],.bool (q2.2==0)⟩,⟨0,[],pt r⟩,⟨3,[],.slice ra nl rc⟩]) (j:=5) [0] (k:=?_))
  refine F0 (E':=[⟨9,[],.bool true⟩,⟨0,[],pt r⟩,⟨3,[],.slice ra nl rc⟩]) (by rw [show (q2.2==0)=true by simpa using hq0]) (A4 (j:=7) [0,0] (k:=?_))
  refine X7 (ch:=[(10,true)]) (f:=100) (fst:=#[]) (caps:=#[]) (vs:=[pt r]) (hf:=Tryz.func100) (hsure:=P2 kr) (hc:=xskip2_ r q2 _ _) (k:=?_)
  rintro _ _ (⟨hs1,rfl,rfl⟩ | ⟨hs1,rfl,rfl⟩)
  ·
   have hsk:(blk q2.1).length<q2.1.length:=hs1
   refine A4 (j:=13) [2,0,0,0,0] (k:=A6 (ch:=[(14,true)]) (b:=r) (off:=0) (v:=.string (bk (blk q2.1,q2.2).1)) (hA:=At.grp 0 0 rfl rfl) (k:=?_))
   refine J7 (ch:=[(14,true)]) (f:=77) (fst:=#[]) (caps:=#[]) (vs:=[.string (bk (blk q2.1,q2.2).1),.string (mB #[62])]) (v:=.bool (I0 (bk (blk q2.1,q2.2).1) (mB #[62]))) (hf:=Tryz.func77) (hc:=(fun hc=>jhas_ (bk (blk q2.1,q2.2).1) (mB #[62]) _ _)) (k:=A4 (j:=21) [0,2,0,0,0,0] (k:=?_))
   refine A6 (ch:=[(22,true)]) (b:=r) (off:=0) (v:=.string (bk (blk q2.1,q2.2).1)) (hA:=At.grp 0 0 rfl rfl) (k:=J7 (ch:=[(22,true)]) (f:=77) (fst:=#[]) (caps:=#[]) (vs:=[.string (bk (blk q2.1,q2.2).1),.string (mB #[47,62])]) (v:=.bool (I0 (bk (blk q2.1,q2.2).1) (mB #[47,62]))) (hf:=Tryz.func77) (hc:=(fun hc=>jhas_ (bk (blk q2.1,q2.2).1) (mB #[47,62]) _ _)) (k:=?_))
   refine B1 [0,6] [0,3,29] (k:=A0 ?_)
   refine B7 (b:=(!(I0 (bk (blk q2.1,q2.2).1) (mB #[62])))&&(!(I0 (bk (blk q2.1,q2.2).1) (mB #[47,62])))) kr (fun hc2=>?_) (fun hc2=>?_)
   ·
    simp only [Bool.and_eq_true,Bool.not_eq_true'] at hc2
    have hp1:¬ [62].isPrefixOf (blk q2.1)=true:=fun hn=>(N3 _ _).1 hc2.1 (pre_iff.2 hn)
    have hp2:¬ [47,62].isPrefixOf (blk q2.1)=true:=fun hn=>(N3 _ _).1 hc2.2 (pre_iff.2 hn)
    refine B4 (A0 ?_)
    refine B8 (A1 ?_)
    refine A3 (H5 (ch:=[]) (z:=.agg #[.string eB,.string eB,.string eB,.bool false]) (k:=(fun b3=>?_)))
    refine B1 [] [0,3,4] (k:=A0 ?_)
    refine A1 (A3 ?_)
    refine A4 (j:=1) [0] (k:=H4 rfl (H':=([(r,.cells #[.string (bk (blk q2.1,q2.2).1),.int .i64 ((blk q2.1,q2.2).2)] 97 (0,0))]::[(b3,.cells #[.string eB,.string eB,.string eB,.bool false] 137 (0,0))]::rg::H)) (fun w h=>(h.front (j:=1) rfl)) ?_)
    refine E7 (vs:=[pt r]) Tryz.func103 (xqual_ r (blk q2.1,q2.2) (by first | (show (blk q2.1).length≤_; omega) | (show (List.drop 1 (eqX (blk q2.1,q2.2)).1).length≤_; rw [List.length_drop]; omega)) _ _) ?_
    rintro _ _ ⟨rfl,rfl⟩
    refine A4 (j:=7) [0,0,0,0,0] (k:=E2 (ch:=[]) (b:=b3) (off:=0) (v:=.string (bk (A5 (blk q2.1,q2.2)).1.pre)) (j:=1) ([(r,.cells #[.string (bk ((A5 (blk q2.1,q2.2)).2).1),.int .i64 (((A5 (blk q2.1,q2.2)).2).2)] 97 (0,0))]::[(b3,.cells #[.string (bk (A5 (blk q2.1,q2.2)).1.pre),.string eB,.string eB,.bool false] 137 (0,0))]::rg::H) (hoff:=Nat.le_of_ble_eq_true rfl) (hfz:=(fun _ _=>E0)) (k:=?_))
    refine A4 (j:=9) [0] (k:=E2 (ch:=[]) (b:=b3) (off:=1) (v:=.string (bk (A5 (blk q2.1,q2.2)).1.name)) (j:=1) ([(r,.cells #[.string (bk ((A5 (blk q2.1,q2.2)).2).1),.int .i64 (((A5 (blk q2.1,q2.2)).2).2)] 97 (0,0))]::[(b3,.cells #[.string (bk (A5 (blk q2.1,q2.2)).1.pre),.string (bk (A5 (blk q2.1,q2.2)).1.name),.string eB,.bool false] 137 (0,0))]::rg::H) (hoff:=Nat.le_of_ble_eq_true rfl) (hfz:=(fun _ _=>E0)) (k:=?_))
    refine A4 (j:=11) [0] (k:=E2 (ch:=[]) (b:=b3) (off:=3) (v:=.bool ((A5 (blk q2.1,q2.2)).1.has)) (j:=1) ([(r,.cells #[.string (bk ((A5 (blk q2.1,q2.2)).2).1),.int .i64 (((A5 (blk q2.1,q2.2)).2).2)] 97 (0,0))]::[(b3,.cells #[.string (bk (A5 (blk q2.1,q2.2)).1.pre),.string (bk (A5 (blk q2.1,q2.2)).1.name),.string eB,.bool ((A5 (blk q2.1,q2.2)).1.has)] 137 (0,0))]::rg::H) (hoff:=Nat.le_of_ble_eq_true rfl) (hfz:=(fun _ _=>E0)) (k:=?_))
    refine B1 [] [0,3,4] (k:=A0 ?_)
    refine A1 (A3 ?_)
    refine A4 (j:=1) [0] (k:=E7 Tryz.func100 (xskip_ r ((A5 (blk q2.1,q2.2)).2) _ _) ?_)
    rintro _ _ ⟨rfl,rfl⟩
    refine B1 [] [0,3,4] (k:=A0 ?_)
    refine A1 (A3 ?_)
    refine A4 (j:=1) [0] (k:=E7 Tryz.func62 (xmust_ r (blk ((A5 (blk q2.1,q2.2)).2).1,((A5 (blk q2.1,q2.2)).2).2) [61] _ _) ?_)
    rintro _ _ rfl
    refine B1 [] [0,3,4] (k:=A0 ?_)
    refine A1 (A3 ?_)
    refine A4 (j:=1) [0] (k:=E7 Tryz.func100 (xskip_ r (C2 [61] (blk ((A5 (blk q2.1,q2.2)).2).1,((A5 (blk q2.1,q2.2)).2).2)) _ _) ?_)
    rintro _ _ ⟨rfl,rfl⟩
    refine B5 (E':=[⟨0,[],pt r⟩,⟨3,[],.slice ra nl rc⟩,⟨4,[],pt b3⟩]) [] [0,3,4] (k:=A0 ?_)
    refine A1 (Q7 (T:=Unit) (fun _:Unit=>[⟨0,[],pt r⟩,⟨3,[],.slice ra nl rc⟩,⟨4,[],pt b3⟩]) (fun _:Unit=>([(r,.cells #[.string (bk ((C8 (eqX (blk q2.1,q2.2))).2).1),.int .i64 (((C8 (eqX (blk q2.1,q2.2))).2).2)] 97 (0,0))]::[(b3,.cells #[.string (bk (A5 (blk q2.1,q2.2)).1.pre),.string (bk (A5 (blk q2.1,q2.2)).1.name),.string (bk (C8 (eqX (blk q2.1,q2.2))).1),.bool ((A5 (blk q2.1,q2.2)).1.has)] 137 (0,0))]::rg::H)) (fun _:Unit=>True) ?_ ?_)
    ·
     refine B8 (A1 ?_)
     refine A3 (A4 (j:=1) [0] (k:=?_))
     refine E7 Tryz.func102 (xtake_ r (blk (C2 [61] (blk ((A5 (blk q2.1,q2.2)).2).1,((A5 (blk q2.1,q2.2)).2).2)).1,(C2 [61] (blk ((A5 (blk q2.1,q2.2)).2).1,((A5 (blk q2.1,q2.2)).2).2)).2) [34] _ _) ?_
     rintro _ _ (⟨hk6,rfl,rfl⟩ | ⟨hk6,rfl,rfl⟩)
     ·
      have hk6:[34].isPrefixOf (blk (C2 [61] (blk ((A5 (blk q2.1,q2.2)).2).1,((A5 (blk q2.1,q2.2)).2).2)).1,(C2 [61] (blk ((A5 (blk q2.1,q2.2)).2).1,((A5 (blk q2.1,q2.2)).2).2)).2).1=true:=hk6
      have hq1:=hk6
      refine B1 [0] [0,3,4,47] (k:=A0 ?_)
      refine C4 kr (A3 ?_)
      refine A4 (j:=1) [0] (k:=E7 (vs:=[pt r,.string (mB #[34])]) Tryz.func141 (xuntil_ r ((blk (C2 [61] (blk ((A5 (blk q2.1,q2.2)).2).1,((A5 (blk q2.1,q2.2)).2).2)).1,(C2 [61] (blk ((A5 (blk q2.1,q2.2)).2).1,((A5 (blk q2.1,q2.2)).2).2)).2).1.drop 1,(blk (C2 [61] (blk ((A5 (blk q2.1,q2.2)).2).1,((A5 (blk q2.1,q2.2)).2).2)).1,(C2 [61] (blk ((A5 (blk q2.1,q2.2)).2).1,((A5 (blk q2.1,q2.2)).2).2)).2).2) [34] (by first | (show (blk q2.1).length≤_; omega) | (show (List.drop 1 (eqX (blk q2.1,q2.2)).1).length≤_; rw [List.length_drop]; omega)) _ _ hX) ?_)
      rintro _ _ ⟨rfl,rfl⟩
      refine A4 (j:=3) [0] (k:=E2 (ch:=[]) (b:=b3) (off:=2) (v:=.string (bk (F5 [34] ((blk (C2 [61] (blk ((A5 (blk q2.1,q2.2)).2).1,((A5 (blk q2.1,q2.2)).2).2)).1,(C2 [61] (blk ((A5 (blk q2.1,q2.2)).2).1,((A5 (blk q2.1,q2.2)).2).2)).2).1.drop 1,(blk (C2 [61] (blk ((A5 (blk q2.1,q2.2)).2).1,((A5 (blk q2.1,q2.2)).2).2)).1,(C2 [61] (blk ((A5 (blk q2.1,q2.2)).2).1,((A5 (blk q2.1,q2.2)).2).2)).2).2)).1)) (j:=1) ([(r,.cells #[.string (bk ((F5 [34] ((blk (C2 [61] (blk ((A5 (blk q2.1,q2.2)).2).1,((A5 (blk q2.1,q2.2)).2).2)).1,(C2 [61] (blk ((A5 (blk q2.1,q2.2)).2).1,((A5 (blk q2.1,q2.2)).2).2)).2).1.drop 1,(blk (C2 [61] (blk ((A5 (blk q2.1,q2.2)).2).1,((A5 (blk q2.1,q2.2)).2).2)).1,(C2 [61] (blk ((A5 (blk q2.1,q2.2)).2).1,((A5 (blk q2.1,q2.2)).2).2)).2).2)).2).1),.int .i64 (((F5 [34] ((blk (C2 [61] (blk ((A5 (blk q2.1,q2.2)).2).1,((A5 (blk q2.1,q2.2)).2).2)).1,(C2 [61] (blk ((A5 (blk q2.1,q2.2)).2).1,((A5 (blk q2.1,q2.2)).2).2)).2).1.drop 1,(blk (C2 [61] (blk ((A5 (blk q2.1,q2.2)).2).1,((A5 (blk q2.1,q2.2)).2).2)).1,(C2 [61] (blk ((A5 (blk q2.1,q2.2)).2).1,((A5 (blk q2.1,q2.2)).2).2)).2).2)).2).2)] 97 (0,0))]::[(b3,.cells #[.string (bk (A5 (blk q2.1,q2.2)).1.pre),.string (bk (A5 (blk q2.1,q2.2)).1.name),.string (bk (F5 [34] ((blk (C2 [61] (blk ((A5 (blk q2.1,q2.2)).2).1,((A5 (blk q2.1,q2.2)).2).2)).1,(C2 [61] (blk ((A5 (blk q2.1,q2.2)).2).1,((A5 (blk q2.1,q2.2)).2).2)).2).1.drop 1,(blk (C2 [61] (blk ((A5 (blk q2.1,q2.2)).2).1,((A5 (blk q2.1,q2.2)).2).2)).1,(C2 [61] (blk ((A5 (blk q2.1,q2.2)).2).1,((A5 (blk q2.1,q2.2)).2).2)).2).2)).1),.bool ((A5 (blk q2.1,q2.2)).1.has)] 137 (0,0))]::rg::H) (hoff:=Nat.le_of_ble_eq_true rfl) (hfz:=(fun _ _=>E0)) (k:=?_))
      refine B1 [] [0,3,4] (k:=C6 ?_)
      refine W4 (E':=[⟨0,[],pt r⟩,⟨3,[],.slice ra nl rc⟩,⟨4,[],pt b3⟩]) kr ?_
      have hq9:(C8 (eqX (blk q2.1,q2.2)))=F5 [34] ((blk (C2 [61] (blk ((A5 (blk q2.1,q2.2)).2).1,((A5 (blk q2.1,q2.2)).2).2)).1,(C2 [61] (blk ((A5 (blk q2.1,q2.2)).2).1,((A5 (blk q2.1,q2.2)).2).2)).2).1.drop 1,(blk (C2 [61] (blk ((A5 (blk q2.1,q2.2)).2).1,((A5 (blk q2.1,q2.2)).2).2)).1,(C2 [61] (blk ((A5 (blk q2.1,q2.2)).2).1,((A5 (blk q2.1,q2.2)).2).2)).2).2):=quote_1 hq1
      refine N_heq (H':=([(r,.cells #[.string (bk ((C8 (eqX (blk q2.1,q2.2))).2).1),.int .i64 (((C8 (eqX (blk q2.1,q2.2))).2).2)] 97 (0,0))]::[(b3,.cells #[.string (bk (A5 (blk q2.1,q2.2)).1.pre),.string (bk (A5 (blk q2.1,q2.2)).1.name),.string (bk (C8 (eqX (blk q2.1,q2.2))).1),.bool ((A5 (blk q2.1,q2.2)).1.has)] 137 (0,0))]::rg::H)) (by rw [hq9]; try rfl) (H0 (()) [0,3,4] kr (fun w h=>h) trivial)
     ·
      have hk6:¬ [34].isPrefixOf (blk (C2 [61] (blk ((A5 (blk q2.1,q2.2)).2).1,((A5 (blk q2.1,q2.2)).2).2)).1,(C2 [61] (blk ((A5 (blk q2.1,q2.2)).2).1,((A5 (blk q2.1,q2.2)).2).2)).2).1=true:=hk6
      have hq1:=hk6
      refine B1 [0] [0,3,4,47] (k:=A0 ?_)
      refine D3 kr (A1 ?_)
      refine A3 (A4 (j:=1) [0] (k:=?_))
      refine E7 Tryz.func102 (xtake_ r (blk (C2 [61] (blk ((A5 (blk q2.1,q2.2)).2).1,((A5 (blk q2.1,q2.2)).2).2)).1,(C2 [61] (blk ((A5 (blk q2.1,q2.2)).2).1,((A5 (blk q2.1,q2.2)).2).2)).2) [39] _ _) ?_
      rintro _ _ (⟨hk7,rfl,rfl⟩ | ⟨hk7,rfl,rfl⟩)
      ·
       have hk7:[39].isPrefixOf (blk (C2 [61] (blk ((A5 (blk q2.1,q2.2)).2).1,((A5 (blk q2.1,q2.2)).2).2)).1,(C2 [61] (blk ((A5 (blk q2.1,q2.2)).2).1,((A5 (blk q2.1,q2.2)).2).2)).2).1=true:=hk7
       have hq2:=hk7
       refine B1 [0] [0,3,4,53] (k:=A0 ?_)
       refine C4 kr (A3 ?_)
       refine A4 (j:=1) [0] (k:=E7 (vs:=[pt r,.string (mB #[39])]) Tryz.func141 (xuntil_ r ((blk (C2 [61] (blk ((A5 (blk q2.1,q2.2)).2).1,((A5 (blk q2.1,q2.2)).2).2)).1,(C2 [61] (blk ((A5 (blk q2.1,q2.2)).2).1,((A5 (blk q2.1,q2.2)).2).2)).2).1.drop 1,(blk (C2 [61] (blk ((A5 (blk q2.1,q2.2)).2).1,((A5 (blk q2.1,q2.2)).2).2)).1,(C2 [61] (blk ((A5 (blk q2.1,q2.2)).2).1,((A5 (blk q2.1,q2.2)).2).2)).2).2) [39] (by first | (show (blk q2.1).length≤_; omega) | (show (List.drop 1 (eqX (blk q2.1,q2.2)).1).length≤_; rw [List.length_drop]; omega)) _ _ hX) ?_)
       rintro _ _ ⟨rfl,rfl⟩
       refine A4 (j:=3) [0] (k:=E2 (ch:=[]) (b:=b3) (off:=2) (v:=.string (bk (F5 [39] ((blk (C2 [61] (blk ((A5 (blk q2.1,q2.2)).2).1,((A5 (blk q2.1,q2.2)).2).2)).1,(C2 [61] (blk ((A5 (blk q2.1,q2.2)).2).1,((A5 (blk q2.1,q2.2)).2).2)).2).1.drop 1,(blk (C2 [61] (blk ((A5 (blk q2.1,q2.2)).2).1,((A5 (blk q2.1,q2.2)).2).2)).1,(C2 [61] (blk ((A5 (blk q2.1,q2.2)).2).1,((A5 (blk q2.1,q2.2)).2).2)).2).2)).1)) (j:=1) ([(r,.cells #[.string (bk ((F5 [39] ((blk (C2 [61] (blk ((A5 (blk q2.1,q2.2)).2).1,((A5 (blk q2.1,q2.2)).2).2)).1,(C2 [61] (blk ((A5 (blk q2.1,q2.2)).2).1,((A5 (blk q2.1,q2.2)).2).2)).2).1.drop 1,(blk (C2 [61] (blk ((A5 (blk q2.1,q2.2)).2).1,((A5 (blk q2.1,q2.2)).2).2)).1,(C2 [61] (blk ((A5 (blk q2.1,q2.2)).2).1,((A5 (blk q2.1,q2.2)).2).2)).2).2)).2).1),.int .i64 (((F5 [39] ((blk (C2 [61] (blk ((A5 (blk q2.1,q2.2)).2).1,((A5 (blk q2.1,q2.2)).2).2)).1,(C2 [61] (blk ((A5 (blk q2.1,q2.2)).2).1,((A5 (blk q2.1,q2.2)).2).2)).2).1.drop 1,(blk (C2 [61] (blk ((A5 (blk q2.1,q2.2)).2).1,((A5 (blk q2.1,q2.2)).2).2)).1,(C2 [61] (blk ((A5 (blk q2.1,q2.2)).2).1,((A5 (blk q2.1,q2.2)).2).2)).2).2)).2).2)] 97 (0,0))]::[(b3,.cells #[.string (bk (A5 (blk q2.1,q2.2)).1.pre),.string (bk (A5 (blk q2.1,q2.2)).1.name),.string (bk (F5 [39] ((blk (C2 [61] (blk ((A5 (blk q2.1,q2.2)).2).1,((A5 (blk q2.1,q2.2)).2).2)).1,(C2 [61] (blk ((A5 (blk q2.1,q2.2)).2).1,((A5 (blk q2.1,q2.2)).2).2)).2).1.drop 1,(blk (C2 [61] (blk ((A5 (blk q2.1,q2.2)).2).1,((A5 (blk q2.1,q2.2)).2).2)).1,(C2 [61] (blk ((A5 (blk q2.1,q2.2)).2).1,((A5 (blk q2.1,q2.2)).2).2)).2).2)).1),.bool ((A5 (blk q2.1,q2.2)).1.has)] 137 (0,0))]::rg::H) (hoff:=Nat.le_of_ble_eq_true rfl) (hfz:=(fun _ _=>E0)) (k:=?_))
       refine B1 [] [0,3,4] (k:=C6 ?_)
       refine W4 (E':=[⟨0,[],pt r⟩,⟨3,[],.slice ra nl rc⟩,⟨4,[],pt b3⟩]) kr ?_
       have hq9:(C8 (eqX (blk q2.1,q2.2)))=F5 [39] ((blk (C2 [61] (blk ((A5 (blk q2.1,q2.2)).2).1,((A5 (blk q2.1,q2.2)).2).2)).1,(C2 [61] (blk ((A5 (blk q2.1,q2.2)).2).1,((A5 (blk q2.1,q2.2)).2).2)).2).1.drop 1,(blk (C2 [61] (blk ((A5 (blk q2.1,q2.2)).2).1,((A5 (blk q2.1,q2.2)).2).2)).1,(C2 [61] (blk ((A5 (blk q2.1,q2.2)).2).1,((A5 (blk q2.1,q2.2)).2).2)).2).2):=quote_2 hq1 hq2
       refine N_heq (H':=([(r,.cells #[.string (bk ((C8 (eqX (blk q2.1,q2.2))).2).1),.int .i64 (((C8 (eqX (blk q2.1,q2.2))).2).2)] 97 (0,0))]::[(b3,.cells #[.string (bk (A5 (blk q2.1,q2.2)).1.pre),.string (bk (A5 (blk q2.1,q2.2)).1.name),.string (bk (C8 (eqX (blk q2.1,q2.2))).1),.bool ((A5 (blk q2.1,q2.2)).1.has)] 137 (0,0))]::rg::H)) (by rw [hq9]; try rfl) (H0 (()) [0,3,4] kr (fun w h=>h) trivial)
      ·
       have hk7:¬ [39].isPrefixOf (blk (C2 [61] (blk ((A5 (blk q2.1,q2.2)).2).1,((A5 (blk q2.1,q2.2)).2).2)).1,(C2 [61] (blk ((A5 (blk q2.1,q2.2)).2).1,((A5 (blk q2.1,q2.2)).2).2)).2).1=true:=hk7
       have hq2:=hk7
       refine B1 [0] [0,3,4,53] (k:=A0 ?_)
       refine D3 kr (A3 ?_)
       refine A4 (j:=1) [0] (k:=E7 Tryz.func64 (M3 r (blk (C2 [61] (blk ((A5 (blk q2.1,q2.2)).2).1,((A5 (blk q2.1,q2.2)).2).2)).1,(C2 [61] (blk ((A5 (blk q2.1,q2.2)).2).1,((A5 (blk q2.1,q2.2)).2).2)).2) 70 _ _) ?_)
       rintro _ _ rfl
       refine B1 [] [0,3,4] (k:=C6 ?_)
       refine W4 (E':=[⟨0,[],pt r⟩,⟨3,[],.slice ra nl rc⟩,⟨4,[],pt b3⟩]) kr ?_
       have hq9:(C8 (eqX (blk q2.1,q2.2)))=([],E3 70 (blk (C2 [61] (blk ((A5 (blk q2.1,q2.2)).2).1,((A5 (blk q2.1,q2.2)).2).2)).1,(C2 [61] (blk ((A5 (blk q2.1,q2.2)).2).1,((A5 (blk q2.1,q2.2)).2).2)).2)):=quote_3 hq1 hq2
       refine N_heq (H':=([(r,.cells #[.string (bk ((C8 (eqX (blk q2.1,q2.2))).2).1),.int .i64 (((C8 (eqX (blk q2.1,q2.2))).2).2)] 97 (0,0))]::[(b3,.cells #[.string (bk (A5 (blk q2.1,q2.2)).1.pre),.string (bk (A5 (blk q2.1,q2.2)).1.name),.string (bk (C8 (eqX (blk q2.1,q2.2))).1),.bool ((A5 (blk q2.1,q2.2)).1.has)] 137 (0,0))]::rg::H)) (by rw [hq9]; try rfl) (H0 (()) [0,3,4] kr (fun w h=>h) trivial)
    ·
     rintro _ _
     refine A0 (A1 ?_)
     refine A1 (A3 ?_)
     refine A4 (j:=1) [0] (k:=A6 (ch:=[]) (b:=b3) (off:=2) (v:=.string (bk (C8 (eqX (blk q2.1,q2.2))).1)) (hA:=At.grp 1 0 rfl rfl) (k:=?_))
     refine E7 Tryz.func143 (hasW [60] (C8 (eqX (blk q2.1,q2.2))).1 (by have:=(quote_le (eqX (blk q2.1,q2.2))).1; omega) _ _ hX) ?_
     rintro _ _ ⟨rfl,rfl⟩
     refine B1 [] [0,3,4,61] (k:=A0 ?_)
     refine B7 (b:=(idxL [60] (C8 (eqX (blk q2.1,q2.2))).1).isSome) kr (fun hc8=>?_) (fun hc8=>?_)
     ·
      have hc9:(idxL [60] (C8 (eqX (blk q2.1,q2.2))).1).isSome=true:=hc8
      refine A3 (A4 (j:=1) [0] (k:=?_))
      refine E7 Tryz.func64 (M3 r ((C8 (eqX (blk q2.1,q2.2))).2) 70 _ _) ?_
      rintro _ _ rfl
      refine B1 [] [0,3,4] (k:=A0 ?_)
      refine A1 (A3 ?_)
      refine A4 (j:=2) [0,0] (k:=A6 (ch:=[]) (b:=b3) (off:=2) (v:=.string (bk (C8 (eqX (blk q2.1,q2.2))).1)) (hA:=At.grp 1 0 rfl rfl) (k:=?_))
      refine E7 Tryz.func144 (xrefs_ r (E3 70 ((C8 (eqX (blk q2.1,q2.2))).2)) ((C8 (eqX (blk q2.1,q2.2))).1) (by have:=(quote_le (eqX (blk q2.1,q2.2))).1; omega) _ _ hX) ?_
      rintro _ _ ⟨rfl,rfl⟩
      refine A4 (j:=5) [0] (k:=E2 (ch:=[]) (b:=b3) (off:=2) (v:=.string (bk (G7 ((C8 (eqX (blk q2.1,q2.2))).1) (E3 70 ((C8 (eqX (blk q2.1,q2.2))).2))).1)) (j:=1) ([(r,.cells #[.string (bk ((G7 ((C8 (eqX (blk q2.1,q2.2))).1) (E3 70 ((C8 (eqX (blk q2.1,q2.2))).2))).2).1),.int .i64 (((G7 ((C8 (eqX (blk q2.1,q2.2))).1) (E3 70 ((C8 (eqX (blk q2.1,q2.2))).2))).2).2)] 97 (0,0))]::[(b3,.cells #[.string (bk (A5 (blk q2.1,q2.2)).1.pre),.string (bk (A5 (blk q2.1,q2.2)).1.name),.string (bk (G7 ((C8 (eqX (blk q2.1,q2.2))).1) (E3 70 ((C8 (eqX (blk q2.1,q2.2))).2))).1),.bool ((A5 (blk q2.1,q2.2)).1.has)] 137 (0,0))]::rg::H) (hoff:=Nat.le_of_ble_eq_true rfl) (hfz:=(fun _ _=>E0)) (k:=?_))
      refine B1 [] [0,3,4] (k:=A0 ?_)
      refine A3 (A4 (j:=1) [0] (k:=?_))
      refine I5 (ch:=[]) (b:=b3) (off:=0) (l:=[.string (bk (A5 (blk q2.1,q2.2)).1.pre),.string (bk (A5 (blk q2.1,q2.2)).1.name),.string (bk (G7 ((C8 (eqX (blk q2.1,q2.2))).1) (E3 70 ((C8 (eqX (blk q2.1,q2.2))).2))).1),.bool ((A5 (blk q2.1,q2.2)).1.has)]) (hA:=At.grp 1 0 rfl rfl) (k:=D5 (ch:=[]) (e:=137) (l:=[(0,.agg #[.string (bk (A5 (blk q2.1,q2.2)).1.pre),.string (bk (A5 (blk q2.1,q2.2)).1.name),.string (bk (G7 ((C8 (eqX (blk q2.1,q2.2))).1) (E3 70 ((C8 (eqX (blk q2.1,q2.2))).2))).1),.bool ((A5 (blk q2.1,q2.2)).1.has)])]) (c:=[.string (bk (A5 (blk q2.1,q2.2)).1.pre),.string (bk (A5 (blk q2.1,q2.2)).1.name),.string (bk (G7 ((C8 (eqX (blk q2.1,q2.2))).1) (E3 70 ((C8 (eqX (blk q2.1,q2.2))).2))).1),.bool ((A5 (blk q2.1,q2.2)).1.has)]) (k:=(fun b9=>?_)))
      refine G4 (i:=3) (ch:=[]) (t:=132) (tx:=132) (e:=137) (inf:=Tryz.t137) (s:=.slice ra nl rc) (x:=.slice (some ⟨b9,0,none⟩) 1 1) (n:=nl) (m:=1) (j:=3) (cs:=(atV acc)) (news:=[.string (bk (A5 (blk q2.1,q2.2)).1.pre),.string (bk (A5 (blk q2.1,q2.2)).1.name),.string (bk (G7 ((C8 (eqX (blk q2.1,q2.2))).1) (E3 70 ((C8 (eqX (blk q2.1,q2.2))).2))).1),.bool ((A5 (blk q2.1,q2.2)).1.has)]) (g:=rg) (S:=(inG [(b9,.cells #[.string (bk (A5 (blk q2.1,q2.2)).1.pre),.string (bk (A5 (blk q2.1,q2.2)).1.name),.string (bk (G7 ((C8 (eqX (blk q2.1,q2.2))).1) (E3 70 ((C8 (eqX (blk q2.1,q2.2))).2))).1),.bool ((A5 (blk q2.1,q2.2)).1.has)] 137 (0,0))])) rfl rfl rfl rfl kr kr kr rfl rfl (.inl ⟨137,kr⟩) (fun ⟨_,h⟩=>by cases h) (fun _=>⟨137,kr⟩) kr kr kr rfl hO (SrcOf.slice _ _ _ _ Rd.lit (fun h=>by cases h)) (D4 0 rfl) kr (by intro u hu; simp only [List.mem_cons,List.not_mem_nil,or_false] at hu; rcases hu with rfl | rfl | rfl | rfl <;> rfl) (by omega) (by show (nl+1) * 56≤140737488355328; omega) (fun v10 g11 hO12=>?_)
      obtain ⟨a13,cap14,rfl,hcap15,hrd16⟩:=hO12.shape
      refine B1 [0] [0,3] (k:=C6 ?_)
      refine C1 (H':=([(r,.cells #[.string (bk ((G7 ((C8 (eqX (blk q2.1,q2.2))).1) (E3 70 ((C8 (eqX (blk q2.1,q2.2))).2))).2).1),.int .i64 (((G7 ((C8 (eqX (blk q2.1,q2.2))).1) (E3 70 ((C8 (eqX (blk q2.1,q2.2))).2))).2).2)] 97 (0,0))]::g11::H)) (fun w h=>((h.erase 2).erase 0)) (E9 (s':=(m,(acc++[AT.mk (A5 (blk q2.1,q2.2)).1 (G7 (C8 (eqX (blk q2.1,q2.2))).1 (E3 70 (C8 (eqX (blk q2.1,q2.2))).2)).1]),(G7 ((C8 (eqX (blk q2.1,q2.2))).1) (E3 70 ((C8 (eqX (blk q2.1,q2.2))).2))).2,(nl+1),a13,cap14,g11)) [0,3] kr kr ⟨(by dsimp only; rw [hT,attrs_go hq0 hsk hp1 hp2,attr_yes hc9]),(by dsimp only; intro _; have h9:=attrX_le (blk q2.1,q2.2); rw [attr_yes hc9] at h9; dsimp only at h9; omega),(by dsimp only; have h9:=attrX_le (blk q2.1,q2.2); rw [attr_yes hc9] at h9; dsimp only at h9; omega),(by dsimp only; rw [atV_app]; exact hO12),(by dsimp only; rw [List.length_append,hnl]; rfl),(by dsimp only; omega)⟩ (by dsimp only; omega))
     ·
      have hc9:(idxL [60] (C8 (eqX (blk q2.1,q2.2))).1).isSome=false:=hc8
      refine B4 (A0 ?_)
      refine A1 (A3 ?_)
      refine A4 (j:=2) [0,0] (k:=A6 (ch:=[]) (b:=b3) (off:=2) (v:=.string (bk (C8 (eqX (blk q2.1,q2.2))).1)) (hA:=At.grp 1 0 rfl rfl) (k:=?_))
      refine E7 Tryz.func144 (xrefs_ r ((C8 (eqX (blk q2.1,q2.2))).2) ((C8 (eqX (blk q2.1,q2.2))).1) (by have:=(quote_le (eqX (blk q2.1,q2.2))).1; omega) _ _ hX) ?_
      rintro _ _ ⟨rfl,rfl⟩
      refine A4 (j:=5) [0] (k:=E2 (ch:=[]) (b:=b3) (off:=2) (v:=.string (bk (G7 ((C8 (eqX (blk q2.1,q2.2))).1) ((C8 (eqX (blk q2.1,q2.2))).2)).1)) (j:=1) ([(r,.cells #[.string (bk ((G7 ((C8 (eqX (blk q2.1,q2.2))).1) ((C8 (eqX (blk q2.1,q2.2))).2)).2).1),.int .i64 (((G7 ((C8 (eqX (blk q2.1,q2.2))).1) ((C8 (eqX (blk q2.1,q2.2))).2)).2).2)] 97 (0,0))]::[(b3,.cells #[.string (bk (A5 (blk q2.1,q2.2)).1.pre),.string (bk (A5 (blk q2.1,q2.2)).1.name),.string (bk (G7 ((C8 (eqX (blk q2.1,q2.2))).1) ((C8 (eqX (blk q2.1,q2.2))).2)).1),.bool ((A5 (blk q2.1,q2.2)).1.has)] 137 (0,0))]::rg::H) (hoff:=Nat.le_of_ble_eq_true rfl) (hfz:=(fun _ _=>E0)) (k:=?_))
      refine B1 [] [0,3,4] (k:=A0 ?_)
      refine A3 (A4 (j:=1) [0] (k:=?_))
      refine I5 (ch:=[]) (b:=b3) (off:=0) (l:=[.string (bk (A5 (blk q2.1,q2.2)).1.pre),.string (bk (A5 (blk q2.1,q2.2)).1.name),.string (bk (G7 ((C8 (eqX (blk q2.1,q2.2))).1) ((C8 (eqX (blk q2.1,q2.2))).2)).1),.bool ((A5 (blk q2.1,q2.2)).1.has)]) (hA:=At.grp 1 0 rfl rfl) (k:=D5 (ch:=[]) (e:=137) (l:=[(0,.agg #[.string (bk (A5 (blk q2.1,q2.2)).1.pre),.string (bk (A5 (blk q2.1,q2.2)).1.name),.string (bk (G7 ((C8 (eqX (blk q2.1,q2.2))).1) ((C8 (eqX (blk q2.1,q2.2))).2)).1),.bool ((A5 (blk q2.1,q2.2)).1.has)])]) (c:=[.string (bk (A5 (blk q2.1,q2.2)).1.pre),.string (bk (A5 (blk q2.1,q2.2)).1.name),.string (bk (G7 ((C8 (eqX (blk q2.1,q2.2))).1) ((C8 (eqX (blk q2.1,q2.2))).2)).1),.bool ((A5 (blk q2.1,q2.2)).1.has)]) (k:=(fun b17=>?_)))
      refine G4 (i:=3) (ch:=[]) (t:=132) (tx:=132) (e:=137) (inf:=Tryz.t137) (s:=.slice ra nl rc) (x:=.slice (some ⟨b17,0,none⟩) 1 1) (n:=nl) (m:=1) (j:=3) (cs:=(atV acc)) (news:=[.string (bk (A5 (blk q2.1,q2.2)).1.pre),.string (bk (A5 (blk q2.1,q2.2)).1.name),.string (bk (G7 ((C8 (eqX (blk q2.1,q2.2))).1) ((C8 (eqX (blk q2.1,q2.2))).2)).1),.bool ((A5 (blk q2.1,q2.2)).1.has)]) (g:=rg) (S:=(inG [(b17,.cells #[.string (bk (A5 (blk q2.1,q2.2)).1.pre),.string (bk (A5 (blk q2.1,q2.2)).1.name),.string (bk (G7 ((C8 (eqX (blk q2.1,q2.2))).1) ((C8 (eqX (blk q2.1,q2.2))).2)).1),.bool ((A5 (blk q2.1,q2.2)).1.has)] 137 (0,0))])) rfl rfl rfl rfl kr kr kr rfl rfl (.inl ⟨137,kr⟩) (fun ⟨_,h⟩=>by cases h) (fun _=>⟨137,kr⟩) kr kr kr rfl hO (SrcOf.slice _ _ _ _ Rd.lit (fun h=>by cases h)) (D4 0 rfl) kr (by intro u hu; simp only [List.mem_cons,List.not_mem_nil,or_false] at hu; rcases hu with rfl | rfl | rfl | rfl <;> rfl) (by omega) (by show (nl+1) * 56≤140737488355328; omega) (fun v18 g19 hO20=>?_)
      obtain ⟨a21,cap22,rfl,hcap23,hrd24⟩:=hO20.shape
      refine B1 [0] [0,3] (k:=C6 ?_)
      refine C1 (H':=([(r,.cells #[.string (bk ((G7 ((C8 (eqX (blk q2.1,q2.2))).1) ((C8 (eqX (blk q2.1,q2.2))).2)).2).1),.int .i64 (((G7 ((C8 (eqX (blk q2.1,q2.2))).1) ((C8 (eqX (blk q2.1,q2.2))).2)).2).2)] 97 (0,0))]::g19::H)) (fun w h=>((h.erase 2).erase 0)) (E9 (s':=(m,(acc++[AT.mk (A5 (blk q2.1,q2.2)).1 (G7 (C8 (eqX (blk q2.1,q2.2))).1 (C8 (eqX (blk q2.1,q2.2))).2).1]),(G7 ((C8 (eqX (blk q2.1,q2.2))).1) ((C8 (eqX (blk q2.1,q2.2))).2)).2,(nl+1),a21,cap22,g19)) [0,3] kr kr ⟨(by dsimp only; rw [hT,attrs_go hq0 hsk hp1 hp2,attr_no hc9]),(by dsimp only; intro _; have h9:=attrX_le (blk q2.1,q2.2); rw [attr_no hc9] at h9; dsimp only at h9; omega),(by dsimp only; have h9:=attrX_le (blk q2.1,q2.2); rw [attr_no hc9] at h9; dsimp only at h9; omega),(by dsimp only; rw [atV_app]; exact hO20),(by dsimp only; rw [List.length_append,hnl]; rfl),(by dsimp only; omega)⟩ (by dsimp only; omega))
   ·
    simp only [Bool.and_eq_false_iff,Bool.not_eq_false'] at hc2
    have hps:[62].isPrefixOf (blk q2.1)=true∨[47,62].isPrefixOf (blk q2.1)=true:=hc2.imp (fun h=>pre_iff.1 ((N4 (bk (blk q2.1)) (mB #[62])).1 h)) (fun h=>pre_iff.1 ((N4 (bk (blk q2.1)) (mB #[47,62])).1 h))
    refine H7 (B0 ?_)
    refine B0 (C7 ?_)
    refine A0 (A1 ?_)
    refine C3 (E':=[⟨2,[],.slice ra nl rc⟩]) [0,0] [2] (k:=A0 ?_)
    refine C5 (B9 [.tmp 2] [.slice ra nl rc] (k:=?_))
    subst hnl; rw [hT,attrs_stop hq0 (.inr hps)]; exact ⟨_,_,_,rfl,hO,rfl⟩
  ·
   have hsk:¬ (blk q2.1).length<q2.1.length:=hs1
   refine B1 [2,0,1,1,1,1,1,1,3,0,1,1,1,1,1,1,3] [0,3,29] (k:=A0 ?_)
   refine D3 kr (H7 ?_)
   refine B0 (B0 ?_)
   refine C7 (A0 ?_)
   refine A1 (C3 (E':=[⟨2,[],.slice ra nl rc⟩]) [0,0] [2] (k:=?_))
   refine A0 (C5 ?_)
   refine B9 [.tmp 2] [.slice ra nl rc] (k:=?_)
   subst hnl; rw [hT,attrs_stop hq0 (.inl hsk)]; exact ⟨_,_,_,rfl,hO,rfl⟩
 ·
  refine A3 (A4 (j:=3) [0,0,0] (k:=?_))
  refine A6 (ch:=[]) (b:=r) (off:=1) (v:=.int .i64 q2.2) (hA:=At.grp 0 0 rfl rfl) (k:=G5 (E':=[⟨9,[],.bool (q2.2==0)⟩,⟨0,[],pt r⟩,⟨3,[],.slice ra nl rc⟩]) (j:=5) [0] (k:=?_))
  refine F0 (E':=[⟨9,[],.bool false⟩,⟨0,[],pt r⟩,⟨3,[],.slice ra nl rc⟩]) (by rw [show (q2.2==0)=false by simpa using hq0]) (B1 [0,1,1,3,0,1,1,1,1,1,1,3,0,1,1,1,1,1,1,3] [0,3,29] (k:=?_))
  refine A0 (D3 kr ?_)
  refine H7 (B0 ?_)
  refine B0 (C7 ?_)
  refine A0 (A1 ?_)
  refine C3 (E':=[⟨2,[],.slice ra nl rc⟩]) [0,0] [2] (k:=A0 ?_)
  refine C5 (B9 [.tmp 2] [.slice ra nl rc] (k:=?_))
  subst hnl; rw [hT,attrs_ne hq0]; exact ⟨_,_,_,rfl,hO,rfl⟩
end Go.Proofs.YtppgfiklmfoaeaaGreatDoor
namespace Go.Json
open Go.Lib Go.Esc Go.Sw
theorem must_le (c:UInt8) (r:RdS):(mustR c r).1.length≤r.1.length:=by
  unfold mustR
  split
  · show (List.drop _ _).length≤_; rw [List.length_drop]; omega
  · exact Nat.le_refl _
theorem JRep.shape {ts tj:TypeId} {v:JV} {c:List Value} {g:Grp} (h:JRep ts tj v c g):∃ (k:Int) (t:ByteArray) (an:Option Addr) (n cn:Nat) (al:Option Addr) (m cl:Nat),c=[.int .i64 k,.string t,.slice an n cn,.slice al m cl]:=by
  cases h; exact ⟨_,_,_,_,_,_,_,_,rfl⟩
theorem JRd.shape {S:Nat→Obj→Prop} {v:JV} {c:List Value} (h:JRd S v c):∃ (an al:Option Addr) (cn cl:Nat) (cs:List Value),c=[.int .i64 v.kind,.string (bk v.text),.slice an v.names.length cn,.slice al v.list.length cl]∧Rd S an (strV v.names)∧Rd S al cs∧JRdL S v.list cs:=by
  cases h with
  | mk h1 h2 h3=>exact ⟨_,_,_,_,_,rfl,h1,h2,h3⟩
variable {lv : Nat} {q q1 : RdS}
end Go.Json
namespace Go.Json
open Go.Lib Go.Esc
theorem prL_nil (obj fst:Bool) (ns:List (List UInt8)):prL obj fst ns []=[]:=by unfold prL; rfl
theorem prL_cons (obj fst:Bool) (ns:List (List UInt8)) (v:JV) (l:List JV):prL obj fst ns (v::l)=(if fst then [] else [44])++((if obj then jsonL (ns.headD [])++[58] else [])++(prP v++prL obj false ns.tail l)):=by rw [prL]
end Go.Json
namespace Go.Json
open Go.Lib Go.Esc Go.Sw
abbrev jvC (x:JV) (an:Option Addr) (cn:Nat) (al:Option Addr) (cl:Nat):List Value:=[.int .i64 x.kind,.string (bk x.text),.slice an x.names.length cn,.slice al x.list.length cl]
theorem JRdL.get {S:Nat→Obj→Prop} {l:List JV} {cs:List Value} {k:Nat} (h:k<l.length) (hc:JRdL S l cs):∃ (x:JV) (an:Option Addr) (cn:Nat) (al:Option Addr) (cl:Nat) (cs2:List Value),x=l[k]∧(cs.drop (k * 4)).take 4=jvC x an cn al cl∧Rd S an (strV x.names)∧Rd S al cs2∧JRdL S x.list cs2:=by
  obtain ⟨an,al,cn,cl,cs2,h1,h2,h3,h4⟩:=(JRdL.at h hc).shape
  exact ⟨l[k],an,cn,al,cl,cs2,rfl,h1,h2,h3,h4⟩
theorem elt4 {cs l:List Value} {q:Nat} (h:(cs.drop q).take 4=l):∀ m (hm:m<l.length),cs[q+m]? = some l[m]:=by
  intro m hm
  subst h
  have h4:m<4:=by rw [List.length_take] at hm; omega
  rw [← List.getElem?_eq_getElem hm,List.getElem?_take_of_lt h4,List.getElem?_drop]
end Go.Json
namespace Go.Proofs.YtppgfiklmfoaeaaGreatDoor
open Go.Sw Go.Sha Go.Esc Go.RowKit Go.Json Go.Xml
theorem xclone_ (kb kc:Nat) (km:SM) (W0:World) (H:List Grp):Tri Tryz.prog 145 #[.map (some kb)] W0 ([(kb,.map (C9 km) kc)]::H) (fun v H'=>∃ b,v=.map (some b)∧H'=[(b,.map (C9 km) kc)]::[(kb,.map (C9 km) kc)]::H):=by
 refine D0 (args:=[.map (some kb)]) (n:=9) Tryz.func145 rfl rfl (Nat.le_of_ble_eq_true rfl) ?_
 refine A1 (C3 (E':=[⟨0,[],.map (some kb)⟩]) [0] [0] (k:=?_))
 refine A0 (A1 ?_)
 refine A1 (G_p [0,0] [0,4] (k:=?_))
 refine A0 (D3 kr ?_)
 refine B4 (A0 ?_)
 refine A1 (A3 ?_)
 refine A4 (j:=2) [0,0] (k:=GL_cloneX (i:=2) (ch:=[]) (f:=170) (t:=100) (r:=kb) (clock:=kc) (es:=C9 km) rfl rfl rfl kr kr Tryz.func170 kr rfl kr kr kr kr kr (At.grp 0 0 rfl rfl) (fun b1=>?_))
 refine GL_assert (i:=3) (ch:=[]) (xt:=20) (t:=100) (k:=9) (e:=9) (v:=.map (some b1)) rfl rfl kr kr kr kr kr (B5 (E':=[⟨2,[],.map (some b1)⟩]) [0] [2] (k:=?_))
 refine A0 (C5 ?_)
 refine B9 [.tmp 2] [.map (some b1)] (k:=?_)
 exact ⟨_,rfl,rfl⟩
theorem xspaces_ (r:Nat) (q:XS) (ats:List AT) (a:Option Addr) (c:Nat) (S:Nat→Obj→Prop) (hrd:Rd S a (atV ats)) (hal:ats.length≤1000002) (ms mc:Nat) (M:SM) (sp:SPX) (hM:SpR M sp) (W0:World) (H:List Grp) (hS:∀ y o,S y o→At W0 H y o):Tri Tryz.prog 105 #[pt r,.slice a ats.length c,.map (some ms)] W0 ([(r,.cells #[.string (bk q.1),.int .i64 q.2] 97 (0,0))]::[(ms,.map (C9 M) mc)]::H) (fun v H'=>∃ mo Mo co,v=.map (some mo)∧SpR Mo (L5 ats [] sp q).1∧H'=rdX r (L5 ats [] sp q).2::[(mo,.map (C9 Mo) co)]::[(ms,.map (C9 M) mc)]::H):=by
 refine D0 (args:=[pt r,.slice a ats.length c,.map (some ms)]) (n:=61) Tryz.func105 rfl rfl (Nat.le_of_ble_eq_true rfl) ?_
 refine A1 (G_p [0] [0,1,2] (k:=?_))
 refine A0 (A1 ?_)
 refine A3 (A4 (j:=1) [0] (k:=?_))
 refine H4 rfl (H':=([(ms,.map (C9 M) mc)]::[(r,.cells #[.string (bk q.1),.int .i64 q.2] 97 (0,0))]::H)) (fun w h=>(h.front (j:=1) rfl)) (E7 Tryz.func145 (xclone_ ms mc M _ _) ?_)
 rintro _ _ ⟨mo,rfl,rfl⟩
 refine B1 [0] [0,1,7] (k:=A0 ?_)
 refine A1 (A3 ?_)
 refine GL_makeMap (i:=0) (ch:=[]) rfl rfl kr kr kr (fun b1=>B1 [0] [0,1,7,8] (k:=?_))
 refine A0 (A1 ?_)
 refine A1 (G_p [0,0,0] [0,7,8,15,16,17] (k:=?_))
 refine A0 (B8 ?_)
 refine G_heap (H':=([(r,.cells #[.string (bk q.1),.int .i64 q.2] 97 (0,0))]::[(mo,.map (C9 M) mc)]::[(b1,.map (C9 ([])) 0)]::[(ms,.map (C9 M) mc)]::H)) (fun w h=>((((h.front (j:=2) rfl).front (j:=1) rfl).front (j:=2) rfl).front (j:=3) rfl)) (L4 (EI:=(fun ξ:Nat × XS × SPX × List (List UInt8) × SM × Nat × SM × Nat=>[⟨0,[],pt r⟩,⟨7,[],.map (some mo)⟩,⟨8,[],.map (some b1)⟩,⟨15,[],.slice a ats.length c⟩,⟨16,[],.int .i64 ((ats.length:Nat):Int)⟩,⟨17,[],.int .i64 ((ξ.1:Nat):Int)⟩])) (HI:=(fun ξ:Nat × XS × SPX × List (List UInt8) × SM × Nat × SM × Nat=>([(r,.cells #[.string (bk ξ.2.1.1),.int .i64 ξ.2.1.2] 97 (0,0))]::[(mo,.map (C9 ξ.2.2.2.2.1) ξ.2.2.2.2.2.1)]::[(b1,.map (C9 ξ.2.2.2.2.2.2.1) ξ.2.2.2.2.2.2.2)]::[(ms,.map (C9 M) mc)]::H))) (Φ:=(fun ξ:Nat × XS × SPX × List (List UInt8) × SM × Nat × SM × Nat=>(ξ.1≤ats.length)∧((L5 ats [] sp q)=L5 (ats.drop ξ.1) ξ.2.2.2.1 ξ.2.2.1 ξ.2.1)∧(SpR ξ.2.2.2.2.1 ξ.2.2.1)∧(SeR ξ.2.2.2.2.2.2.1 ξ.2.2.2.1))) (μ:=(fun ξ:Nat × XS × SPX × List (List UInt8) × SM × Nat × SM × Nat=>ats.length - ξ.1)) (s0:=(0,q,sp,[],M,mc,[],0)) [0,7,8,15,16,17] kr kr ⟨(Nat.zero_le _),rfl,hM,SeR.nil⟩ ?_)
 rintro ⟨k,q2,sp2,seen,Mo,co,Ms,cs⟩ ⟨hkl,hT,hMo,hMs⟩
 dsimp only at hkl hT hMo hMs
 refine A1 (G_p [0] [0,7,8,15,16,17,18] (k:=?_))
 refine A0 (A1 ?_)
 refine B7 (b:=decide (((k:Nat):Int)<((ats.length:Nat):Int))) kr (fun hc2=>?_) (fun hc2=>?_)
 ·
  have hk:k<ats.length:=by have:=hc2; simp only [decide_eq_true_eq] at this; omega
  refine B4 (A0 ?_)
  refine A1 (B8 ?_)
  refine A1 (A3 ?_)
  refine A9 (ch:=[]) (a:=a) (len:=ats.length) (cap:=c) (kd:=.i64) (j:=((k:Nat):Int)) (e:=137) (sz:=4) (S:=S) (cs:=(atV ats)) (hrd:=hrd) (hb:=(fun _=>by exact ⟨by omega,by omega,by intro h; have:=congrArg List.length h; rw [atV_len] at this; simp only [List.length_nil] at this; omega⟩)) (k:=?_)
  obtain ⟨x,hx⟩:∃ x,x=ats[k]'hk:=⟨_,rfl⟩
  refine L0 (ch:=[]) (a:=a) (q:=k * 4) (S:=S) (cs:=(atV ats)) (l:=[.string (bk x.q.pre),.string (bk x.q.name),.string (bk x.value),.bool x.q.has]) (hrd:=hrd) (hS:=(fun y o h=>At.cons (At.cons (At.cons (At.cons (hS y o h)))))) (hl:=List.cons_ne_nil _ _) (hv:=(fun _=>(elt4 (by rw [hx]; exact atV_at hk)))) (k:=H5 (ch:=[]) (z:=.agg #[.string eB,.string eB,.string eB,.bool false]) (k:=(fun b3=>?_)))
  refine E2 (ch:=[]) (b:=b3) (off:=0) (v:=.agg #[.string (bk x.q.pre),.string (bk x.q.name),.string (bk x.value),.bool x.q.has]) (j:=0) ([(b3,.cells #[.string (bk x.q.pre),.string (bk x.q.name),.string (bk x.value),.bool x.q.has] 137 (0,0))]::[(r,.cells #[.string (bk q2.1),.int .i64 q2.2] 97 (0,0))]::[(mo,.map (C9 Mo) co)]::[(b1,.map (C9 Ms) cs)]::[(ms,.map (C9 M) mc)]::H) (hoff:=Nat.le_of_ble_eq_true rfl) (hfz:=(fun _ _=>E0)) (k:=B1 [] [0,7,8,10,15,16,17] (k:=?_))
  refine A0 (A1 ?_)
  refine A3 (A4 (j:=1) [0] (k:=?_))
  refine A6 (ch:=[]) (b:=b3) (off:=1) (v:=.string (bk x.q.name)) (hA:=At.grp 0 0 rfl rfl) (k:=B1 [0] [0,7,8,10,11,15,16,17] (k:=?_))
  refine A0 (A1 ?_)
  refine A1 (A3 ?_)
  refine A4 (j:=1) [0] (k:=A6 (ch:=[]) (b:=b3) (off:=3) (v:=.bool x.q.has) (hA:=At.grp 0 0 rfl rfl) (k:=?_))
  refine A4 (j:=5) [0,0,0] (k:=A6 (ch:=[(26,true)]) (b:=b3) (off:=1) (v:=.string (bk x.q.name)) (hA:=At.grp 0 0 rfl rfl) (k:=?_))
  refine B1 [0,6] [0,7,8,10,11,15,16,17,30] (k:=A0 ?_)
  refine B7 (b:=(!x.q.has)&&((bk x.q.name).toList==(mB #[120,109,108,110,115]).toList)) kr (fun hc4=>?_) (fun hc4=>?_)
  ·
   have hd:Q4 x=some []:=by have h:=hc4; simp only [Bool.and_eq_true,Bool.not_eq_true'] at h; exact decl_own h.1 ((eqB _ _).1 h.2)
   refine G_p [0] [0,7,8,10,11,15,16,17] (k:=A0 ?_)
   refine A1 (A1 ?_)
   refine A3 (A4 (j:=2) [0,0] (k:=?_))
   by_cases hps:([]:List UInt8)∈seen
   ·
    refine W6 (ch:=[]) (kt:=9) (et:=4) (r:=b1) (c:=cs) (m:=Ms) (k:=eB) (z:=.bool false) (ov:=(some (.bool true))) (hA:=At.grp 3 0 rfl rfl) (hg:=(fun _=>(by have h:=hMs ([]:List UInt8); rw [if_pos hps] at h; exact h))) (kk:=B5 (E':=[⟨0,[],pt r⟩,⟨7,[],.map (some mo)⟩,⟨8,[],.map (some b1)⟩,⟨10,[],pt b3⟩,⟨11,[],.string eB⟩,⟨15,[],.slice a ats.length c⟩,⟨16,[],.int .i64 ((ats.length:Nat):Int)⟩,⟨17,[],.int .i64 ((k:Nat):Int)⟩,⟨50,[],.bool true⟩]) [0,1,1,1,1,1,1,1,2] [0,7,8,10,11,15,16,17,50] (k:=?_))
    refine A0 (C4 kr ?_)
    refine A3 (A4 (j:=1) [0] (k:=?_))
    refine H4 rfl (H':=([(r,.cells #[.string (bk q2.1),.int .i64 q2.2] 97 (0,0))]::[(b3,.cells #[.string (bk x.q.pre),.string (bk x.q.name),.string (bk x.value),.bool x.q.has] 137 (0,0))]::[(mo,.map (C9 Mo) co)]::[(b1,.map (C9 Ms) cs)]::[(ms,.map (C9 M) mc)]::H)) (fun w h=>(h.front (j:=1) rfl)) (E7 Tryz.func64 (M3 r q2 70 _ _) ?_)
    rintro _ _ rfl
    refine B1 [] [0,7,8,10,11,15,16,17] (k:=A0 ?_)
    refine A1 (A3 ?_)
    refine A4 (j:=2) [0,0] (k:=L8 (ch:=[]) (kt:=9) (et:=4) (r:=b1) (c:=cs) (j:=3) (q:=0) (m:=Ms) (k:=eB) (v:=.bool true) (H':=([(r,.cells #[.string (bk (E3 70 q2).1),.int .i64 ((E3 70 q2).2)] 97 (0,0))]::[(b3,.cells #[.string (bk x.q.pre),.string (bk x.q.name),.string (bk x.value),.bool x.q.has] 137 (0,0))]::[(mo,.map (C9 Mo) co)]::[(b1,.map (C9 (I2 Ms cs eB (.bool true))) (if J0 Ms eB then cs else cs+1))]::[(ms,.map (C9 M) mc)]::H)) (hop:=.inl rfl) (kk:=?_))
    refine B1 [] [0,7,8,10,11,15,16,17] (k:=A0 ?_)
    refine A3 (A4 (j:=3) [0,0,0] (k:=?_))
    refine A6 (ch:=[]) (b:=b3) (off:=2) (v:=.string (bk x.value)) (hA:=At.grp 1 0 rfl rfl) (k:=L8 (ch:=[]) (kt:=9) (et:=9) (r:=mo) (c:=co) (j:=2) (q:=0) (m:=Mo) (k:=eB) (v:=.string (bk x.value)) (H':=([(r,.cells #[.string (bk (E3 70 q2).1),.int .i64 ((E3 70 q2).2)] 97 (0,0))]::[(b3,.cells #[.string (bk x.q.pre),.string (bk x.q.name),.string (bk x.value),.bool x.q.has] 137 (0,0))]::[(mo,.map (C9 (I2 Mo co eB (.string (bk x.value)))) (if J0 Mo eB then co else co+1))]::[(b1,.map (C9 (I2 Ms cs eB (.bool true))) (if J0 Ms eB then cs else cs+1))]::[(ms,.map (C9 M) mc)]::H)) (hop:=.inl rfl) (kk:=?_))
    refine B1 [] [0,7,8,15,16,17] (k:=C6 ?_)
    refine A0 (A3 ?_)
    refine A4 (j:=1) [0] (k:=F6 59 (((k:Nat):Int)+1) (by omega) (by omega) kr ?_)
    refine B1 [0] [0,7,8,15,16,17] (k:=C1 (H':=([(r,.cells #[.string (bk (E3 70 q2).1),.int .i64 ((E3 70 q2).2)] 97 (0,0))]::[(mo,.map (C9 (I2 Mo co eB (.string (bk x.value)))) (if J0 Mo eB then co else co+1))]::[(b1,.map (C9 (I2 Ms cs eB (.bool true))) (if J0 Ms eB then cs else cs+1))]::[(ms,.map (C9 M) mc)]::H)) (fun w h=>(h.erase 1)) ?_)
    refine E9 (s':=((k+1),(E3 70 q2),((([]:List UInt8),x.value)::sp2),(([]:List UInt8)::seen),(I2 Mo co eB (.string (bk x.value))),(if J0 Mo eB then co else co+1),(I2 Ms cs eB (.bool true)),(if J0 Ms eB then cs else cs+1))) [0,7,8,15,16,17] kr kr ⟨(by dsimp only; omega),(by dsimp only; rw [hT,L7 hk,← hx,sp_step hd,if_pos (.inl hps)]),(hMo.put _ _ _),(hMs.put _ _)⟩ (by dsimp only; omega)
   ·
    refine W6 (ch:=[]) (kt:=9) (et:=4) (r:=b1) (c:=cs) (m:=Ms) (k:=eB) (z:=.bool false) (ov:=none) (hA:=At.grp 3 0 rfl rfl) (hg:=(fun _=>(by have h:=hMs ([]:List UInt8); rw [if_neg hps] at h; exact h))) (kk:=A4 (j:=5) [0,0] (k:=?_))
    refine A6 (ch:=[(42,false)]) (b:=b3) (off:=3) (v:=.bool x.q.has) (hA:=At.grp 0 0 rfl rfl) (k:=A4 (j:=8) [0,0] (k:=?_))
    refine A6 (ch:=[(45,true),(42,false)]) (b:=b3) (off:=2) (v:=.string (bk x.value)) (hA:=At.grp 0 0 rfl rfl) (k:=B5 (E':=[⟨0,[],pt r⟩,⟨7,[],.map (some mo)⟩,⟨8,[],.map (some b1)⟩,⟨10,[],pt b3⟩,⟨11,[],.string eB⟩,⟨15,[],.slice a ats.length c⟩,⟨16,[],.int .i64 ((ats.length:Nat):Int)⟩,⟨17,[],.int .i64 ((k:Nat):Int)⟩,⟨50,[],.bool (x.q.has&&((bk x.value).toList==eB.toList))⟩]) [0,6,3] [0,7,8,10,11,15,16,17,50] (k:=?_))
    refine A0 (B7 (b:=x.q.has&&((bk x.value).toList==eB.toList)) kr (fun hc6=>?_) (fun hc6=>?_))
    ·
     have hem:x.q.has=true∧x.value=[]:=by have h:=hc6; simp only [Bool.and_eq_true] at h; exact ⟨h.1,(eqB _ _).1 h.2⟩
     refine A3 (A4 (j:=1) [0] (k:=?_))
     refine H4 rfl (H':=([(r,.cells #[.string (bk q2.1),.int .i64 q2.2] 97 (0,0))]::[(b3,.cells #[.string (bk x.q.pre),.string (bk x.q.name),.string (bk x.value),.bool x.q.has] 137 (0,0))]::[(mo,.map (C9 Mo) co)]::[(b1,.map (C9 Ms) cs)]::[(ms,.map (C9 M) mc)]::H)) (fun w h=>(h.front (j:=1) rfl)) (E7 Tryz.func64 (M3 r q2 70 _ _) ?_)
     rintro _ _ rfl
     refine B1 [] [0,7,8,10,11,15,16,17] (k:=A0 ?_)
     refine A1 (A3 ?_)
     refine A4 (j:=2) [0,0] (k:=L8 (ch:=[]) (kt:=9) (et:=4) (r:=b1) (c:=cs) (j:=3) (q:=0) (m:=Ms) (k:=eB) (v:=.bool true) (H':=([(r,.cells #[.string (bk (E3 70 q2).1),.int .i64 ((E3 70 q2).2)] 97 (0,0))]::[(b3,.cells #[.string (bk x.q.pre),.string (bk x.q.name),.string (bk x.value),.bool x.q.has] 137 (0,0))]::[(mo,.map (C9 Mo) co)]::[(b1,.map (C9 (I2 Ms cs eB (.bool true))) (if J0 Ms eB then cs else cs+1))]::[(ms,.map (C9 M) mc)]::H)) (hop:=.inl rfl) (kk:=?_))
     refine B1 [] [0,7,8,10,11,15,16,17] (k:=A0 ?_)
     refine A3 (A4 (j:=3) [0,0,0] (k:=?_))
     refine A6 (ch:=[]) (b:=b3) (off:=2) (v:=.string (bk x.value)) (hA:=At.grp 1 0 rfl rfl) (k:=L8 (ch:=[]) (kt:=9) (et:=9) (r:=mo) (c:=co) (j:=2) (q:=0) (m:=Mo) (k:=eB) (v:=.string (bk x.value)) (H':=([(r,.cells #[.string (bk (E3 70 q2).1),.int .i64 ((E3 70 q2).2)] 97 (0,0))]::[(b3,.cells #[.string (bk x.q.pre),.string (bk x.q.name),.string (bk x.value),.bool x.q.has] 137 (0,0))]::[(mo,.map (C9 (I2 Mo co eB (.string (bk x.value)))) (if J0 Mo eB then co else co+1))]::[(b1,.map (C9 (I2 Ms cs eB (.bool true))) (if J0 Ms eB then cs else cs+1))]::[(ms,.map (C9 M) mc)]::H)) (hop:=.inl rfl) (kk:=?_))
     refine B1 [] [0,7,8,15,16,17] (k:=C6 ?_)
     refine A0 (A3 ?_)
     refine A4 (j:=1) [0] (k:=F6 59 (((k:Nat):Int)+1) (by omega) (by omega) kr ?_)
     refine B1 [0] [0,7,8,15,16,17] (k:=C1 (H':=([(r,.cells #[.string (bk (E3 70 q2).1),.int .i64 ((E3 70 q2).2)] 97 (0,0))]::[(mo,.map (C9 (I2 Mo co eB (.string (bk x.value)))) (if J0 Mo eB then co else co+1))]::[(b1,.map (C9 (I2 Ms cs eB (.bool true))) (if J0 Ms eB then cs else cs+1))]::[(ms,.map (C9 M) mc)]::H)) (fun w h=>(h.erase 1)) ?_)
     refine E9 (s':=((k+1),(E3 70 q2),((([]:List UInt8),x.value)::sp2),(([]:List UInt8)::seen),(I2 Mo co eB (.string (bk x.value))),(if J0 Mo eB then co else co+1),(I2 Ms cs eB (.bool true)),(if J0 Ms eB then cs else cs+1))) [0,7,8,15,16,17] kr kr ⟨(by dsimp only; omega),(by dsimp only; rw [hT,L7 hk,← hx,sp_step hd,if_pos (.inr hem)]),(hMo.put _ _ _),(hMs.put _ _)⟩ (by dsimp only; omega)
    ·
     have hem:¬ (x.q.has=true∧x.value=[]):=fun h=>by have h2:=hc6; rw [h.1,show ((bk x.value).toList==eB.toList)=true from (eqB _ _).2 h.2] at h2; exact Bool.noConfusion h2
     refine B4 (A0 ?_)
     refine A1 (A3 ?_)
     refine A4 (j:=2) [0,0] (k:=L8 (ch:=[]) (kt:=9) (et:=4) (r:=b1) (c:=cs) (j:=3) (q:=0) (m:=Ms) (k:=eB) (v:=.bool true) (H':=([(b3,.cells #[.string (bk x.q.pre),.string (bk x.q.name),.string (bk x.value),.bool x.q.has] 137 (0,0))]::[(r,.cells #[.string (bk q2.1),.int .i64 q2.2] 97 (0,0))]::[(mo,.map (C9 Mo) co)]::[(b1,.map (C9 (I2 Ms cs eB (.bool true))) (if J0 Ms eB then cs else cs+1))]::[(ms,.map (C9 M) mc)]::H)) (hop:=.inl rfl) (kk:=?_))
     refine B1 [] [0,7,8,10,11,15,16,17] (k:=A0 ?_)
     refine A3 (A4 (j:=3) [0,0,0] (k:=?_))
     refine A6 (ch:=[]) (b:=b3) (off:=2) (v:=.string (bk x.value)) (hA:=At.grp 0 0 rfl rfl) (k:=L8 (ch:=[]) (kt:=9) (et:=9) (r:=mo) (c:=co) (j:=2) (q:=0) (m:=Mo) (k:=eB) (v:=.string (bk x.value)) (H':=([(b3,.cells #[.string (bk x.q.pre),.string (bk x.q.name),.string (bk x.value),.bool x.q.has] 137 (0,0))]::[(r,.cells #[.string (bk q2.1),.int .i64 q2.2] 97 (0,0))]::[(mo,.map (C9 (I2 Mo co eB (.string (bk x.value)))) (if J0 Mo eB then co else co+1))]::[(b1,.map (C9 (I2 Ms cs eB (.bool true))) (if J0 Ms eB then cs else cs+1))]::[(ms,.map (C9 M) mc)]::H)) (hop:=.inl rfl) (kk:=?_))
     refine B1 [] [0,7,8,15,16,17] (k:=C6 ?_)
     refine A0 (A3 ?_)
     refine A4 (j:=1) [0] (k:=F6 59 (((k:Nat):Int)+1) (by omega) (by omega) kr ?_)
     refine B1 [0] [0,7,8,15,16,17] (k:=C1 (H':=([(r,.cells #[.string (bk q2.1),.int .i64 q2.2] 97 (0,0))]::[(mo,.map (C9 (I2 Mo co eB (.string (bk x.value)))) (if J0 Mo eB then co else co+1))]::[(b1,.map (C9 (I2 Ms cs eB (.bool true))) (if J0 Ms eB then cs else cs+1))]::[(ms,.map (C9 M) mc)]::H)) (fun w h=>(h.erase 0)) ?_)
     refine E9 (s':=((k+1),q2,((([]:List UInt8),x.value)::sp2),(([]:List UInt8)::seen),(I2 Mo co eB (.string (bk x.value))),(if J0 Mo eB then co else co+1),(I2 Ms cs eB (.bool true)),(if J0 Ms eB then cs else cs+1))) [0,7,8,15,16,17] kr kr ⟨(by dsimp only; omega),(by dsimp only; rw [hT,L7 hk,← hx,sp_step hd,if_neg (fun h=>h.elim hps hem)]),(hMo.put _ _ _),(hMs.put _ _)⟩ (by dsimp only; omega)
  ·
   have hn1:¬ (x.q.has=false∧x.q.name=xmlns):=fun h=>by have h2:=hc4; rw [h.1,show ((bk x.q.name).toList==(mB #[120,109,108,110,115]).toList)=true from (eqB _ _).2 h.2] at h2; exact Bool.noConfusion h2
   refine A1 (A3 ?_)
   refine A4 (j:=1) [0] (k:=A6 (ch:=[]) (b:=b3) (off:=0) (v:=.string (bk x.q.pre)) (hA:=At.grp 0 0 rfl rfl) (k:=?_))
   refine A4 (j:=5) [0,0,0] (k:=A6 (ch:=[(34,false)]) (b:=b3) (off:=3) (v:=.bool x.q.has) (hA:=At.grp 0 0 rfl rfl) (k:=?_))
   refine B1 [0,5] [0,7,8,10,11,15,16,17,38] (k:=A0 ?_)
   refine B7 (b:=(!((bk x.q.pre).toList==(mB #[120,109,108,110,115]).toList))||(!x.q.has)) kr (fun hc9=>?_) (fun hc9=>?_)
   ·
    have hd:Q4 x=none:=decl_none hn1 (fun h=>by have h2:=hc9; rw [h.1,show ((bk x.q.pre).toList==(mB #[120,109,108,110,115]).toList)=true from (eqB _ _).2 h.2] at h2; exact Bool.noConfusion h2)
    refine H7 (B0 ?_)
    refine C7 (A0 ?_)
    refine A3 (A4 (j:=1) [0] (k:=?_))
    refine F6 59 (((k:Nat):Int)+1) (by omega) (by omega) kr (B5 (E':=[⟨0,[],pt r⟩,⟨7,[],.map (some mo)⟩,⟨8,[],.map (some b1)⟩,⟨15,[],.slice a ats.length c⟩,⟨16,[],.int .i64 ((ats.length:Nat):Int)⟩,⟨17,[],.int .i64 (((k:Nat):Int)+1)⟩]) [0] [0,7,8,15,16,17] (k:=?_))
    refine C1 (H':=([(r,.cells #[.string (bk q2.1),.int .i64 q2.2] 97 (0,0))]::[(mo,.map (C9 Mo) co)]::[(b1,.map (C9 Ms) cs)]::[(ms,.map (C9 M) mc)]::H)) (fun w h=>(h.erase 0)) (E9 (s':=((k+1),q2,sp2,seen,Mo,co,Ms,cs)) [0,7,8,15,16,17] kr kr ⟨(by dsimp only; omega),(by dsimp only; rw [hT,L7 hk,← hx,sp_step_no hd]),hMo,hMs⟩ (by dsimp only; omega))
   ·
    have hd:Q4 x=some x.q.name:=by have h:=hc9; simp only [Bool.or_eq_false_iff,Bool.not_eq_false'] at h; exact decl_pre h.2 ((eqB _ _).1 h.1)
    refine B4 (A0 ?_)
    refine A1 (A1 ?_)
    refine A3 (A4 (j:=2) [0,0] (k:=?_))
    by_cases hps:x.q.name∈seen
    ·
     refine W6 (ch:=[]) (kt:=9) (et:=4) (r:=b1) (c:=cs) (m:=Ms) (k:=(bk x.q.name)) (z:=.bool false) (ov:=(some (.bool true))) (hA:=At.grp 3 0 rfl rfl) (hg:=(fun _=>(by have h:=hMs x.q.name; rw [if_pos hps] at h; exact h))) (kk:=B5 (E':=[⟨0,[],pt r⟩,⟨7,[],.map (some mo)⟩,⟨8,[],.map (some b1)⟩,⟨10,[],pt b3⟩,⟨11,[],.string (bk x.q.name)⟩,⟨15,[],.slice a ats.length c⟩,⟨16,[],.int .i64 ((ats.length:Nat):Int)⟩,⟨17,[],.int .i64 ((k:Nat):Int)⟩,⟨50,[],.bool true⟩]) [0,1,1,1,1,1,1,1,2] [0,7,8,10,11,15,16,17,50] (k:=?_))
     refine A0 (C4 kr ?_)
     refine A3 (A4 (j:=1) [0] (k:=?_))
     refine H4 rfl (H':=([(r,.cells #[.string (bk q2.1),.int .i64 q2.2] 97 (0,0))]::[(b3,.cells #[.string (bk x.q.pre),.string (bk x.q.name),.string (bk x.value),.bool x.q.has] 137 (0,0))]::[(mo,.map (C9 Mo) co)]::[(b1,.map (C9 Ms) cs)]::[(ms,.map (C9 M) mc)]::H)) (fun w h=>(h.front (j:=1) rfl)) (E7 Tryz.func64 (M3 r q2 70 _ _) ?_)
     rintro _ _ rfl
     refine B1 [] [0,7,8,10,11,15,16,17] (k:=A0 ?_)
     refine A1 (A3 ?_)
     refine A4 (j:=2) [0,0] (k:=L8 (ch:=[]) (kt:=9) (et:=4) (r:=b1) (c:=cs) (j:=3) (q:=0) (m:=Ms) (k:=(bk x.q.name)) (v:=.bool true) (H':=([(r,.cells #[.string (bk (E3 70 q2).1),.int .i64 ((E3 70 q2).2)] 97 (0,0))]::[(b3,.cells #[.string (bk x.q.pre),.string (bk x.q.name),.string (bk x.value),.bool x.q.has] 137 (0,0))]::[(mo,.map (C9 Mo) co)]::[(b1,.map (C9 (I2 Ms cs (bk x.q.name) (.bool true))) (if J0 Ms (bk x.q.name) then cs else cs+1))]::[(ms,.map (C9 M) mc)]::H)) (hop:=.inl rfl) (kk:=?_))
     refine B1 [] [0,7,8,10,11,15,16,17] (k:=A0 ?_)
     refine A3 (A4 (j:=3) [0,0,0] (k:=?_))
     refine A6 (ch:=[]) (b:=b3) (off:=2) (v:=.string (bk x.value)) (hA:=At.grp 1 0 rfl rfl) (k:=L8 (ch:=[]) (kt:=9) (et:=9) (r:=mo) (c:=co) (j:=2) (q:=0) (m:=Mo) (k:=(bk x.q.name)) (v:=.string (bk x.value)) (H':=([(r,.cells #[.string (bk (E3 70 q2).1),.int .i64 ((E3 70 q2).2)] 97 (0,0))]::[(b3,.cells #[.string (bk x.q.pre),.string (bk x.q.name),.string (bk x.value),.bool x.q.has] 137 (0,0))]::[(mo,.map (C9 (I2 Mo co (bk x.q.name) (.string (bk x.value)))) (if J0 Mo (bk x.q.name) then co else co+1))]::[(b1,.map (C9 (I2 Ms cs (bk x.q.name) (.bool true))) (if J0 Ms (bk x.q.name) then cs else cs+1))]::[(ms,.map (C9 M) mc)]::H)) (hop:=.inl rfl) (kk:=?_))
     refine B1 [] [0,7,8,15,16,17] (k:=C6 ?_)
     refine A0 (A3 ?_)
     refine A4 (j:=1) [0] (k:=F6 59 (((k:Nat):Int)+1) (by omega) (by omega) kr ?_)
     refine B1 [0] [0,7,8,15,16,17] (k:=C1 (H':=([(r,.cells #[.string (bk (E3 70 q2).1),.int .i64 ((E3 70 q2).2)] 97 (0,0))]::[(mo,.map (C9 (I2 Mo co (bk x.q.name) (.string (bk x.value)))) (if J0 Mo (bk x.q.name) then co else co+1))]::[(b1,.map (C9 (I2 Ms cs (bk x.q.name) (.bool true))) (if J0 Ms (bk x.q.name) then cs else cs+1))]::[(ms,.map (C9 M) mc)]::H)) (fun w h=>(h.erase 1)) ?_)
     refine E9 (s':=((k+1),(E3 70 q2),((x.q.name,x.value)::sp2),(x.q.name::seen),(I2 Mo co (bk x.q.name) (.string (bk x.value))),(if J0 Mo (bk x.q.name) then co else co+1),(I2 Ms cs (bk x.q.name) (.bool true)),(if J0 Ms (bk x.q.name) then cs else cs+1))) [0,7,8,15,16,17] kr kr ⟨(by dsimp only; omega),(by dsimp only; rw [hT,L7 hk,← hx,sp_step hd,if_pos (.inl hps)]),(hMo.put _ _ _),(hMs.put _ _)⟩ (by dsimp only; omega)
    ·
     refine W6 (ch:=[]) (kt:=9) (et:=4) (r:=b1) (c:=cs) (m:=Ms) (k:=(bk x.q.name)) (z:=.bool false) (ov:=none) (hA:=At.grp 3 0 rfl rfl) (hg:=(fun _=>(by have h:=hMs x.q.name; rw [if_neg hps] at h; exact h))) (kk:=A4 (j:=5) [0,0] (k:=?_))
     refine A6 (ch:=[(42,false)]) (b:=b3) (off:=3) (v:=.bool x.q.has) (hA:=At.grp 0 0 rfl rfl) (k:=A4 (j:=8) [0,0] (k:=?_))
     refine A6 (ch:=[(45,true),(42,false)]) (b:=b3) (off:=2) (v:=.string (bk x.value)) (hA:=At.grp 0 0 rfl rfl) (k:=B5 (E':=[⟨0,[],pt r⟩,⟨7,[],.map (some mo)⟩,⟨8,[],.map (some b1)⟩,⟨10,[],pt b3⟩,⟨11,[],.string (bk x.q.name)⟩,⟨15,[],.slice a ats.length c⟩,⟨16,[],.int .i64 ((ats.length:Nat):Int)⟩,⟨17,[],.int .i64 ((k:Nat):Int)⟩,⟨50,[],.bool (x.q.has&&((bk x.value).toList==eB.toList))⟩]) [0,6,3] [0,7,8,10,11,15,16,17,50] (k:=?_))
     refine A0 (B7 (b:=x.q.has&&((bk x.value).toList==eB.toList)) kr (fun hc12=>?_) (fun hc12=>?_))
     ·
      have hem:x.q.has=true∧x.value=[]:=by have h:=hc12; simp only [Bool.and_eq_true] at h; exact ⟨h.1,(eqB _ _).1 h.2⟩
      refine A3 (A4 (j:=1) [0] (k:=?_))
      refine H4 rfl (H':=([(r,.cells #[.string (bk q2.1),.int .i64 q2.2] 97 (0,0))]::[(b3,.cells #[.string (bk x.q.pre),.string (bk x.q.name),.string (bk x.value),.bool x.q.has] 137 (0,0))]::[(mo,.map (C9 Mo) co)]::[(b1,.map (C9 Ms) cs)]::[(ms,.map (C9 M) mc)]::H)) (fun w h=>(h.front (j:=1) rfl)) (E7 Tryz.func64 (M3 r q2 70 _ _) ?_)
      rintro _ _ rfl
      refine B1 [] [0,7,8,10,11,15,16,17] (k:=A0 ?_)
      refine A1 (A3 ?_)
      refine A4 (j:=2) [0,0] (k:=L8 (ch:=[]) (kt:=9) (et:=4) (r:=b1) (c:=cs) (j:=3) (q:=0) (m:=Ms) (k:=(bk x.q.name)) (v:=.bool true) (H':=([(r,.cells #[.string (bk (E3 70 q2).1),.int .i64 ((E3 70 q2).2)] 97 (0,0))]::[(b3,.cells #[.string (bk x.q.pre),.string (bk x.q.name),.string (bk x.value),.bool x.q.has] 137 (0,0))]::[(mo,.map (C9 Mo) co)]::[(b1,.map (C9 (I2 Ms cs (bk x.q.name) (.bool true))) (if J0 Ms (bk x.q.name) then cs else cs+1))]::[(ms,.map (C9 M) mc)]::H)) (hop:=.inl rfl) (kk:=?_))
      refine B1 [] [0,7,8,10,11,15,16,17] (k:=A0 ?_)
      refine A3 (A4 (j:=3) [0,0,0] (k:=?_))
      refine A6 (ch:=[]) (b:=b3) (off:=2) (v:=.string (bk x.value)) (hA:=At.grp 1 0 rfl rfl) (k:=L8 (ch:=[]) (kt:=9) (et:=9) (r:=mo) (c:=co) (j:=2) (q:=0) (m:=Mo) (k:=(bk x.q.name)) (v:=.string (bk x.value)) (H':=([(r,.cells #[.string (bk (E3 70 q2).1),.int .i64 ((E3 70 q2).2)] 97 (0,0))]::[(b3,.cells #[.string (bk x.q.pre),.string (bk x.q.name),.string (bk x.value),.bool x.q.has] 137 (0,0))]::[(mo,.map (C9 (I2 Mo co (bk x.q.name) (.string (bk x.value)))) (if J0 Mo (bk x.q.name) then co else co+1))]::[(b1,.map (C9 (I2 Ms cs (bk x.q.name) (.bool true))) (if J0 Ms (bk x.q.name) then cs else cs+1))]::[(ms,.map (C9 M) mc)]::H)) (hop:=.inl rfl) (kk:=?_))
      refine B1 [] [0,7,8,15,16,17] (k:=C6 ?_)
      refine A0 (A3 ?_)
      refine A4 (j:=1) [0] (k:=F6 59 (((k:Nat):Int)+1) (by omega) (by omega) kr ?_)
      refine B1 [0] [0,7,8,15,16,17] (k:=C1 (H':=([(r,.cells #[.string (bk (E3 70 q2).1),.int .i64 ((E3 70 q2).2)] 97 (0,0))]::[(mo,.map (C9 (I2 Mo co (bk x.q.name) (.string (bk x.value)))) (if J0 Mo (bk x.q.name) then co else co+1))]::[(b1,.map (C9 (I2 Ms cs (bk x.q.name) (.bool true))) (if J0 Ms (bk x.q.name) then cs else cs+1))]::[(ms,.map (C9 M) mc)]::H)) (fun w h=>(h.erase 1)) ?_)
      refine E9 (s':=((k+1),(E3 70 q2),((x.q.name,x.value)::sp2),(x.q.name::seen),(I2 Mo co (bk x.q.name) (.string (bk x.value))),(if J0 Mo (bk x.q.name) then co else co+1),(I2 Ms cs (bk x.q.name) (.bool true)),(if J0 Ms (bk x.q.name) then cs else cs+1))) [0,7,8,15,16,17] kr kr ⟨(by dsimp only; omega),(by dsimp only; rw [hT,L7 hk,← hx,sp_step hd,if_pos (.inr hem)]),(hMo.put _ _ _),(hMs.put _ _)⟩ (by dsimp only; omega)
     ·
      have hem:¬ (x.q.has=true∧x.value=[]):=fun h=>by have h2:=hc12; rw [h.1,show ((bk x.value).toList==eB.toList)=true from (eqB _ _).2 h.2] at h2; exact Bool.noConfusion h2
      refine B4 (A0 ?_)
      refine A1 (A3 ?_)
      refine A4 (j:=2) [0,0] (k:=L8 (ch:=[]) (kt:=9) (et:=4) (r:=b1) (c:=cs) (j:=3) (q:=0) (m:=Ms) (k:=(bk x.q.name)) (v:=.bool true) (H':=([(b3,.cells #[.string (bk x.q.pre),.string (bk x.q.name),.string (bk x.value),.bool x.q.has] 137 (0,0))]::[(r,.cells #[.string (bk q2.1),.int .i64 q2.2] 97 (0,0))]::[(mo,.map (C9 Mo) co)]::[(b1,.map (C9 (I2 Ms cs (bk x.q.name) (.bool true))) (if J0 Ms (bk x.q.name) then cs else cs+1))]::[(ms,.map (C9 M) mc)]::H)) (hop:=.inl rfl) (kk:=?_))
      refine B1 [] [0,7,8,10,11,15,16,17] (k:=A0 ?_)
      refine A3 (A4 (j:=3) [0,0,0] (k:=?_))
      refine A6 (ch:=[]) (b:=b3) (off:=2) (v:=.string (bk x.value)) (hA:=At.grp 0 0 rfl rfl) (k:=L8 (ch:=[]) (kt:=9) (et:=9) (r:=mo) (c:=co) (j:=2) (q:=0) (m:=Mo) (k:=(bk x.q.name)) (v:=.string (bk x.value)) (H':=([(b3,.cells #[.string (bk x.q.pre),.string (bk x.q.name),.string (bk x.value),.bool x.q.has] 137 (0,0))]::[(r,.cells #[.string (bk q2.1),.int .i64 q2.2] 97 (0,0))]::[(mo,.map (C9 (I2 Mo co (bk x.q.name) (.string (bk x.value)))) (if J0 Mo (bk x.q.name) then co else co+1))]::[(b1,.map (C9 (I2 Ms cs (bk x.q.name) (.bool true))) (if J0 Ms (bk x.q.name) then cs else cs+1))]::[(ms,.map (C9 M) mc)]::H)) (hop:=.inl rfl) (kk:=?_))
      refine B1 [] [0,7,8,15,16,17] (k:=C6 ?_)
      refine A0 (A3 ?_)
      refine A4 (j:=1) [0] (k:=F6 59 (((k:Nat):Int)+1) (by omega) (by omega) kr ?_)
      refine B1 [0] [0,7,8,15,16,17] (k:=C1 (H':=([(r,.cells #[.string (bk q2.1),.int .i64 q2.2] 97 (0,0))]::[(mo,.map (C9 (I2 Mo co (bk x.q.name) (.string (bk x.value)))) (if J0 Mo (bk x.q.name) then co else co+1))]::[(b1,.map (C9 (I2 Ms cs (bk x.q.name) (.bool true))) (if J0 Ms (bk x.q.name) then cs else cs+1))]::[(ms,.map (C9 M) mc)]::H)) (fun w h=>(h.erase 0)) ?_)
      refine E9 (s':=((k+1),q2,((x.q.name,x.value)::sp2),(x.q.name::seen),(I2 Mo co (bk x.q.name) (.string (bk x.value))),(if J0 Mo (bk x.q.name) then co else co+1),(I2 Ms cs (bk x.q.name) (.bool true)),(if J0 Ms (bk x.q.name) then cs else cs+1))) [0,7,8,15,16,17] kr kr ⟨(by dsimp only; omega),(by dsimp only; rw [hT,L7 hk,← hx,sp_step hd,if_neg (fun h=>h.elim hps hem)]),(hMo.put _ _ _),(hMs.put _ _)⟩ (by dsimp only; omega)
 ·
  have hk:ats.length≤k:=by have:=hc2; simp only [decide_eq_false_iff_not] at this; omega
  refine H7 (B0 ?_)
  refine B0 (C7 ?_)
  refine A0 (A1 ?_)
  refine C3 (E':=[⟨6,[],.map (some mo)⟩]) [0,0] [6] (k:=A0 ?_)
  refine C5 (C1 (H':=([(r,.cells #[.string (bk q2.1),.int .i64 q2.2] 97 (0,0))]::[(mo,.map (C9 Mo) co)]::[(ms,.map (C9 M) mc)]::H)) (fun w h=>(h.erase 2)) ?_)
  refine B9 [.tmp 6] [.map (some mo)] (k:=?_)
  rw [hT,List.drop_eq_nil_of_le hk]; exact ⟨_,_,_,rfl,hMo,rfl⟩
theorem xspace_ (r:Nat) (q:XS) (p:List UInt8) (has:Bool) (ms mc:Nat) (M:SM) (sp:SPX) (hM:SpR M sp) (W0:World) (H:List Grp):Tri Tryz.prog 106 #[pt r,.string (bk p),.bool has,.map (some ms)] W0 ([(r,.cells #[.string (bk q.1),.int .i64 q.2] 97 (0,0))]::[(ms,.map (C9 M) mc)]::H) (fun v H'=>v=.string (bk (J2 p has sp q).1)∧H'=rdX r (J2 p has sp q).2::[(ms,.map (C9 M) mc)]::H):=by
 refine D0 (args:=[pt r,.string (bk p),.bool has,.map (some ms)]) (n:=25) Tryz.func106 rfl rfl (Nat.le_of_ble_eq_true rfl) ?_
 refine A1 (G_p [0] [0,1,2,3] (k:=?_))
 refine A0 (A1 ?_)
 refine A3 (A4 (j:=2) [0,0] (k:=?_))
 rcases hlk:lookX sp p with _ | v
 ·
  refine W6 (ch:=[]) (kt:=9) (et:=9) (r:=ms) (c:=mc) (m:=M) (k:=(bk p)) (z:=.string eB) (ov:=none) (hA:=At.grp 1 0 rfl rfl) (hg:=(fun _=>(by have h:=hM p; rw [hlk] at h; exact h))) (kk:=B1 [0,0,0,0,0] [0,2,9,10] (k:=?_))
  refine A0 (A1 ?_)
  refine A1 (G_p [0,0,0,0,6] [0,9,21] (k:=?_))
  refine A0 (B7 (b:=has&&true) kr (fun hc1=>?_) (fun hc1=>?_))
  ·
   have hh:has=true:=by have h:=hc1; rwa [Bool.and_true] at h
   refine A3 (A4 (j:=1) [0] (k:=?_))
   refine E7 Tryz.func64 (M3 r q 70 _ _) ?_
   rintro _ _ rfl
   refine B5 (E':=[⟨9,[],.string eB⟩]) [] [9] (k:=A0 ?_)
   refine A1 (C3 (E':=[⟨8,[],.string eB⟩]) [0,0] [8] (k:=?_))
   refine A0 (C5 ?_)
   refine B9 [.tmp 8] [.string eB] (k:=?_)
   exact ⟨by rw [space_none hlk hh]; try rfl,by rw [space_none hlk hh]; try rfl⟩
  ·
   have hh:has=false:=by have h:=hc1; rwa [Bool.and_true] at h
   refine B4 (A0 ?_)
   refine A1 (C3 (E':=[⟨8,[],.string eB⟩]) [0,0] [8] (k:=?_))
   refine A0 (C5 ?_)
   refine B9 [.tmp 8] [.string eB] (k:=?_)
   exact ⟨by rw [space_own hlk hh]; try rfl,by rw [space_own hlk hh]; try rfl⟩
 ·
  refine W6 (ch:=[]) (kt:=9) (et:=9) (r:=ms) (c:=mc) (m:=M) (k:=(bk p)) (z:=.string eB) (ov:=(some (.string (bk v)))) (hA:=At.grp 1 0 rfl rfl) (hg:=(fun _=>(by have h:=hM p; rw [hlk] at h; exact h))) (kk:=B1 [0,0,0,0,0] [0,2,9,10] (k:=?_))
  refine A0 (A1 ?_)
  refine A1 (G_p [0,0,0,0,6] [0,9,21] (k:=?_))
  refine A0 (B7 (b:=has&&false) kr (fun hc2=>?_) (fun hc2=>?_))
  ·
   rw [Bool.and_false] at hc2; exact Bool.noConfusion hc2
  ·
   skip
   refine B4 (A0 ?_)
   refine A1 (C3 (E':=[⟨8,[],.string (bk v)⟩]) [0,0] [8] (k:=?_))
   refine A0 (C5 ?_)
   refine B9 [.tmp 8] [.string (bk v)] (k:=?_)
   exact ⟨by rw [space_some hlk]; try rfl,by rw [space_some hlk]; try rfl⟩
end Go.Proofs.YtppgfiklmfoaeaaGreatDoor
namespace Go.Proofs.YtppgfiklmfoaeaaGreatDoor
open Go.Sw Go.Sha Go.Esc Go.RowKit Go.Json Go.Xml
def sameA (x y:XA):Bool:=y.space==x.space&&y.name==x.name
theorem sameA_eq (x y:XA):(((bk y.space).toList==(bk x.space).toList)&&((bk y.name).toList==(bk x.name).toList))=sameA x y:=by
  unfold sameA
  have h:∀ a b:List UInt8,((bk a).toList==(bk b).toList)=(a==b):=by
    intro a b
    by_cases e:a=b
    · subst e; rw [(eqB _ _).2 rfl]; simp
    · rw [(eqBf (bk a) (bk b)).2 e,beq_eq_false_iff_ne.2 e]
  rw [h,h]
theorem elt3 {cs l:List Value} {q:Nat} (h:(cs.drop q).take 3=l):∀ m (hm:m<l.length),cs[q+m]? = some l[m]:=by
  intro m hm
  subst h
  have h4:m<3:=by rw [List.length_take] at hm; omega
  rw [← List.getElem?_eq_getElem hm,List.getElem?_take_of_lt h4,List.getElem?_drop]
theorem xsameF_ (y x:XA) (xb:Nat) (W0:World) (H:List Grp):Tri Tryz.prog 108 #[.agg #[.string (bk y.space),.string (bk y.name),.string (bk y.value)],pt xb] W0 ([(xb,.cells #[.string (bk x.space),.string (bk x.name),.string (bk x.value)] 75 (0,0))]::H) (fun v H'=>v=.bool (sameA x y)∧H'=([(xb,.cells #[.string (bk x.space),.string (bk x.name),.string (bk x.value)] 75 (0,0))]::H)):=by
 refine D0 (args:=[.agg #[.string (bk y.space),.string (bk y.name),.string (bk y.value)],pt xb]) (n:=16) Tryz.func108 rfl rfl (Nat.le_of_ble_eq_true rfl) ?_
 refine A1 (A3 ?_)
 refine T1 (ch:=[]) (v:=.agg #[.string (bk y.space),.string (bk y.name),.string (bk y.value)]) (k:=(fun b1=>?_))
 refine B5 (E':=[⟨1,[],pt xb⟩,⟨2,[],pt b1⟩]) [0] [1,2] (k:=A0 ?_)
 refine A1 (A3 ?_)
 refine A4 (j:=1) [0] (k:=A6 (ch:=[]) (b:=b1) (off:=0) (v:=.string (bk y.space)) (hA:=At.grp 0 0 rfl rfl) (k:=?_))
 refine A4 (j:=3) [0] (k:=A6 (ch:=[]) (b:=xb) (off:=0) (v:=.string (bk x.space)) (hA:=At.grp 1 0 rfl rfl) (k:=?_))
 refine A4 (j:=7) [0,0,0] (k:=A6 (ch:=[(9,true)]) (b:=b1) (off:=1) (v:=.string (bk y.name)) (hA:=At.grp 0 0 rfl rfl) (k:=?_))
 refine A4 (j:=9) [0] (k:=A6 (ch:=[(9,true)]) (b:=xb) (off:=1) (v:=.string (bk x.name)) (hA:=At.grp 1 0 rfl rfl) (k:=?_))
 refine B1 [0,6,0] [3] (k:=A0 ?_)
 refine C5 (C1 (H':=([(xb,.cells #[.string (bk x.space),.string (bk x.name),.string (bk x.value)] 75 (0,0))]::H)) (fun w h=>(h.erase 0)) ?_)
 refine B9 [.tmp 3] [.bool (((bk y.space).toList==(bk x.space).toList)&&((bk y.name).toList==(bk x.name).toList))] (k:=?_)
 exact ⟨congrArg Value.bool (sameA_eq x y),rfl⟩
theorem xindexF_ (out:List XA) (a:Option Addr) (c:Nat) (S:Nat→Obj→Prop) (hrd:Rd S a (xaV out)) (hol:out.length≤1000002) (x:XA) (xb:Nat) (W0:World) (H:List Grp) (hS:∀ y o,S y o→At W0 H y o):Tri Tryz.prog 146 #[.slice a out.length c,.func (.func 108) #[] #[pt xb]] W0 ([(xb,.cells #[.string (bk x.space),.string (bk x.name),.string (bk x.value)] 75 (0,0))]::H) (fun v H'=>∃ n:Int,v=.int .i64 n∧(out.any (sameA x)=decide (n ≥ 0))∧H'=([(xb,.cells #[.string (bk x.space),.string (bk x.name),.string (bk x.value)] 75 (0,0))]::H)):=by
 refine D0 (args:=[.slice a out.length c,.func (.func 108) #[] #[pt xb]]) (n:=19) Tryz.func146 rfl rfl (Nat.le_of_ble_eq_true rfl) ?_
 refine A1 (G_p [0] [0,1] (k:=?_))
 refine A0 (A1 ?_)
 refine A1 (G_p [0,0,0] [0,1,7,8] (k:=?_))
 refine A0 (B8 ?_)
 refine L4 (EI:=(fun ξ:Nat=>[⟨0,[],.slice a out.length c⟩,⟨1,[],.func (.func 108) #[] #[pt xb]⟩,⟨7,[],.int .i64 ((out.length:Nat):Int)⟩,⟨8,[],.int .i64 ((ξ:Nat):Int)⟩])) (HI:=(fun ξ:Nat=>([(xb,.cells #[.string (bk x.space),.string (bk x.name),.string (bk x.value)] 75 (0,0))]::H))) (Φ:=(fun ξ:Nat=>(ξ≤out.length)∧((out.take ξ).any (sameA x)=false))) (μ:=(fun ξ:Nat=>out.length - ξ)) (s0:=(0)) [0,1,7,8] kr rfl ⟨(Nat.zero_le _),rfl⟩ ?_
 rintro k ⟨hkl,hno⟩
 try dsimp only at hkl hno
 refine A1 (G_p [0] [0,1,7,8,9] (k:=?_))
 refine A0 (A1 ?_)
 refine B7 (b:=decide (((k:Nat):Int)<((out.length:Nat):Int))) kr (fun hc1=>?_) (fun hc1=>?_)
 ·
  have hk:k<out.length:=by have:=hc1; simp only [decide_eq_true_eq] at this; omega
  refine B4 (A0 ?_)
  refine A1 (B8 ?_)
  refine A1 (G_p [0,0] [0,1,5,7,8] (k:=?_))
  refine A0 (A1 ?_)
  refine A3 (A4 (j:=3) [0,0,0] (k:=?_))
  refine A9 (ch:=[]) (a:=a) (len:=out.length) (cap:=c) (kd:=.i64) (j:=((k:Nat):Int)) (e:=75) (sz:=3) (S:=S) (cs:=(xaV out)) (hrd:=hrd) (hb:=(fun _=>by exact ⟨by omega,by omega,by intro h; have:=congrArg List.length h; rw [xaV_len] at this; simp only [List.length_nil] at this; omega⟩)) (k:=?_)
  obtain ⟨y,hy⟩:∃ y,y=out[k]'hk:=⟨_,rfl⟩
  refine L0 (ch:=[]) (a:=a) (q:=k * 3) (S:=S) (cs:=(xaV out)) (l:=[.string (bk y.space),.string (bk y.name),.string (bk y.value)]) (hrd:=hrd) (hS:=(fun y o h=>At.cons (hS y o h))) (hl:=List.cons_ne_nil _ _) (hv:=(fun _=>(elt3 (by rw [hy]; exact xaV_at hk)))) (k:=X7 (ch:=[]) (f:=108) (fst:=#[]) (caps:=#[pt xb]) (vs:=[.agg #[.string (bk y.space),.string (bk y.name),.string (bk y.value)]]) (hf:=Tryz.func108) (hsure:=P2 kr) (hc:=xsameF_ y x xb _ _) (k:=?_))
  rintro _ _ ⟨rfl,rfl⟩
  refine B1 [] [0,1,5,7,8,16] (k:=A0 ?_)
  refine B7 (b:=(sameA x y)) kr (fun hc2=>?_) (fun hc2=>?_)
  ·
   have hsm:sameA x y=true:=hc2
   refine A1 (C3 (E':=[⟨4,[],.int .i64 ((k:Nat):Int)⟩]) [0,0] [4] (k:=?_))
   refine A0 (C5 ?_)
   refine D6 (B2 ?_)
   refine B2 (D6 ?_)
   refine B2 (B9 [.tmp 4] [.int .i64 ((k:Nat):Int)] (k:=?_))
   exact ⟨_,rfl,by rw [any_at hk (by rw [← hy]; exact hsm)]; exact (decide_eq_true (Int.natCast_nonneg k)).symm,rfl⟩
  ·
   have hsm:sameA x y=false:=hc2
   refine B4 (C6 ?_)
   refine A0 (A3 ?_)
   refine A4 (j:=1) [0] (k:=F6 18 (((k:Nat):Int)+1) (by omega) (by omega) kr ?_)
   refine B1 [0] [0,1,7,8] (k:=E9 (s':=(k+1)) [0,1,7,8] kr rfl ⟨(by omega),(by rw [any_take hk,hno,← hy,hsm]; rfl)⟩ (by omega))
 ·
  have hk:out.length≤k:=by have:=hc1; simp only [decide_eq_false_iff_not] at this; omega
  refine H7 (B0 ?_)
  refine B0 (C7 ?_)
  refine A0 (A1 ?_)
  refine C3 (E':=[⟨4,[],.int .i64 (-1)⟩]) [0] [4] (k:=A0 ?_)
  refine C5 (B9 [.tmp 4] [.int .i64 (-1)] (k:=?_))
  exact ⟨_,rfl,by rw [List.take_of_length_le hk] at hno; rw [hno]; rfl,rfl⟩
theorem xhasF_ (out:List XA) (a:Option Addr) (c:Nat) (S:Nat→Obj→Prop) (hrd:Rd S a (xaV out)) (hol:out.length≤1000002) (x:XA) (xb:Nat) (W0:World) (H:List Grp) (hS:∀ y o,S y o→At W0 H y o):Tri Tryz.prog 107 #[.slice a out.length c,.func (.func 108) #[] #[pt xb]] W0 ([(xb,.cells #[.string (bk x.space),.string (bk x.name),.string (bk x.value)] 75 (0,0))]::H) (fun v H'=>v=.bool (out.any (sameA x))∧H'=([(xb,.cells #[.string (bk x.space),.string (bk x.name),.string (bk x.value)] 75 (0,0))]::H)):=by
 refine D0 (args:=[.slice a out.length c,.func (.func 108) #[] #[pt xb]]) (n:=9) Tryz.func107 rfl rfl (Nat.le_of_ble_eq_true rfl) ?_
 refine A1 (G_p [0] [0,1] (k:=?_))
 refine A0 (A1 ?_)
 refine A3 (A4 (j:=2) [0,0] (k:=?_))
 refine E7 Tryz.func146 (xindexF_ out a c S hrd hol x xb _ _ hS) ?_
 rintro _ _ ⟨n,rfl,hn,rfl⟩
 refine B5 (E':=[⟨4,[],.bool (decide (n ≥ 0))⟩]) [0,0] [4] (k:=A0 ?_)
 refine C5 (B9 [.tmp 4] [.bool (decide (n ≥ 0))] (k:=?_))
 exact ⟨by rw [hn]; try rfl,rfl⟩
end Go.Proofs.YtppgfiklmfoaeaaGreatDoor
namespace Go.Sw
theorem GL_storeO {P:Program} {ops:Array Oper} {i:Nat} {Q:F2} {n:Fr} {E:Env} {W0:World} {H:List Grp} {o:Oper} {ch:List (Nat × Bool)} {t et:TypeId} {x y:Operand} {a:Option Addr} {sz len cap q:Nat} {cs cs':List Value} {v:Value} {g:Grp} {j:Nat}
    (ho:ops[i]? = some o) (hop:o.op=.store t x y) (hx:evO E ch x=some (.pointer (some (eltA a q)))) (hy:evO E ch y=some v)
    (hsz:W8 P t=some v.cells.size) (h1:(v.cells.toList.all Value.oneCell')=true) (hvc:v.cells.toList=[v])
    (hch:E5 ops E o.guard=some ch) (hd:G2 n ch o.dst=true) (hsure:L3 E ch=true)
    (hj:H[j]? = some g) (hO:Own et sz (.slice a len cap) g len cs) (hq:q<cs.length) (hcs:cs.set q v=cs')
    (k:∀ g',Own et sz (.slice a len cap) g' len cs'→GL false P ops (i+1) Q n (Env.put E o.dst ch undef) W0 (H.set j g')):GL false P ops i Q n E W0 H:=by
  obtain ⟨hl,⟨he,rfl,hn⟩ | ⟨b,cap',junk,he,rfl,hc,hjk⟩⟩:=hO
  · rw [hn] at hl; simp at hl; rw [hl] at hq; simp at hq
  · injection he with e1 e2 e3
    subst e1 e3 hcs
    have hel:eltA (some ⟨b,0,none⟩) q=⟨b,q,none⟩:=by show Addr.add ⟨b,0,none⟩ q=_; rw [N0,Nat.zero_add]
    rw [hel] at hx
    have hv1:v.cells.size=1:=by rw [← Array.length_toList,hvc]; rfl
    refine O0 (b:=b) (off:=q) (v:=v) (c:=(cs++junk).toArray) (c':=((cs.set q v)++junk).toArray) (e:=et) (fz:=(0,0)) (j:=j) (m:=0) ho hop hx hy hsz h1 hch hd hsure hj rfl (by rw [hv1,List.size_toArray,List.length_append]; omega) (fun _ _=>E0) ?_ rfl (k _ ⟨by rw [List.length_set]; exact hl,.inr ⟨b,cap,junk,rfl,rfl,hc,by rw [List.length_append,List.length_set,← List.length_append]; exact hjk⟩⟩)
    rw [hvc]
    have e1:cs++junk=cs.take q++[cs[q]]++(cs.drop (q+1)++junk):=by
      rw [← List.append_assoc]
      congr 1
      rw [List.append_assoc,List.singleton_append,← List.drop_eq_getElem_cons hq,List.take_append_drop]
    have e2:cs.set q v++junk=cs.take q++[v]++(cs.drop (q+1)++junk):=by
      rw [← List.append_assoc,List.set_eq_take_append_cons_drop,if_pos hq]
      simp
    have e3:(cs.take q).length=q:=by rw [List.length_take]; omega
    rw [e1,e2]
    have:=V6 [v] (cs.take q) (cs.drop (q+1)++junk) [cs[q]] rfl
    rw [e3] at this
    exact this
end Go.Sw
namespace Go.Sw
theorem F9 {P:Program} {ops:Array Oper} {i:Nat} {Q:F2} {n:Fr} {E:Env} {W0:World} {H:List Grp} {o:Oper} {ch:List (Nat × Bool)} {t et:TypeId} {x y:Operand} {a:Option Addr} {sz len cap q:Nat} {cs cs' l:List Value} {v:Value} {g:Grp} {j:Nat}
    (ho:ops[i]? = some o:=by exact rfl) (hop:o.op=.store t x y:=by exact rfl) (hx:evO E ch x=some (.pointer (some (eltA a q))):=by kernel_rfl) (hy:evO E ch y=some v:=by kernel_rfl)
    (hsz:W8 P t=some v.cells.size:=by kernel_rfl) (h1:(v.cells.toList.all Value.oneCell')=true) (hvc:v.cells.toList=l:=by exact rfl)
    (hch:E5 ops E o.guard=some ch:=by kernel_rfl) (hd:G2 n ch o.dst=true:=by kernel_rfl) (hsure:L3 E ch=true:=by kernel_rfl)
    (hj:H[j]? = some g:=by exact rfl) (hO:Own et sz (.slice a len cap) g len cs) (hq:q+l.length≤cs.length) (h0:l≠[]) (hcs:cs.take q++l++cs.drop (q+l.length)=cs')
    (k:∀ g',Own et sz (.slice a len cap) g' len cs'→GL false P ops (i+1) Q n (Env.put E o.dst ch undef) W0 (H.set j g')):GL false P ops i Q n E W0 H:=by
  have hl0:0<l.length:=List.length_pos_iff.2 h0
  have hlc:cs'.length=cs.length:=by rw [← hcs]; simp only [List.length_append,List.length_take,List.length_drop]; omega
  obtain ⟨hl,⟨he,rfl,hn⟩ | ⟨b,cap',junk,he,rfl,hc,hjk⟩⟩:=hO
  · rw [hn] at hl; simp at hl; rw [hl] at hq; simp at hq; exact absurd hq.2 h0
  · injection he with e1 e2 e3
    subst e1 e3
    have hel:eltA (some ⟨b,0,none⟩) q=⟨b,q,none⟩:=by show Addr.add ⟨b,0,none⟩ q=_; rw [N0,Nat.zero_add]
    rw [hel] at hx
    have hv1:v.cells.size=l.length:=by rw [← Array.length_toList,hvc]
    refine O0 (b:=b) (off:=q) (v:=v) (c:=(cs++junk).toArray) (c':=(cs'++junk).toArray) (e:=et) (fz:=(0,0)) (j:=j) (m:=0) ho hop hx hy hsz h1 hch hd hsure hj rfl (by rw [hv1,List.size_toArray,List.length_append]; omega) (fun _ _=>E0) ?_ rfl (k _ ⟨by rw [hlc]; exact hl,.inr ⟨b,cap,junk,rfl,rfl,hc,by rw [List.length_append,hlc,← List.length_append]; exact hjk⟩⟩)
    rw [hvc]
    have e1:cs++junk=cs.take q++(cs.drop q).take l.length++(cs.drop (q+l.length)++junk):=by
      rw [← List.append_assoc]
      congr 1
      rw [List.append_assoc,← List.drop_drop,List.take_append_drop,List.take_append_drop]
    have e2:cs'++junk=cs.take q++l++(cs.drop (q+l.length)++junk):=by
      rw [← hcs]; simp only [List.append_assoc]
    have e3:(cs.take q).length=q:=by rw [List.length_take]; omega
    rw [e1,e2]
    have:=V6 l (cs.take q) (cs.drop (q+l.length)++junk) ((cs.drop q).take l.length) (by rw [List.length_take,List.length_drop]; omega)
    rw [e3] at this
    exact this
theorem I1 {cs z l:List Value} {q:Nat} (hq:cs.length=q) (hz:z.length=l.length):(cs++z).take q++l++(cs++z).drop (q+l.length)=cs++l:=by
  subst hq
  rw [List.take_left,List.drop_eq_nil_of_le (by rw [List.length_append]; omega),List.append_nil]
end Go.Sw
namespace Go.Xml
open Go.Sw Go.Esc Go.Json
def lastT (ks:List XN):Nat:=match ks.getLast? with
  | some v=>v.text.length
  | none=>0
theorem W2 (l:List XN) (v:XN):lastT (l++[v])=v.text.length:=by unfold lastT; rw [List.getLast?_concat]
theorem add_nil (ks:List XN):addX ks []=ks:=if_pos rfl
theorem add_last {l:List XN} {v:XN} {s:List UInt8} (hs:s≠[]) (hv:v.name=[]):addX (l++[v]) s=l++[.mk v.space [] v.attrs v.kids (v.text++s)]:=by
  unfold addX
  rw [if_neg hs,List.getLast?_concat,List.dropLast_concat]
  cases v with
  | mk sp nm at_ kk t=>cases hv; rfl
theorem add_new {ks:List XN} {s:List UInt8} (hs:s≠[]) (h:ks=[]∨∃ l v,ks=l++[v]∧v.name≠[]):addX ks s=ks++[.mk [] [] [] [] s]:=by
  unfold addX
  rw [if_neg hs]
  rcases h with rfl | ⟨l,v,rfl,hv⟩
  · rfl
  · rw [List.getLast?_concat]
    cases v with
    | mk sp nm at_ kk t =>
      cases nm with
      | nil=>exact absurd rfl hv
      | cons b r=>rfl
theorem lastT_add (ks:List XN) (s:List UInt8):lastT (addX ks s)≤lastT ks+s.length:=by
  by_cases hs:s=[]
  · subst hs; rw [add_nil]; exact Nat.le_add_right _ _
  · rcases List.eq_nil_or_concat ks with rfl | ⟨l,v,e⟩
    · rw [add_new hs (.inl rfl)]; exact Nat.le_add_left _ _
    · rw [List.concat_eq_append] at e; subst e
      by_cases hv:v.name=[]
      · rw [add_last hs hv,W2,W2]; show (v.text++s).length≤_; rw [List.length_append]; exact Nat.le_refl _
      · rw [add_new hs (.inr ⟨l,v,rfl,hv⟩),W2]; exact Nat.le_add_left _ _
theorem kid_cells {ta tn:TypeId} {v:XN} {c:List Value} {g:Grp} (h:XRep ta tn v c g):c[1]? = some (.string (bk v.name))∧c[4]? = some (.string (bk v.text)):=by
  cases h; exact ⟨rfl,rfl⟩
theorem kid_text {ta tn:TypeId} {v:XN} {c:List Value} {g:Grp} (h:XRep ta tn v c g) (hv:v.name=[]) (s:List UInt8):XRep ta tn (.mk v.space [] v.attrs v.kids (v.text++s)) (c.set 4 (.string (bk (v.text++s)))) g:=by
  cases h with
  | mk h1 h2 h3=>cases hv; exact .mk h1 h2 h3
theorem bk_app (a b:List UInt8):bk a++bk b=bk (a++b):=by
  apply ByteArray.ext; apply Array.ext'
  rw [ByteArray.data_append,Array.toList_append]
theorem add_len (ks:List XN) (s:List UInt8):(addX ks s).length≤ks.length+1:=by
  by_cases hs:s=[]
  · subst hs; rw [add_nil]; exact Nat.le_succ _
  · rcases List.eq_nil_or_concat ks with rfl | ⟨l,v,e⟩
    · rw [add_new hs (.inl rfl)]; exact Nat.le_refl _
    · rw [List.concat_eq_append] at e; subst e
      by_cases hv:v.name=[]
      · rw [add_last hs hv,List.length_append,List.length_append]; exact Nat.le_succ _
      · rw [add_new hs (.inr ⟨l,v,rfl,hv⟩),List.length_append]; exact Nat.le_refl _
end Go.Xml
namespace Go.Proofs.YtppgfiklmfoaeaaGreatDoor
open Go.Sw Go.Sha Go.Esc Go.RowKit Go.Json Go.Xml
theorem xtext_ (nb:Nat) (v0 v1 v2 v4:Value) (ks:List XN) (kn:Nat) (ka:Option Addr) (kc:Nat) (kg gs:Grp) (cs:List Value) (hkn:kn=ks.length) (hO:Go.Sw.Own 55 5 (.slice ka kn kc) kg kn cs) (hP:XRepL 75 55 ks cs gs) (s:List UInt8) (hs:s.length≤1000000000) (hb:kn≤1000002) (hlt:lastT ks≤1000000000000) (W0:World) (H:List Grp):Tri Tryz.prog 147 #[pt nb,.string (bk s)] W0 ([(nb,.cells #[v0,v1,v2,.slice ka kn kc,v4] 55 (0,0))]::kg::H) (fun _ H'=>∃ kn' ka' kc' kg' cs',kn'=(addX ks s).length∧Go.Sw.Own 55 5 (.slice ka' kn' kc') kg' kn' cs'∧XRepL 75 55 (addX ks s) cs' gs∧H'=[(nb,.cells #[v0,v1,v2,.slice ka' kn' kc',v4] 55 (0,0))]::kg'::H):=by
 have hcl:=hP.len
 refine D0 (args:=[pt nb,.string (bk s)]) (n:=52) Tryz.func147 rfl rfl (Nat.le_of_ble_eq_true rfl) ?_
 refine A1 (A3 ?_)
 refine A4 (j:=3) [0,0,0] (k:=A6 (ch:=[]) (b:=nb) (off:=3) (v:=.slice ka kn kc) (hA:=At.grp 0 0 rfl rfl) (k:=?_))
 refine A4 (j:=6) [0,0] (k:=F6 10 (((kn:Nat):Int) - 1) (by omega) (by omega) kr ?_)
 refine B1 [0] [0,1,4] (k:=A0 ?_)
 refine B8 (A1 ?_)
 refine G_p [0,0,0] [0,1,4,23] (k:=A0 ?_)
 refine B7 (b:=(bk s).toList==eB.toList) kr (fun hc2=>?_) (fun hc2=>?_)
 ·
  have hs0:s=[]:=(eqB _ _).1 hc2
  refine B4 (C6 ?_)
  refine B9 [] [] (k:=?_)
  subst hs0; rw [add_nil]; exact ⟨_,_,_,_,_,hkn,hO,hP,rfl⟩
 ·
  have hs0:s≠[]:=(eqBf _ _).1 hc2
  refine A1 ?_
  by_cases hk0:ks=[]
  ·
   have hn0:kn=0:=by rw [hkn,hk0]; rfl
   refine A3 (G5 (E':=[⟨28,[],.bool (decide ((((kn:Nat):Int) - 1) ≥ 0))⟩,⟨0,[],pt nb⟩,⟨1,[],.string (bk s)⟩,⟨4,[],.int .i64 (((kn:Nat):Int) - 1)⟩]) (j:=2) [0,0] (k:=?_))
   refine F0 (E':=[⟨28,[],.bool false⟩,⟨0,[],pt nb⟩,⟨1,[],.string (bk s)⟩,⟨4,[],.int .i64 (((kn:Nat):Int) - 1)⟩]) (by rw [show decide (((kn:Nat):Int) - 1 ≥ 0)=false from decide_eq_false (by omega)]) (B1 [0,1,1,1,1,1,1,1,1,1,3,0] [0,1,4,26] (k:=?_))
   refine A0 (D3 kr ?_)
   refine Q7 (T:=Option Addr × Nat × Grp) (fun ξ:Option Addr × Nat × Grp=>[]) (fun ξ:Option Addr × Nat × Grp=>([(nb,.cells #[v0,v1,v2,.slice ξ.1 (kn+1) ξ.2.1,v4] 55 (0,0))]::ξ.2.2::H)) (fun ξ:Option Addr × Nat × Grp=>(Go.Sw.Own 55 5 (.slice ξ.1 (kn+1) ξ.2.1) ξ.2.2 (kn+1) (cs++[.string eB,.string eB,.slice none 0 0,.slice none 0 0,.string (bk s)]))) ?_ ?_
   ·
    refine I4 H kr (G6 (fuel:=13) [(0,0)] (fun w h=>((h.erase 1).erase 0)) (k:=?_))
    refine L1 (ad:=⟨nb,0,none⟩) 1 (hL:=(fun w h=>((h.erase 1).erase 0))) (k:=G6 (fuel:=9) [(2,0),(4,0),(5,0)] (fun w h=>((h.erase 1).erase 0)) (k:=?_))
    refine K9 3 7 (k:=?_) (k':=?_)
    ·
     refine A6 (ch:=[]) (b:=nb) (off:=3) (v:=.slice ka kn kc) (hA:=At.grp 0 0 rfl rfl) (k:=B6 kr (fun w h=>((h.erase 1).erase 0)) ?_)
     refine W7 (v:=.int .i64 ((kn:Nat):Int)) 6 (hL:=(fun w h=>((h.erase 1).erase 0))) (k:=E4 7 (k:=?_))
     refine D5 (ch:=[]) (e:=55) (l:=[(0,.agg zN.toArray)]) (c:=zN) (k:=(fun b3=>?_))
     refine B6 kr (fun w h=>(((h.erase 2).erase 1).erase 0)) (O2 ([(b3,.cells zN.toArray 55 (0,0))]::H) (fun w h=>(h.erase 0)) ?_)
     refine E4 8 (k:=G4 (i:=8) (ch:=[]) (t:=53) (tx:=53) (e:=55) (inf:=Tryz.t55) (s:=.slice ka kn kc) (x:=.slice (some ⟨b3,0,none⟩) 1 1) (n:=kn) (m:=1) (j:=2) (cs:=cs) (news:=zN) (g:=kg) (S:=(inG [(b3,.cells zN.toArray 55 (0,0))])) rfl rfl rfl rfl kr kr kr rfl rfl (.inl ⟨55,kr⟩) (fun ⟨_,h⟩=>by cases h) (fun _=>⟨55,kr⟩) kr kr kr rfl hO (SrcOf.slice _ _ _ _ Rd.lit (fun h=>by cases h)) (D4 0 rfl) kr (by intro u hu; simp only [List.mem_cons,List.not_mem_nil,or_false] at hu; rcases hu with rfl | rfl | rfl | rfl | rfl <;> rfl) (by omega) (by show (kn+1) * 96≤140737488355328; omega) (fun v4 g5 hO6=>?_))
     obtain ⟨a7,cap8,rfl,hcap9,hrd10⟩:=hO6.shape
     refine B6 kr (fun w h=>((h.erase 2).erase 1)) (L1 (ad:=⟨nb,0,none⟩) 11 (hL:=(fun w h=>((h.erase 2).erase 1))) (k:=?_))
     refine G6 (fuel:=3) [(12,0)] (fun w h=>((h.erase 2).erase 1)) (k:=K9 9 13 (k:=?_) (k':=?_))
     ·
      refine A9 (ch:=[]) (a:=a7) (len:=(kn+1)) (cap:=cap8) (kd:=.i64) (j:=((kn:Nat):Int)) (e:=55) (sz:=5) (S:=(inG g5)) (cs:=(cs++zN)) (hrd:=K7 hO6) (hb:=(fun _=>by exact ⟨by omega,by omega,by intro h; have h2:=congrArg List.length h; rw [List.length_append] at h2; simp at h2⟩)) (k:=B6 kr (fun w h=>((h.erase 2).erase 1)) ?_)
      refine K9 10 13 (k:=?_) (k':=?_)
      ·
       refine F9 (ch:=[]) (a:=a7) (q:=kn * 5) (len:=(kn+1)) (cap:=cap8) (v:=.agg #[.string eB,.string eB,.slice none 0 0,.slice none 0 0,.string (bk s)]) (g:=g5) (j:=2) (cs:=(cs++zN)) (cs':=(cs++[.string eB,.string eB,.slice none 0 0,.slice none 0 0,.string (bk s)])) (l:=[.string eB,.string eB,.slice none 0 0,.slice none 0 0,.string (bk s)]) (h1:=kr) (hO:=hO6) (hq:=(by rw [List.length_append,(show cs.length=kn * 5 by omega)]; exact Nat.le_refl _)) (h0:=List.cons_ne_nil _ _) (hcs:=I1 (z:=zN) (l:=[.string eB,.string eB,.slice none 0 0,.slice none 0 0,.string (bk s)]) (show cs.length=kn * 5 by omega) rfl) (k:=(fun g11 hO12=>?_))
       refine B6 kr (fun w h=>((h.erase 2).erase 1)) (E4 13 (k:=?_))
       refine E2 (ch:=[]) (b:=nb) (off:=3) (v:=.slice a7 (kn+1) cap8) (j:=1) ([(b3,.cells zN.toArray 55 (0,0))]::[(nb,.cells #[v0,v1,v2,.slice a7 (kn+1) cap8,v4] 55 (0,0))]::g11::H) (hoff:=Nat.le_of_ble_eq_true rfl) (hfz:=(fun _ _=>E0)) (k:=B6 kr (fun w h=>((h.erase 2).erase 1)) ?_)
       refine G3 (E':=[]) [] (k:=H0 (a7,cap8,g11) [] kr (fun w h=>(h.erase 0)) hO12)
      ·
       refine E2 (ch:=[]) (b:=nb) (off:=3) (v:=.slice a7 (kn+1) cap8) (j:=1) ([(b3,.cells zN.toArray 55 (0,0))]::[(nb,.cells #[v0,v1,v2,.slice a7 (kn+1) cap8,v4] 55 (0,0))]::g5::H) (hoff:=Nat.le_of_ble_eq_true rfl) (hfz:=(fun _ _=>E0)) (k:=B6 kr (fun w h=>((h.erase 2).erase 1)) ?_)
       refine E4 10 (k:=F9 (ch:=[]) (a:=a7) (q:=kn * 5) (len:=(kn+1)) (cap:=cap8) (v:=.agg #[.string eB,.string eB,.slice none 0 0,.slice none 0 0,.string (bk s)]) (g:=g5) (j:=2) (cs:=(cs++zN)) (cs':=(cs++[.string eB,.string eB,.slice none 0 0,.slice none 0 0,.string (bk s)])) (l:=[.string eB,.string eB,.slice none 0 0,.slice none 0 0,.string (bk s)]) (h1:=kr) (hO:=hO6) (hq:=(by rw [List.length_append,(show cs.length=kn * 5 by omega)]; exact Nat.le_refl _)) (h0:=List.cons_ne_nil _ _) (hcs:=I1 (z:=zN) (l:=[.string eB,.string eB,.slice none 0 0,.slice none 0 0,.string (bk s)]) (show cs.length=kn * 5 by omega) rfl) (k:=(fun g13 hO14=>?_)))
       refine B6 kr (fun w h=>((h.erase 2).erase 1)) (G3 (E':=[]) [] (k:=?_))
       refine H0 (a7,cap8,g13) [] kr (fun w h=>(h.erase 0)) hO14
     ·
      refine E2 (ch:=[]) (b:=nb) (off:=3) (v:=.slice a7 (kn+1) cap8) (j:=1) ([(b3,.cells zN.toArray 55 (0,0))]::[(nb,.cells #[v0,v1,v2,.slice a7 (kn+1) cap8,v4] 55 (0,0))]::g5::H) (hoff:=Nat.le_of_ble_eq_true rfl) (hfz:=(fun _ _=>E0)) (k:=B6 kr (fun w h=>((h.erase 2).erase 1)) ?_)
      refine E4 9 (k:=A9 (ch:=[]) (a:=a7) (len:=(kn+1)) (cap:=cap8) (kd:=.i64) (j:=((kn:Nat):Int)) (e:=55) (sz:=5) (S:=(inG g5)) (cs:=(cs++zN)) (hrd:=K7 hO6) (hb:=(fun _=>by exact ⟨by omega,by omega,by intro h; have h2:=congrArg List.length h; rw [List.length_append] at h2; simp at h2⟩)) (k:=?_))
      refine B6 kr (fun w h=>((h.erase 2).erase 1)) (E4 10 (k:=?_))
      refine F9 (ch:=[]) (a:=a7) (q:=kn * 5) (len:=(kn+1)) (cap:=cap8) (v:=.agg #[.string eB,.string eB,.slice none 0 0,.slice none 0 0,.string (bk s)]) (g:=g5) (j:=2) (cs:=(cs++zN)) (cs':=(cs++[.string eB,.string eB,.slice none 0 0,.slice none 0 0,.string (bk s)])) (l:=[.string eB,.string eB,.slice none 0 0,.slice none 0 0,.string (bk s)]) (h1:=kr) (hO:=hO6) (hq:=(by rw [List.length_append,(show cs.length=kn * 5 by omega)]; exact Nat.le_refl _)) (h0:=List.cons_ne_nil _ _) (hcs:=I1 (z:=zN) (l:=[.string eB,.string eB,.slice none 0 0,.slice none 0 0,.string (bk s)]) (show cs.length=kn * 5 by omega) rfl) (k:=(fun g15 hO16=>?_))
      refine B6 kr (fun w h=>((h.erase 2).erase 1)) (G3 (E':=[]) [] (k:=?_))
      refine H0 (a7,cap8,g15) [] kr (fun w h=>(h.erase 0)) hO16
    ·
     refine D5 (ch:=[]) (e:=55) (l:=[(0,.agg zN.toArray)]) (c:=zN) (k:=(fun b17=>?_))
     refine B6 kr (fun w h=>(((h.erase 2).erase 1).erase 0)) (O2 ([(b17,.cells zN.toArray 55 (0,0))]::H) (fun w h=>(h.erase 0)) ?_)
     refine E4 3 (k:=A6 (ch:=[]) (b:=nb) (off:=3) (v:=.slice ka kn kc) (hA:=At.grp 1 0 rfl rfl) (k:=?_))
     refine B6 kr (fun w h=>((h.erase 2).erase 1)) (W7 (v:=.int .i64 ((kn:Nat):Int)) 6 (hL:=(fun w h=>((h.erase 2).erase 1))) (k:=?_))
     refine E4 8 (k:=G4 (i:=8) (ch:=[]) (t:=53) (tx:=53) (e:=55) (inf:=Tryz.t55) (s:=.slice ka kn kc) (x:=.slice (some ⟨b17,0,none⟩) 1 1) (n:=kn) (m:=1) (j:=2) (cs:=cs) (news:=zN) (g:=kg) (S:=(inG [(b17,.cells zN.toArray 55 (0,0))])) rfl rfl rfl rfl kr kr kr rfl rfl (.inl ⟨55,kr⟩) (fun ⟨_,h⟩=>by cases h) (fun _=>⟨55,kr⟩) kr kr kr rfl hO (SrcOf.slice _ _ _ _ Rd.lit (fun h=>by cases h)) (D4 0 rfl) kr (by intro u hu; simp only [List.mem_cons,List.not_mem_nil,or_false] at hu; rcases hu with rfl | rfl | rfl | rfl | rfl <;> rfl) (by omega) (by show (kn+1) * 96≤140737488355328; omega) (fun v18 g19 hO20=>?_))
     obtain ⟨a21,cap22,rfl,hcap23,hrd24⟩:=hO20.shape
     refine B6 kr (fun w h=>((h.erase 2).erase 1)) (L1 (ad:=⟨nb,0,none⟩) 11 (hL:=(fun w h=>((h.erase 2).erase 1))) (k:=?_))
     refine G6 (fuel:=3) [(12,0)] (fun w h=>((h.erase 2).erase 1)) (k:=K9 9 13 (k:=?_) (k':=?_))
     ·
      refine A9 (ch:=[]) (a:=a21) (len:=(kn+1)) (cap:=cap22) (kd:=.i64) (j:=((kn:Nat):Int)) (e:=55) (sz:=5) (S:=(inG g19)) (cs:=(cs++zN)) (hrd:=K7 hO20) (hb:=(fun _=>by exact ⟨by omega,by omega,by intro h; have h2:=congrArg List.length h; rw [List.length_append] at h2; simp at h2⟩)) (k:=B6 kr (fun w h=>((h.erase 2).erase 1)) ?_)
      refine K9 10 13 (k:=?_) (k':=?_)
      ·
       refine F9 (ch:=[]) (a:=a21) (q:=kn * 5) (len:=(kn+1)) (cap:=cap22) (v:=.agg #[.string eB,.string eB,.slice none 0 0,.slice none 0 0,.string (bk s)]) (g:=g19) (j:=2) (cs:=(cs++zN)) (cs':=(cs++[.string eB,.string eB,.slice none 0 0,.slice none 0 0,.string (bk s)])) (l:=[.string eB,.string eB,.slice none 0 0,.slice none 0 0,.string (bk s)]) (h1:=kr) (hO:=hO20) (hq:=(by rw [List.length_append,(show cs.length=kn * 5 by omega)]; exact Nat.le_refl _)) (h0:=List.cons_ne_nil _ _) (hcs:=I1 (z:=zN) (l:=[.string eB,.string eB,.slice none 0 0,.slice none 0 0,.string (bk s)]) (show cs.length=kn * 5 by omega) rfl) (k:=(fun g25 hO26=>?_))
       refine B6 kr (fun w h=>((h.erase 2).erase 1)) (E4 13 (k:=?_))
       refine E2 (ch:=[]) (b:=nb) (off:=3) (v:=.slice a21 (kn+1) cap22) (j:=1) ([(b17,.cells zN.toArray 55 (0,0))]::[(nb,.cells #[v0,v1,v2,.slice a21 (kn+1) cap22,v4] 55 (0,0))]::g25::H) (hoff:=Nat.le_of_ble_eq_true rfl) (hfz:=(fun _ _=>E0)) (k:=B6 kr (fun w h=>((h.erase 2).erase 1)) ?_)
       refine G3 (E':=[]) [] (k:=H0 (a21,cap22,g25) [] kr (fun w h=>(h.erase 0)) hO26)
      ·
       refine E2 (ch:=[]) (b:=nb) (off:=3) (v:=.slice a21 (kn+1) cap22) (j:=1) ([(b17,.cells zN.toArray 55 (0,0))]::[(nb,.cells #[v0,v1,v2,.slice a21 (kn+1) cap22,v4] 55 (0,0))]::g19::H) (hoff:=Nat.le_of_ble_eq_true rfl) (hfz:=(fun _ _=>E0)) (k:=B6 kr (fun w h=>((h.erase 2).erase 1)) ?_)
       refine E4 10 (k:=F9 (ch:=[]) (a:=a21) (q:=kn * 5) (len:=(kn+1)) (cap:=cap22) (v:=.agg #[.string eB,.string eB,.slice none 0 0,.slice none 0 0,.string (bk s)]) (g:=g19) (j:=2) (cs:=(cs++zN)) (cs':=(cs++[.string eB,.string eB,.slice none 0 0,.slice none 0 0,.string (bk s)])) (l:=[.string eB,.string eB,.slice none 0 0,.slice none 0 0,.string (bk s)]) (h1:=kr) (hO:=hO20) (hq:=(by rw [List.length_append,(show cs.length=kn * 5 by omega)]; exact Nat.le_refl _)) (h0:=List.cons_ne_nil _ _) (hcs:=I1 (z:=zN) (l:=[.string eB,.string eB,.slice none 0 0,.slice none 0 0,.string (bk s)]) (show cs.length=kn * 5 by omega) rfl) (k:=(fun g27 hO28=>?_)))
       refine B6 kr (fun w h=>((h.erase 2).erase 1)) (G3 (E':=[]) [] (k:=?_))
       refine H0 (a21,cap22,g27) [] kr (fun w h=>(h.erase 0)) hO28
     ·
      refine E2 (ch:=[]) (b:=nb) (off:=3) (v:=.slice a21 (kn+1) cap22) (j:=1) ([(b17,.cells zN.toArray 55 (0,0))]::[(nb,.cells #[v0,v1,v2,.slice a21 (kn+1) cap22,v4] 55 (0,0))]::g19::H) (hoff:=Nat.le_of_ble_eq_true rfl) (hfz:=(fun _ _=>E0)) (k:=B6 kr (fun w h=>((h.erase 2).erase 1)) ?_)
      refine E4 9 (k:=A9 (ch:=[]) (a:=a21) (len:=(kn+1)) (cap:=cap22) (kd:=.i64) (j:=((kn:Nat):Int)) (e:=55) (sz:=5) (S:=(inG g19)) (cs:=(cs++zN)) (hrd:=K7 hO20) (hb:=(fun _=>by exact ⟨by omega,by omega,by intro h; have h2:=congrArg List.length h; rw [List.length_append] at h2; simp at h2⟩)) (k:=?_))
      refine B6 kr (fun w h=>((h.erase 2).erase 1)) (E4 10 (k:=?_))
      refine F9 (ch:=[]) (a:=a21) (q:=kn * 5) (len:=(kn+1)) (cap:=cap22) (v:=.agg #[.string eB,.string eB,.slice none 0 0,.slice none 0 0,.string (bk s)]) (g:=g19) (j:=2) (cs:=(cs++zN)) (cs':=(cs++[.string eB,.string eB,.slice none 0 0,.slice none 0 0,.string (bk s)])) (l:=[.string eB,.string eB,.slice none 0 0,.slice none 0 0,.string (bk s)]) (h1:=kr) (hO:=hO20) (hq:=(by rw [List.length_append,(show cs.length=kn * 5 by omega)]; exact Nat.le_refl _)) (h0:=List.cons_ne_nil _ _) (hcs:=I1 (z:=zN) (l:=[.string eB,.string eB,.slice none 0 0,.slice none 0 0,.string (bk s)]) (show cs.length=kn * 5 by omega) rfl) (k:=(fun g29 hO30=>?_))
      refine B6 kr (fun w h=>((h.erase 2).erase 1)) (G3 (E':=[]) [] (k:=?_))
      refine H0 (a21,cap22,g29) [] kr (fun w h=>(h.erase 0)) hO30
   ·
    rintro ⟨xa,xc,xg⟩ hxo
    dsimp only at hxo
    refine C6 (B9 [] [] (k:=?_))
    exact ⟨_,_,_,_,_,by rw [add_new hs0 (.inl hk0),List.length_append,hkn]; rfl,hxo,by rw [add_new hs0 (.inl hk0)]; have h2:=hP.snoc (XRep.text s); rwa [List.append_nil] at h2,rfl⟩
  ·
   obtain ⟨l0,v,cs0,c,g0,g1,e1,e2,e3,hP0,hPv⟩:=hP.last hk0
   have hcl0:=hP0.len
   have hvl:=hPv.len
   have hkl:kn=l0.length+1:=by rw [hkn,e1,List.length_append]; rfl
   refine A3 (G5 (E':=[⟨28,[],.bool (decide ((((kn:Nat):Int) - 1) ≥ 0))⟩,⟨0,[],pt nb⟩,⟨1,[],.string (bk s)⟩,⟨4,[],.int .i64 (((kn:Nat):Int) - 1)⟩]) (j:=2) [0,0] (k:=?_))
   refine F0 (E':=[⟨28,[],.bool true⟩,⟨0,[],pt nb⟩,⟨1,[],.string (bk s)⟩,⟨4,[],.int .i64 (((kn:Nat):Int) - 1)⟩]) (by rw [show decide (((kn:Nat):Int) - 1 ≥ 0)=true from decide_eq_true (by omega)]) (A4 (j:=6) [0,0,0,0] (k:=?_))
   refine A6 (ch:=[(29,true)]) (b:=nb) (off:=3) (v:=.slice ka kn kc) (hA:=At.grp 0 0 rfl rfl) (k:=A4 (j:=8) [0] (k:=?_))
   refine A9 (ch:=[(29,true)]) (a:=ka) (len:=kn) (cap:=kc) (kd:=.i64) (j:=((kn:Nat):Int) - 1) (e:=55) (sz:=5) (S:=(inG kg)) (cs:=cs) (hrd:=K7 hO) (hb:=(fun hc=>by exact ⟨by omega,by omega,by intro h; have h2:=congrArg List.length h; rw [hcl,List.length_nil] at h2; omega⟩)) (k:=?_)
   have hw31:Addr.add (eltA ka ((Int.toNat (((kn:Nat):Int) - 1)) * 5)) 1=eltA ka ((Int.toNat (((kn:Nat):Int) - 1)) * 5+1):=eltA_add _ _ _
   refine G5 (E':=[⟨36,[(29,true)],.pointer (some (eltA ka ((Int.toNat (((kn:Nat):Int) - 1)) * 5+1)))⟩,⟨29,[],.bool true⟩,⟨0,[],pt nb⟩,⟨1,[],.string (bk s)⟩,⟨4,[],.int .i64 (((kn:Nat):Int) - 1)⟩]) [0] (Eq.trans (b:=some [⟨36,[(29,true)],.pointer (some (Addr.add (eltA ka ((Int.toNat (((kn:Nat):Int) - 1)) * 5)) 1))⟩,⟨29,[],.bool true⟩,⟨0,[],pt nb⟩,⟨1,[],.string (bk s)⟩,⟨4,[],.int .i64 (((kn:Nat):Int) - 1)⟩]) kr (by simp only [hw31])) (j:=10) rfl (F4 (ch:=[(29,true)]) (a:=ka) (q:=(Int.toNat (((kn:Nat):Int) - 1)) * 5+1) (S:=(inG kg)) (cs:=cs) (v:=.string (bk v.name)) (hrd:=K7 hO) (hS:=D4 1 rfl) (hv:=(fun hc=>(by rw [e2,show Int.toNat (((kn:Nat):Int) - 1) * 5+1=cs0.length+1 by omega,List.getElem?_append_right (by omega),Nat.add_sub_cancel_left]; exact (kid_cells hPv).1))) (k:=?_))
   refine B1 [0,2,0] [0,1,4,26] (k:=A0 ?_)
   refine B7 (b:=(bk v.name).toList==eB.toList) kr (fun hc32=>?_) (fun hc32=>?_)
   ·
    have hv:v.name=[]:=(eqB _ _).1 hc32
    refine A3 (A4 (j:=3) [0,0,0] (k:=?_))
    refine A6 (ch:=[]) (b:=nb) (off:=3) (v:=.slice ka kn kc) (hA:=At.grp 0 0 rfl rfl) (k:=A4 (j:=5) [0] (k:=?_))
    refine A9 (ch:=[]) (a:=ka) (len:=kn) (cap:=kc) (kd:=.i64) (j:=((kn:Nat):Int) - 1) (e:=55) (sz:=5) (S:=(inG kg)) (cs:=cs) (hrd:=K7 hO) (hb:=(fun _=>by exact ⟨by omega,by omega,by intro h; have h2:=congrArg List.length h; rw [hcl,List.length_nil] at h2; omega⟩)) (k:=?_)
    have hw33:Addr.add (eltA ka ((Int.toNat (((kn:Nat):Int) - 1)) * 5)) 4=eltA ka ((Int.toNat (((kn:Nat):Int) - 1)) * 5+4):=eltA_add _ _ _
    refine G5 (E':=[⟨46,[],.pointer (some (eltA ka ((Int.toNat (((kn:Nat):Int) - 1)) * 5+4)))⟩,⟨44,[],.int .i64 (((kn:Nat):Int) - 1)⟩,⟨43,[],.slice ka kn kc⟩,⟨1,[],.string (bk s)⟩]) [0] (Eq.trans (b:=some [⟨46,[],.pointer (some (Addr.add (eltA ka ((Int.toNat (((kn:Nat):Int) - 1)) * 5)) 4))⟩,⟨44,[],.int .i64 (((kn:Nat):Int) - 1)⟩,⟨43,[],.slice ka kn kc⟩,⟨1,[],.string (bk s)⟩]) kr (by simp only [hw33])) (j:=7) rfl (F4 (ch:=[]) (a:=ka) (q:=(Int.toNat (((kn:Nat):Int) - 1)) * 5+4) (S:=(inG kg)) (cs:=cs) (v:=.string (bk v.text)) (hrd:=K7 hO) (hS:=D4 1 rfl) (hv:=(fun _=>(by rw [e2,show Int.toNat (((kn:Nat):Int) - 1) * 5+4=cs0.length+4 by omega,List.getElem?_append_right (by omega),Nat.add_sub_cancel_left]; exact (kid_cells hPv).2))) (k:=?_))
    refine A4 (j:=9) [0] (k:=I9 (ch:=[]) (s:=(bk v.text)) (u:=(bk s)) (hb:=(by intro _; rw [D9,D9]; have h2:=W2 l0 v; rw [← e1] at h2; omega)) (k:=?_))
    refine F0 (E':=[⟨49,[],.string (bk (v.text++s))⟩,⟨48,[],.string (bk s)⟩,⟨47,[],.string (bk v.text)⟩,⟨46,[],.pointer (some (eltA ka ((Int.toNat (((kn:Nat):Int) - 1)) * 5+4)))⟩,⟨44,[],.int .i64 (((kn:Nat):Int) - 1)⟩,⟨43,[],.slice ka kn kc⟩,⟨1,[],.string (bk s)⟩]) (by have hz:([⟨49,[],.string ((bk v.text)++(bk s))⟩,⟨48,[],.string (bk s)⟩,⟨47,[],.string (bk v.text)⟩,⟨46,[],.pointer (some (eltA ka ((Int.toNat (((kn:Nat):Int) - 1)) * 5+4)))⟩,⟨44,[],.int .i64 (((kn:Nat):Int) - 1)⟩,⟨43,[],.slice ka kn kc⟩,⟨1,[],.string (bk s)⟩]:List Sl)=[⟨49,[],.string (bk (v.text++s))⟩,⟨48,[],.string (bk s)⟩,⟨47,[],.string (bk v.text)⟩,⟨46,[],.pointer (some (eltA ka ((Int.toNat (((kn:Nat):Int) - 1)) * 5+4)))⟩,⟨44,[],.int .i64 (((kn:Nat):Int) - 1)⟩,⟨43,[],.slice ka kn kc⟩,⟨1,[],.string (bk s)⟩]:=(by rw [bk_app]); exact Eq.trans kr hz) (A9 (ch:=[]) (a:=ka) (len:=kn) (cap:=kc) (kd:=.i64) (j:=((kn:Nat):Int) - 1) (e:=55) (sz:=5) (S:=(inG kg)) (cs:=cs) (hrd:=K7 hO) (hb:=(fun _=>by exact ⟨by omega,by omega,by intro h; have h2:=congrArg List.length h; rw [hcl,List.length_nil] at h2; omega⟩)) (k:=?_))
    have hw34:Addr.add (eltA ka ((Int.toNat (((kn:Nat):Int) - 1)) * 5)) 4=eltA ka ((Int.toNat (((kn:Nat):Int) - 1)) * 5+4):=eltA_add _ _ _
    refine G5 (E':=[⟨51,[],.pointer (some (eltA ka ((Int.toNat (((kn:Nat):Int) - 1)) * 5+4)))⟩,⟨49,[],.string (bk (v.text++s))⟩]) [0] (Eq.trans (b:=some [⟨51,[],.pointer (some (Addr.add (eltA ka ((Int.toNat (((kn:Nat):Int) - 1)) * 5)) 4))⟩,⟨49,[],.string (bk (v.text++s))⟩]) kr (by simp only [hw34])) (j:=12) rfl (GL_storeO (i:=12) (ch:=[]) (a:=ka) (q:=(Int.toNat (((kn:Nat):Int) - 1)) * 5+4) (len:=kn) (cap:=kc) (v:=.string (bk (v.text++s))) (g:=kg) (j:=1) (cs:=cs) (cs':=(cs0++c.set 4 (.string (bk (v.text++s))))) rfl rfl kr kr kr kr rfl kr kr kr rfl hO (by omega) (by rw [e2,show (Int.toNat (((kn:Nat):Int) - 1)) * 5+4=cs0.length+4 by omega,List.set_append_right _ _ (by omega),Nat.add_sub_cancel_left]) (fun g35 hO36=>?_))
    refine B5 (E':=[]) [] [] (k:=C6 ?_)
    refine B9 [] [] (k:=?_)
    exact ⟨_,_,_,_,_,by rw [e1,add_last hs0 hv,List.length_append]; exact hkl,hO36,by rw [e1,add_last hs0 hv,e3]; exact hP0.snoc (kid_text hPv hv s),rfl⟩
   ·
    have hv:v.name≠[]:=(eqBf _ _).1 hc32
    refine Q7 (T:=Option Addr × Nat × Grp) (fun ξ:Option Addr × Nat × Grp=>[]) (fun ξ:Option Addr × Nat × Grp=>([(nb,.cells #[v0,v1,v2,.slice ξ.1 (kn+1) ξ.2.1,v4] 55 (0,0))]::ξ.2.2::H)) (fun ξ:Option Addr × Nat × Grp=>(Go.Sw.Own 55 5 (.slice ξ.1 (kn+1) ξ.2.1) ξ.2.2 (kn+1) (cs++[.string eB,.string eB,.slice none 0 0,.slice none 0 0,.string (bk s)]))) ?_ ?_
    ·
     refine I4 H kr (G6 (fuel:=13) [(0,0)] (fun w h=>((h.erase 1).erase 0)) (k:=?_))
     refine L1 (ad:=⟨nb,0,none⟩) 1 (hL:=(fun w h=>((h.erase 1).erase 0))) (k:=G6 (fuel:=9) [(2,0),(4,0),(5,0)] (fun w h=>((h.erase 1).erase 0)) (k:=?_))
     refine K9 3 7 (k:=?_) (k':=?_)
     ·
      refine A6 (ch:=[]) (b:=nb) (off:=3) (v:=.slice ka kn kc) (hA:=At.grp 0 0 rfl rfl) (k:=B6 kr (fun w h=>((h.erase 1).erase 0)) ?_)
      refine W7 (v:=.int .i64 ((kn:Nat):Int)) 6 (hL:=(fun w h=>((h.erase 1).erase 0))) (k:=E4 7 (k:=?_))
      refine D5 (ch:=[]) (e:=55) (l:=[(0,.agg zN.toArray)]) (c:=zN) (k:=(fun b37=>?_))
      refine B6 kr (fun w h=>(((h.erase 2).erase 1).erase 0)) (O2 ([(b37,.cells zN.toArray 55 (0,0))]::H) (fun w h=>(h.erase 0)) ?_)
      refine E4 8 (k:=G4 (i:=8) (ch:=[]) (t:=53) (tx:=53) (e:=55) (inf:=Tryz.t55) (s:=.slice ka kn kc) (x:=.slice (some ⟨b37,0,none⟩) 1 1) (n:=kn) (m:=1) (j:=2) (cs:=cs) (news:=zN) (g:=kg) (S:=(inG [(b37,.cells zN.toArray 55 (0,0))])) rfl rfl rfl rfl kr kr kr rfl rfl (.inl ⟨55,kr⟩) (fun ⟨_,h⟩=>by cases h) (fun _=>⟨55,kr⟩) kr kr kr rfl hO (SrcOf.slice _ _ _ _ Rd.lit (fun h=>by cases h)) (D4 0 rfl) kr (by intro u hu; simp only [List.mem_cons,List.not_mem_nil,or_false] at hu; rcases hu with rfl | rfl | rfl | rfl | rfl <;> rfl) (by omega) (by show (kn+1) * 96≤140737488355328; omega) (fun v38 g39 hO40=>?_))
      obtain ⟨a41,cap42,rfl,hcap43,hrd44⟩:=hO40.shape
      refine B6 kr (fun w h=>((h.erase 2).erase 1)) (L1 (ad:=⟨nb,0,none⟩) 11 (hL:=(fun w h=>((h.erase 2).erase 1))) (k:=?_))
      refine G6 (fuel:=3) [(12,0)] (fun w h=>((h.erase 2).erase 1)) (k:=K9 9 13 (k:=?_) (k':=?_))
      ·
       refine A9 (ch:=[]) (a:=a41) (len:=(kn+1)) (cap:=cap42) (kd:=.i64) (j:=((kn:Nat):Int)) (e:=55) (sz:=5) (S:=(inG g39)) (cs:=(cs++zN)) (hrd:=K7 hO40) (hb:=(fun _=>by exact ⟨by omega,by omega,by intro h; have h2:=congrArg List.length h; rw [List.length_append] at h2; simp at h2⟩)) (k:=B6 kr (fun w h=>((h.erase 2).erase 1)) ?_)
       refine K9 10 13 (k:=?_) (k':=?_)
       ·
        refine F9 (ch:=[]) (a:=a41) (q:=kn * 5) (len:=(kn+1)) (cap:=cap42) (v:=.agg #[.string eB,.string eB,.slice none 0 0,.slice none 0 0,.string (bk s)]) (g:=g39) (j:=2) (cs:=(cs++zN)) (cs':=(cs++[.string eB,.string eB,.slice none 0 0,.slice none 0 0,.string (bk s)])) (l:=[.string eB,.string eB,.slice none 0 0,.slice none 0 0,.string (bk s)]) (h1:=kr) (hO:=hO40) (hq:=(by rw [List.length_append,(show cs.length=kn * 5 by omega)]; exact Nat.le_refl _)) (h0:=List.cons_ne_nil _ _) (hcs:=I1 (z:=zN) (l:=[.string eB,.string eB,.slice none 0 0,.slice none 0 0,.string (bk s)]) (show cs.length=kn * 5 by omega) rfl) (k:=(fun g45 hO46=>?_))
        refine B6 kr (fun w h=>((h.erase 2).erase 1)) (E4 13 (k:=?_))
        refine E2 (ch:=[]) (b:=nb) (off:=3) (v:=.slice a41 (kn+1) cap42) (j:=1) ([(b37,.cells zN.toArray 55 (0,0))]::[(nb,.cells #[v0,v1,v2,.slice a41 (kn+1) cap42,v4] 55 (0,0))]::g45::H) (hoff:=Nat.le_of_ble_eq_true rfl) (hfz:=(fun _ _=>E0)) (k:=B6 kr (fun w h=>((h.erase 2).erase 1)) ?_)
        refine G3 (E':=[]) [] (k:=H0 (a41,cap42,g45) [] kr (fun w h=>(h.erase 0)) hO46)
       ·
        refine E2 (ch:=[]) (b:=nb) (off:=3) (v:=.slice a41 (kn+1) cap42) (j:=1) ([(b37,.cells zN.toArray 55 (0,0))]::[(nb,.cells #[v0,v1,v2,.slice a41 (kn+1) cap42,v4] 55 (0,0))]::g39::H) (hoff:=Nat.le_of_ble_eq_true rfl) (hfz:=(fun _ _=>E0)) (k:=B6 kr (fun w h=>((h.erase 2).erase 1)) ?_)
        refine E4 10 (k:=F9 (ch:=[]) (a:=a41) (q:=kn * 5) (len:=(kn+1)) (cap:=cap42) (v:=.agg #[.string eB,.string eB,.slice none 0 0,.slice none 0 0,.string (bk s)]) (g:=g39) (j:=2) (cs:=(cs++zN)) (cs':=(cs++[.string eB,.string eB,.slice none 0 0,.slice none 0 0,.string (bk s)])) (l:=[.string eB,.string eB,.slice none 0 0,.slice none 0 0,.string (bk s)]) (h1:=kr) (hO:=hO40) (hq:=(by rw [List.length_append,(show cs.length=kn * 5 by omega)]; exact Nat.le_refl _)) (h0:=List.cons_ne_nil _ _) (hcs:=I1 (z:=zN) (l:=[.string eB,.string eB,.slice none 0 0,.slice none 0 0,.string (bk s)]) (show cs.length=kn * 5 by omega) rfl) (k:=(fun g47 hO48=>?_)))
        refine B6 kr (fun w h=>((h.erase 2).erase 1)) (G3 (E':=[]) [] (k:=?_))
        refine H0 (a41,cap42,g47) [] kr (fun w h=>(h.erase 0)) hO48
      ·
       refine E2 (ch:=[]) (b:=nb) (off:=3) (v:=.slice a41 (kn+1) cap42) (j:=1) ([(b37,.cells zN.toArray 55 (0,0))]::[(nb,.cells #[v0,v1,v2,.slice a41 (kn+1) cap42,v4] 55 (0,0))]::g39::H) (hoff:=Nat.le_of_ble_eq_true rfl) (hfz:=(fun _ _=>E0)) (k:=B6 kr (fun w h=>((h.erase 2).erase 1)) ?_)
       refine E4 9 (k:=A9 (ch:=[]) (a:=a41) (len:=(kn+1)) (cap:=cap42) (kd:=.i64) (j:=((kn:Nat):Int)) (e:=55) (sz:=5) (S:=(inG g39)) (cs:=(cs++zN)) (hrd:=K7 hO40) (hb:=(fun _=>by exact ⟨by omega,by omega,by intro h; have h2:=congrArg List.length h; rw [List.length_append] at h2; simp at h2⟩)) (k:=?_))
       refine B6 kr (fun w h=>((h.erase 2).erase 1)) (E4 10 (k:=?_))
       refine F9 (ch:=[]) (a:=a41) (q:=kn * 5) (len:=(kn+1)) (cap:=cap42) (v:=.agg #[.string eB,.string eB,.slice none 0 0,.slice none 0 0,.string (bk s)]) (g:=g39) (j:=2) (cs:=(cs++zN)) (cs':=(cs++[.string eB,.string eB,.slice none 0 0,.slice none 0 0,.string (bk s)])) (l:=[.string eB,.string eB,.slice none 0 0,.slice none 0 0,.string (bk s)]) (h1:=kr) (hO:=hO40) (hq:=(by rw [List.length_append,(show cs.length=kn * 5 by omega)]; exact Nat.le_refl _)) (h0:=List.cons_ne_nil _ _) (hcs:=I1 (z:=zN) (l:=[.string eB,.string eB,.slice none 0 0,.slice none 0 0,.string (bk s)]) (show cs.length=kn * 5 by omega) rfl) (k:=(fun g49 hO50=>?_))
       refine B6 kr (fun w h=>((h.erase 2).erase 1)) (G3 (E':=[]) [] (k:=?_))
       refine H0 (a41,cap42,g49) [] kr (fun w h=>(h.erase 0)) hO50
     ·
      refine D5 (ch:=[]) (e:=55) (l:=[(0,.agg zN.toArray)]) (c:=zN) (k:=(fun b51=>?_))
      refine B6 kr (fun w h=>(((h.erase 2).erase 1).erase 0)) (O2 ([(b51,.cells zN.toArray 55 (0,0))]::H) (fun w h=>(h.erase 0)) ?_)
      refine E4 3 (k:=A6 (ch:=[]) (b:=nb) (off:=3) (v:=.slice ka kn kc) (hA:=At.grp 1 0 rfl rfl) (k:=?_))
      refine B6 kr (fun w h=>((h.erase 2).erase 1)) (W7 (v:=.int .i64 ((kn:Nat):Int)) 6 (hL:=(fun w h=>((h.erase 2).erase 1))) (k:=?_))
      refine E4 8 (k:=G4 (i:=8) (ch:=[]) (t:=53) (tx:=53) (e:=55) (inf:=Tryz.t55) (s:=.slice ka kn kc) (x:=.slice (some ⟨b51,0,none⟩) 1 1) (n:=kn) (m:=1) (j:=2) (cs:=cs) (news:=zN) (g:=kg) (S:=(inG [(b51,.cells zN.toArray 55 (0,0))])) rfl rfl rfl rfl kr kr kr rfl rfl (.inl ⟨55,kr⟩) (fun ⟨_,h⟩=>by cases h) (fun _=>⟨55,kr⟩) kr kr kr rfl hO (SrcOf.slice _ _ _ _ Rd.lit (fun h=>by cases h)) (D4 0 rfl) kr (by intro u hu; simp only [List.mem_cons,List.not_mem_nil,or_false] at hu; rcases hu with rfl | rfl | rfl | rfl | rfl <;> rfl) (by omega) (by show (kn+1) * 96≤140737488355328; omega) (fun v52 g53 hO54=>?_))
      obtain ⟨a55,cap56,rfl,hcap57,hrd58⟩:=hO54.shape
      refine B6 kr (fun w h=>((h.erase 2).erase 1)) (L1 (ad:=⟨nb,0,none⟩) 11 (hL:=(fun w h=>((h.erase 2).erase 1))) (k:=?_))
      refine G6 (fuel:=3) [(12,0)] (fun w h=>((h.erase 2).erase 1)) (k:=K9 9 13 (k:=?_) (k':=?_))
      ·
       refine A9 (ch:=[]) (a:=a55) (len:=(kn+1)) (cap:=cap56) (kd:=.i64) (j:=((kn:Nat):Int)) (e:=55) (sz:=5) (S:=(inG g53)) (cs:=(cs++zN)) (hrd:=K7 hO54) (hb:=(fun _=>by exact ⟨by omega,by omega,by intro h; have h2:=congrArg List.length h; rw [List.length_append] at h2; simp at h2⟩)) (k:=B6 kr (fun w h=>((h.erase 2).erase 1)) ?_)
       refine K9 10 13 (k:=?_) (k':=?_)
       ·
        refine F9 (ch:=[]) (a:=a55) (q:=kn * 5) (len:=(kn+1)) (cap:=cap56) (v:=.agg #[.string eB,.string eB,.slice none 0 0,.slice none 0 0,.string (bk s)]) (g:=g53) (j:=2) (cs:=(cs++zN)) (cs':=(cs++[.string eB,.string eB,.slice none 0 0,.slice none 0 0,.string (bk s)])) (l:=[.string eB,.string eB,.slice none 0 0,.slice none 0 0,.string (bk s)]) (h1:=kr) (hO:=hO54) (hq:=(by rw [List.length_append,(show cs.length=kn * 5 by omega)]; exact Nat.le_refl _)) (h0:=List.cons_ne_nil _ _) (hcs:=I1 (z:=zN) (l:=[.string eB,.string eB,.slice none 0 0,.slice none 0 0,.string (bk s)]) (show cs.length=kn * 5 by omega) rfl) (k:=(fun g59 hO60=>?_))
        refine B6 kr (fun w h=>((h.erase 2).erase 1)) (E4 13 (k:=?_))
        refine E2 (ch:=[]) (b:=nb) (off:=3) (v:=.slice a55 (kn+1) cap56) (j:=1) ([(b51,.cells zN.toArray 55 (0,0))]::[(nb,.cells #[v0,v1,v2,.slice a55 (kn+1) cap56,v4] 55 (0,0))]::g59::H) (hoff:=Nat.le_of_ble_eq_true rfl) (hfz:=(fun _ _=>E0)) (k:=B6 kr (fun w h=>((h.erase 2).erase 1)) ?_)
        refine G3 (E':=[]) [] (k:=H0 (a55,cap56,g59) [] kr (fun w h=>(h.erase 0)) hO60)
       ·
        refine E2 (ch:=[]) (b:=nb) (off:=3) (v:=.slice a55 (kn+1) cap56) (j:=1) ([(b51,.cells zN.toArray 55 (0,0))]::[(nb,.cells #[v0,v1,v2,.slice a55 (kn+1) cap56,v4] 55 (0,0))]::g53::H) (hoff:=Nat.le_of_ble_eq_true rfl) (hfz:=(fun _ _=>E0)) (k:=B6 kr (fun w h=>((h.erase 2).erase 1)) ?_)
        refine E4 10 (k:=F9 (ch:=[]) (a:=a55) (q:=kn * 5) (len:=(kn+1)) (cap:=cap56) (v:=.agg #[.string eB,.string eB,.slice none 0 0,.slice none 0 0,.string (bk s)]) (g:=g53) (j:=2) (cs:=(cs++zN)) (cs':=(cs++[.string eB,.string eB,.slice none 0 0,.slice none 0 0,.string (bk s)])) (l:=[.string eB,.string eB,.slice none 0 0,.slice none 0 0,.string (bk s)]) (h1:=kr) (hO:=hO54) (hq:=(by rw [List.length_append,(show cs.length=kn * 5 by omega)]; exact Nat.le_refl _)) (h0:=List.cons_ne_nil _ _) (hcs:=I1 (z:=zN) (l:=[.string eB,.string eB,.slice none 0 0,.slice none 0 0,.string (bk s)]) (show cs.length=kn * 5 by omega) rfl) (k:=(fun g61 hO62=>?_)))
        refine B6 kr (fun w h=>((h.erase 2).erase 1)) (G3 (E':=[]) [] (k:=?_))
        refine H0 (a55,cap56,g61) [] kr (fun w h=>(h.erase 0)) hO62
      ·
       refine E2 (ch:=[]) (b:=nb) (off:=3) (v:=.slice a55 (kn+1) cap56) (j:=1) ([(b51,.cells zN.toArray 55 (0,0))]::[(nb,.cells #[v0,v1,v2,.slice a55 (kn+1) cap56,v4] 55 (0,0))]::g53::H) (hoff:=Nat.le_of_ble_eq_true rfl) (hfz:=(fun _ _=>E0)) (k:=B6 kr (fun w h=>((h.erase 2).erase 1)) ?_)
       refine E4 9 (k:=A9 (ch:=[]) (a:=a55) (len:=(kn+1)) (cap:=cap56) (kd:=.i64) (j:=((kn:Nat):Int)) (e:=55) (sz:=5) (S:=(inG g53)) (cs:=(cs++zN)) (hrd:=K7 hO54) (hb:=(fun _=>by exact ⟨by omega,by omega,by intro h; have h2:=congrArg List.length h; rw [List.length_append] at h2; simp at h2⟩)) (k:=?_))
       refine B6 kr (fun w h=>((h.erase 2).erase 1)) (E4 10 (k:=?_))
       refine F9 (ch:=[]) (a:=a55) (q:=kn * 5) (len:=(kn+1)) (cap:=cap56) (v:=.agg #[.string eB,.string eB,.slice none 0 0,.slice none 0 0,.string (bk s)]) (g:=g53) (j:=2) (cs:=(cs++zN)) (cs':=(cs++[.string eB,.string eB,.slice none 0 0,.slice none 0 0,.string (bk s)])) (l:=[.string eB,.string eB,.slice none 0 0,.slice none 0 0,.string (bk s)]) (h1:=kr) (hO:=hO54) (hq:=(by rw [List.length_append,(show cs.length=kn * 5 by omega)]; exact Nat.le_refl _)) (h0:=List.cons_ne_nil _ _) (hcs:=I1 (z:=zN) (l:=[.string eB,.string eB,.slice none 0 0,.slice none 0 0,.string (bk s)]) (show cs.length=kn * 5 by omega) rfl) (k:=(fun g63 hO64=>?_))
       refine B6 kr (fun w h=>((h.erase 2).erase 1)) (G3 (E':=[]) [] (k:=?_))
       refine H0 (a55,cap56,g63) [] kr (fun w h=>(h.erase 0)) hO64
    ·
     rintro ⟨xa,xc,xg⟩ hxo
     dsimp only at hxo
     refine C6 (B9 [] [] (k:=?_))
     exact ⟨_,_,_,_,_,by rw [add_new hs0 (.inr ⟨l0,v,e1,hv⟩),List.length_append,hkn]; rfl,hxo,by rw [add_new hs0 (.inr ⟨l0,v,e1,hv⟩)]; have h2:=hP.snoc (XRep.text s); rwa [List.append_nil] at h2,rfl⟩
end Go.Proofs.YtppgfiklmfoaeaaGreatDoor
namespace Go.Xml
open Go.Esc Go.Json
section
variable {el : XS → XN × XS} {n : Nat} {ks : List XN} {q : XS}
theorem cont_fault (h:q.2≠0):F3 el n ks q=(ks,q):=cont_ne h
theorem cont_end (h0:q.2=0) (h:[60,47].isPrefixOf q.1=true):F3 el (n+1) ks q=(ks,(q.1.drop 2,q.2)):=by
  rw [F3,if_neg (fun hn=>hn h0),O8 h,if_pos rfl]; rfl
theorem cont_cdata (h0:q.2=0) (h1:¬ [60,47].isPrefixOf q.1=true) (h:[60,33,91,67,68,65,84,65,91].isPrefixOf q.1=true):F3 el (n+1) ks q=F3 el n (addX ks (A7 (F5 [93,93,62] (q.1.drop 9,q.2)).1)) (F5 [93,93,62] (q.1.drop 9,q.2)).2:=by
  rw [F3,if_neg (fun hn=>hn h0),M0 h1,O8 h]; rfl
theorem cont_aside (h0:q.2=0) (h1:¬ [60,47].isPrefixOf q.1=true) (h2:¬ [60,33,91,67,68,65,84,65,91].isPrefixOf q.1=true) (h:(H9 q).1=true):F3 el (n+1) ks q=F3 el n ks (H9 q).2:=by
  rw [F3,if_neg (fun hn=>hn h0),M0 h1,M0 h2]
  simp only [Bool.false_eq_true,if_false]
  rw [if_pos h]
theorem cont_el (h0:q.2=0) (h1:¬ [60,47].isPrefixOf q.1=true) (h2:¬ [60,33,91,67,68,65,84,65,91].isPrefixOf q.1=true) (h3:(H9 q).1=false) (h:[60].isPrefixOf q.1=true):F3 el (n+1) ks q=F3 el n (ks++[(el (q.1.drop 1,q.2)).1]) (el (q.1.drop 1,q.2)).2:=by
  rw [F3,if_neg (fun hn=>hn h0),M0 h1,M0 h2]
  simp only [Bool.false_eq_true,if_false]
  rw [h3]
  simp only [Bool.false_eq_true,if_false]
  rw [O8 h,if_pos rfl]; rfl
theorem cont_rest (h0:q.2=0) (h1:¬ [60,47].isPrefixOf q.1=true) (h2:¬ [60,33,91,67,68,65,84,65,91].isPrefixOf q.1=true) (h3:(H9 q).1=false) (h4:¬ [60].isPrefixOf q.1=true):F3 el (n+1) ks q=match idxL [60] q.1 with
      | none=>(ks,E3 70 q)
      | some i=>if (idxL [93,93,62] (q.1.take i)).isSome then (ks,E3 70 q) else F3 el n (addX ks (G7 (q.1.take i) (q.1.drop i,q.2)).1) (G7 (q.1.take i) (q.1.drop i,q.2)).2:=by
  rw [F3,if_neg (fun hn=>hn h0),M0 h1,M0 h2]
  simp only [Bool.false_eq_true,if_false]
  rw [h3]
  simp only [Bool.false_eq_true,if_false]
  rw [M0 h4]
  simp only [Bool.false_eq_true,if_false]
  rfl
theorem cont_none (h0:q.2=0) (h1:¬ [60,47].isPrefixOf q.1=true) (h2:¬ [60,33,91,67,68,65,84,65,91].isPrefixOf q.1=true) (h3:(H9 q).1=false) (h4:¬ [60].isPrefixOf q.1=true) (h:idxL [60] q.1=none):F3 el (n+1) ks q=(ks,E3 70 q):=by
  rw [cont_rest h0 h1 h2 h3 h4,h]
theorem cont_bad (h0:q.2=0) (h1:¬ [60,47].isPrefixOf q.1=true) (h2:¬ [60,33,91,67,68,65,84,65,91].isPrefixOf q.1=true) (h3:(H9 q).1=false) (h4:¬ [60].isPrefixOf q.1=true) {i:Nat} (h:idxL [60] q.1=some i) (hb:(idxL [93,93,62] (q.1.take i)).isSome=true):F3 el (n+1) ks q=(ks,E3 70 q):=by
  rw [cont_rest h0 h1 h2 h3 h4,h]; exact if_pos hb
theorem cont_text (h0:q.2=0) (h1:¬ [60,47].isPrefixOf q.1=true) (h2:¬ [60,33,91,67,68,65,84,65,91].isPrefixOf q.1=true) (h3:(H9 q).1=false) (h4:¬ [60].isPrefixOf q.1=true) {i:Nat} (h:idxL [60] q.1=some i) (hb:(idxL [93,93,62] (q.1.take i)).isSome=false):F3 el (n+1) ks q=F3 el n (addX ks (G7 (q.1.take i) (q.1.drop i,q.2)).1) (G7 (q.1.take i) (q.1.drop i,q.2)).2:=by
  rw [cont_rest h0 h1 h2 h3 h4,h]; exact if_neg (by rw [hb]; exact Bool.false_ne_true)
end
theorem aside_false {q:XS} (h:(H9 q).1=false):H9 q=(false,q):=by
  unfold H9 at h ⊢
  split at h
  · cases h
  · rename_i h1
    rw [if_neg h1]
    split at h
    · cases h
    · rename_i h2; rw [if_neg h2]
theorem refs_v (s:List UInt8) (q:XS):(G7 s q).1=unL (A7 s):=rfl
theorem el_text (lv:Nat) (sp:SPX) (q:XS):(elX lv sp q).1.text=[]:=by
  rw [elX_eq]
  dsimp only
  split
  · rfl
  · cases lv with
    | zero=>rfl
    | succ lv=>dsimp only; split <;> rfl
theorem pre_le {w l:List UInt8} (h:w.isPrefixOf l=true):w.length≤l.length:=(List.isPrefixOf_iff_prefix.1 h).length_le
theorem idx_pos {l:List UInt8} {i:Nat} (h:idxL [60] l=some i) (h0:¬ [60].isPrefixOf l=true):0<i∧i<l.length:=by
  refine ⟨?_,(X1 h).2.2⟩
  rcases Nat.eq_zero_or_pos i with rfl | hi
  · have:=idx_pre h
    rw [List.drop_zero] at this
    exact absurd this h0
  · exact hi
theorem until_sum (w:List UInt8) (q:XS):(F5 w q).1.length+(F5 w q).2.1.length≤q.1.length:=by
  unfold F5
  cases h:idxL w q.1 with
  | none=>dsimp only; rw [V4]; simp
  | some i=>dsimp only; rw [List.length_take,List.length_drop]; omega
theorem tag_le (n:Nat) (acc:List AT):∀ (q:XS),(tagX n acc q).2.2.1.length≤q.1.length:=by
  have ha:∀ (n:Nat) (acc:List AT) (q:XS),(F1 n acc q).2.1.length≤q.1.length:=by
    intro n
    induction n with
    | zero=>intro acc q; exact Nat.le_refl _
    | succ n ih =>
      intro acc q
      rw [F1]
      split
      · exact Nat.le_refl _
      · split
        · have h1:=ih (acc++[(V5 (K5 q).2).1]) (V5 (K5 q).2).2
          have h2:=attrX_le (K5 q).2
          have h3:=skip_le q
          omega
        · exact skip_le q
  intro q
  unfold tagX
  dsimp only
  have h1:=ha n acc q
  have h2:=take_le [47,62] (F1 n acc q).2
  split
  · omega
  · have h3:=must_le [62] (G0 [47,62] (F1 n acc q).2).2
    omega
theorem attrs_le (n:Nat) (acc:List AT) (q:XS):(F1 n acc q).2.1.length≤q.1.length∧(F1 n acc q).1.length≤acc.length+n:=by
  induction n generalizing acc q with
  | zero=>exact ⟨Nat.le_refl _,Nat.le_refl _⟩
  | succ n ih =>
    rw [F1]
    split
    · exact ⟨Nat.le_refl _,Nat.le_add_right _ _⟩
    · split
      · have h1:=ih (acc++[(V5 (K5 q).2).1]) (V5 (K5 q).2).2
        have h2:=attrX_le (K5 q).2
        have h3:=skip_le q
        rw [List.length_append,List.length_cons,List.length_nil] at h1
        exact ⟨by omega,by omega⟩
      · exact ⟨skip_le q,Nat.le_add_right _ _⟩
theorem marks_le:∀ (ats:List AT) (out:List XA) (sp:SPX) (q:XS),(M7 ats out sp q).2.1=q.1∧(M7 ats out sp q).1.length≤out.length+ats.length
  | [],_,_,_=>⟨rfl,Nat.le_refl _⟩
  | a::r,out,sp,q=>by
    rw [M7]
    split
    · have:=marks_le r out sp q; exact ⟨this.1,by rw [List.length_cons]; omega⟩
    · have hs:(if a.q.has=true then J2 a.q.pre true sp q else ([],q)).2.1=q.1:=by
        split
        · exact space_le _ _ _ _
        · rfl
      dsimp only
      generalize (if a.q.has=true then J2 a.q.pre true sp q else ([],q))=y at hs ⊢
      refine ⟨?_,?_⟩
      · rw [(marks_le r _ sp _).1]
        split
        · exact hs
        · exact hs
      · refine Nat.le_trans (marks_le r _ sp _).2 ?_
        rw [List.length_append,List.length_cons,List.length_nil,List.length_cons]; omega
theorem cont_le {el:XS→XN × XS} (hel:∀ q,(el q).2.1.length≤q.1.length):∀ (n:Nat) (ks:List XN) (q:XS),(F3 el n ks q).2.1.length≤q.1.length
  | 0,_,_=>Nat.le_refl _
  | n+1,ks,q=>by
    by_cases h0:q.2=0
    · by_cases h1:[60,47].isPrefixOf q.1=true
      · rw [cont_end h0 h1]; show (q.1.drop 2).length≤_; rw [List.length_drop]; omega
      · by_cases h2:[60,33,91,67,68,65,84,65,91].isPrefixOf q.1=true
        · rw [cont_cdata h0 h1 h2]
          have h3:=cont_le hel n (addX ks (A7 (F5 [93,93,62] (q.1.drop 9,q.2)).1)) (F5 [93,93,62] (q.1.drop 9,q.2)).2
          have h4:=P6 [93,93,62] (q.1.drop 9,q.2)
          have h5:(q.1.drop 9).length≤q.1.length:=by rw [List.length_drop]; omega
          dsimp only at h4
          omega
        · cases h3:(H9 q).1 with
          | true=>rw [cont_aside h0 h1 h2 h3]; have h4:=cont_le hel n ks (H9 q).2; have h5:=X5 q; omega
          | false =>
            by_cases h4:[60].isPrefixOf q.1=true
            · rw [cont_el h0 h1 h2 h3 h4]
              have h5:=cont_le hel n (ks++[(el (q.1.drop 1,q.2)).1]) (el (q.1.drop 1,q.2)).2
              have h6:=hel (q.1.drop 1,q.2)
              have h7:(q.1.drop 1).length≤q.1.length:=by rw [List.length_drop]; omega
              dsimp only at h6
              omega
            · cases hi:idxL [60] q.1 with
              | none=>rw [cont_none h0 h1 h2 h3 h4 hi]; exact Nat.le_refl _
              | some i =>
                cases hb:(idxL [93,93,62] (q.1.take i)).isSome with
                | true=>rw [cont_bad h0 h1 h2 h3 h4 hi hb]; exact Nat.le_refl _
                | false =>
                  rw [cont_text h0 h1 h2 h3 h4 hi hb]
                  have h5:=cont_le hel n (addX ks (G7 (q.1.take i) (q.1.drop i,q.2)).1) (G7 (q.1.take i) (q.1.drop i,q.2)).2
                  rw [refs_len] at h5
                  have h7:(q.1.drop i).length≤q.1.length:=by rw [List.length_drop]; omega
                  dsimp only at h5
                  omega
    · rw [cont_ne h0]; exact Nat.le_refl _
theorem close_le (a:QN) (k:List XN × XS) (s:List UInt8) (m:List XA):(R3 a k s m).2.1.length≤k.2.1.length:=by
  unfold R3
  dsimp only
  have h1:=qual_le k.2
  have h2:=skip_le (A5 k.2).2
  have h3:=must_le [62] (K5 (A5 k.2).2).2
  split
  · rw [V4]; omega
  · omega
theorem el_le:∀ (lv:Nat) (sp:SPX) (q:XS),(elX lv sp q).2.1.length≤q.1.length:=by
  intro lv
  induction lv with
  | zero =>
    intro sp q
    rw [elX_eq]
    dsimp only
    have h1:=qual_le q
    have h2:=tag_le ((A5 q).2.1.length+1) [] (A5 q).2
    split
    · dsimp only; omega
    · rw [V4,(marks_le _ _ _ _).1,space_le,sp_le]; omega
  | succ lv ih =>
    intro sp q
    rw [elX_eq]
    dsimp only
    have h1:=qual_le q
    have h2:=tag_le ((A5 q).2.1.length+1) [] (A5 q).2
    split
    · dsimp only; omega
    · split
      · dsimp only; rw [(marks_le _ _ _ _).1,space_le,sp_le]; omega
      · refine Nat.le_trans (close_le _ _ _ _) ?_
        refine Nat.le_trans (cont_le (ih _) _ _ _) ?_
        rw [(marks_le _ _ _ _).1,space_le,sp_le]; omega
end Go.Xml
namespace Go.Proofs.YtppgfiklmfoaeaaGreatDoor
open Go.Sw Go.Sha Go.Esc Go.RowKit Go.Json Go.Xml
theorem xaside2_ (r:Nat) (q:XS) (hl:q.1.length≤1000000) (W0:World) (H:List Grp) (hX:R2 W0):Tri Tryz.prog 101 #[pt r] W0 (rdX r q::H) (fun v H'=>((H9 q).1=true∧v=.bool true∧H'=rdX r (H9 q).2::H)∨((H9 q).1=false∧v=.bool false∧H'=rdX r q::H)):=by
  refine (xaside_ r q hl W0 H hX).post fun v H' ⟨h1,h2⟩=>⟨H',?_,fun _ h=>h⟩
  cases h:(H9 q).1 with
  | true=>exact .inl ⟨rfl,by rw [h1,h],h2⟩
  | false=>exact .inr ⟨rfl,by rw [h1,h],by rw [h2,aside_false h]⟩
theorem xcontent_ (lv:Nat) (d:Int) (hd:0≤d∧d≤24) (r:Nat) (q:XS) (hl:q.1.length≤1000000) (nb:Nat) (v0 v1 v2 v4:Value) (ms mc:Nat) (M:SM) (sp:SPX) (hel:∀ (q:XS),q.1.length≤1000000→∀ (W0:World) (H:List Grp),R2 W0→Tri Tryz.prog 63 #[pt r,.int .i64 (d+1),.map (some ms)] W0 (rdX r q::[(ms,.map (C9 M) mc)]::H) (fun v H2=>∃ c g,XRep 75 55 (elX lv sp q).1 c g∧v=.agg c.toArray∧H2=rdX r (elX lv sp q).2::[(ms,.map (C9 M) mc)]::g::H)) (W0:World) (H:List Grp) (hX:R2 W0):Tri Tryz.prog 109 #[pt r,pt nb,.int .i64 d,.map (some ms)] W0 ([(r,.cells #[.string (bk q.1),.int .i64 q.2] 97 (0,0))]::[(ms,.map (C9 M) mc)]::[(nb,.cells #[v0,v1,v2,.slice none 0 0,v4] 55 (0,0))]::H) (fun _ H2=>∃ kn ka kc kg cs gs,kn=(F3 (elX lv sp) (q.1.length+1) [] q).1.length∧Go.Sw.Own 55 5 (.slice ka kn kc) kg kn cs∧XRepL 75 55 (F3 (elX lv sp) (q.1.length+1) [] q).1 cs gs∧H2=rdX r (F3 (elX lv sp) (q.1.length+1) [] q).2::[(ms,.map (C9 M) mc)]::[(nb,.cells #[v0,v1,v2,.slice ka kn kc,v4] 55 (0,0))]::kg::gs::H):=by
 refine D0 (args:=[pt r,pt nb,.int .i64 d,.map (some ms)]) (n:=84) Tryz.func109 rfl rfl (Nat.le_of_ble_eq_true rfl) ?_
 refine B8 (G_heap (H':=([(r,.cells #[.string (bk q.1),.int .i64 q.2] 97 (0,0))]::[(ms,.map (C9 M) mc)]::[(nb,.cells #[v0,v1,v2,.slice none 0 0,v4] 55 (0,0))]::[]::[]::H)) (fun w h=>Sat.flat h (List.Perm.refl _)) ?_)
 refine L4 (EI:=(fun ξ:Nat × XS × List XN × Nat × Option Addr × Nat × Grp × Grp × List Value=>[⟨0,[],pt r⟩,⟨1,[],pt nb⟩,⟨2,[],.int .i64 d⟩,⟨3,[],.map (some ms)⟩])) (HI:=(fun ξ:Nat × XS × List XN × Nat × Option Addr × Nat × Grp × Grp × List Value=>([(r,.cells #[.string (bk ξ.2.1.1),.int .i64 ξ.2.1.2] 97 (0,0))]::[(ms,.map (C9 M) mc)]::[(nb,.cells #[v0,v1,v2,.slice ξ.2.2.2.2.1 ξ.2.2.2.1 ξ.2.2.2.2.2.1,v4] 55 (0,0))]::ξ.2.2.2.2.2.2.1::ξ.2.2.2.2.2.2.2.1::H))) (Φ:=(fun ξ:Nat × XS × List XN × Nat × Option Addr × Nat × Grp × Grp × List Value=>((F3 (elX lv sp) (q.1.length+1) [] q)=F3 (elX lv sp) ξ.1 ξ.2.2.1 ξ.2.1)∧(ξ.2.1.2=0→ξ.2.1.1.length<ξ.1)∧(ξ.2.1.1.length≤1000000)∧(Go.Sw.Own 55 5 (.slice ξ.2.2.2.2.1 ξ.2.2.2.1 ξ.2.2.2.2.2.1) ξ.2.2.2.2.2.2.1 ξ.2.2.2.1 ξ.2.2.2.2.2.2.2.2)∧(ξ.2.2.2.1=ξ.2.2.1.length)∧(XRepL 75 55 ξ.2.2.1 ξ.2.2.2.2.2.2.2.2 ξ.2.2.2.2.2.2.2.1)∧(ξ.2.2.2.1+ξ.1≤1000002)∧(lastT ξ.2.2.1+4 * ξ.2.1.1.length≤8000000))) (μ:=(fun ξ:Nat × XS × List XN × Nat × Option Addr × Nat × Grp × Grp × List Value=>ξ.1)) (s0:=((q.1.length+1),q,[],0,none,0,[],[],[])) [0,1,2,3] kr rfl ⟨rfl,(fun _=>Nat.lt_succ_self _),hl,Go.Sw.Own.nil,rfl,.nil,(by show 0+(q.1.length+1)≤_; omega),(by show 0+4 * q.1.length≤_; omega)⟩ ?_
 rintro ⟨n,q2,ks,kn,ka,kc,kg,gs,cs⟩ ⟨hT,hn,hl2,hO,hkn,hP,hb,hlt⟩
 dsimp only at hT hn hl2 hO hkn hP hb hlt
 refine A1 (A1 ?_)
 by_cases hq0:q2.2=0
 ·
  have hnq:=hn hq0
  obtain ⟨m,rfl⟩:∃ m,n=m+1:=⟨n - 1,by omega⟩
  refine A3 (A4 (j:=3) [0,0,0] (k:=?_))
  refine A6 (ch:=[]) (b:=r) (off:=1) (v:=.int .i64 q2.2) (hA:=At.grp 0 0 rfl rfl) (k:=G5 (E':=[⟨15,[],.bool (q2.2==0)⟩,⟨0,[],pt r⟩,⟨1,[],pt nb⟩,⟨2,[],.int .i64 d⟩,⟨3,[],.map (some ms)⟩]) (j:=5) [0] (k:=?_))
  refine F0 (E':=[⟨15,[],.bool true⟩,⟨0,[],pt r⟩,⟨1,[],pt nb⟩,⟨2,[],.int .i64 d⟩,⟨3,[],.map (some ms)⟩]) (by rw [show (q2.2==0)=true by simpa using hq0]) (A4 (j:=7) [0,0] (k:=?_))
  refine X7 (ch:=[(16,true)]) (f:=102) (fst:=#[]) (caps:=#[]) (vs:=[pt r,.string (mB #[60,47])]) (hf:=Tryz.func102) (hsure:=P2 kr) (hc:=xtake_ r q2 [60,47] _ _) (k:=?_)
  rintro _ _ (⟨hk1,rfl,rfl⟩ | ⟨hk1,rfl,rfl⟩)
  ·
   have hk1:[60,47].isPrefixOf q2.1=true:=hk1
   have hk1:=hk1
   refine B1 [0,2] [0,1,2,3,20] (k:=A0 ?_)
   refine D3 kr (H7 ?_)
   refine B0 (B0 ?_)
   refine C7 (B9 [] [] (k:=?_))
   rw [hT,cont_end hq0 hk1]; exact ⟨_,_,_,_,_,_,hkn,hO,hP,rfl⟩
  ·
   have hk1:¬ [60,47].isPrefixOf q2.1=true:=hk1
   have hk1:=hk1
   refine B1 [0,2] [0,1,2,3,20] (k:=A0 ?_)
   refine C4 kr (B4 ?_)
   refine A0 (B8 ?_)
   refine B8 (A1 ?_)
   refine A3 (A4 (j:=1) [0] (k:=?_))
   refine E7 Tryz.func102 (xtake_ r q2 [60,33,91,67,68,65,84,65,91] _ _) ?_
   rintro _ _ (⟨hk2,rfl,rfl⟩ | ⟨hk2,rfl,rfl⟩)
   ·
    have hk2:[60,33,91,67,68,65,84,65,91].isPrefixOf q2.1=true:=hk2
    have hk2:=hk2
    refine B1 [0] [0,1,2,3,53] (k:=A0 ?_)
    refine C4 kr (A3 ?_)
    refine A4 (j:=1) [0] (k:=D5 (ch:=[]) (e:=9) (l:=[(0,.string (mB #[13,10])),(1,.string (mB #[10])),(2,.string (mB #[13])),(3,.string (mB #[10]))]) (c:=[.string (mB #[13,10]),.string (mB #[10]),.string (mB #[13]),.string (mB #[10])]) (k:=(fun b3=>?_)))
    refine E7 Tryz.func148 (newRepC_ b3 _ _) ?_
    rintro _ _ ⟨rb4,ra4,rcap4,rg4,rfl,hOwn4,rfl⟩
    have hRT4:Rd (inG rg4) ra4 crT:=by
     obtain ⟨a2,c2,e,_,h⟩:=hOwn4.shape
     injection e with e1; subst e1; exact h
    refine A4 (j:=4) [0] (k:=H4 rfl (H':=([(r,.cells #[.string (bk (q2.1.drop 9,q2.2).1),.int .i64 ((q2.1.drop 9,q2.2).2)] 97 (0,0))]::[(rb4,.cells #[.int .u32 0,.int .i32 0,.int .u32 0,.nilIface,.slice ra4 4 rcap4] 213 (0,0))]::rg4::[(b3,.cells #[.string (mB #[13,10]),.string (mB #[10]),.string (mB #[13]),.string (mB #[10])] 9 (0,0))]::[(ms,.map (C9 M) mc)]::[(nb,.cells #[v0,v1,v2,.slice ka kn kc,v4] 55 (0,0))]::kg::gs::H)) (fun w h=>(h.front (j:=3) rfl)) ?_)
    refine E7 (vs:=[pt r,.string (mB #[93,93,62])]) Tryz.func141 (xuntil_ r (q2.1.drop 9,q2.2) [93,93,62] (by first | omega | (show (List.drop _ _).length≤_; rw [List.length_drop]; omega)) _ _ hX) ?_
    rintro _ _ ⟨rfl,rfl⟩
    refine H4 rfl (H':=([(rb4,.cells #[.int .u32 0,.int .i32 0,.int .u32 0,.nilIface,.slice ra4 4 rcap4] 213 (0,0))]::rg4::[(r,.cells #[.string (bk ((F5 [93,93,62] (q2.1.drop 9,q2.2)).2).1),.int .i64 (((F5 [93,93,62] (q2.1.drop 9,q2.2)).2).2)] 97 (0,0))]::[(b3,.cells #[.string (mB #[13,10]),.string (mB #[10]),.string (mB #[13]),.string (mB #[10])] 9 (0,0))]::[(ms,.map (C9 M) mc)]::[(nb,.cells #[v0,v1,v2,.slice ka kn kc,v4] 55 (0,0))]::kg::gs::H)) (fun w h=>((h.front (j:=2) rfl).front (j:=2) rfl)) (E7 Tryz.func149 (crReplace_ rb4 ra4 rcap4 rg4 hRT4 (F5 [93,93,62] (q2.1.drop 9,q2.2)).1 (by have:=until_v [93,93,62] (q2.1.drop 9,q2.2); dsimp only at this; rw [List.length_drop] at this; omega) _ _) ?_)
    rintro _ _ ⟨rfl,rfl⟩
    refine H4 rfl (H':=([(nb,.cells #[v0,v1,v2,.slice ka kn kc,v4] 55 (0,0))]::kg::[(r,.cells #[.string (bk ((F5 [93,93,62] (q2.1.drop 9,q2.2)).2).1),.int .i64 (((F5 [93,93,62] (q2.1.drop 9,q2.2)).2).2)] 97 (0,0))]::[(b3,.cells #[.string (mB #[13,10]),.string (mB #[10]),.string (mB #[13]),.string (mB #[10])] 9 (0,0))]::[(ms,.map (C9 M) mc)]::gs::H)) (fun w h=>((h.front (j:=4) rfl).front (j:=4) rfl)) (E7 Tryz.func147 (xtext_ nb v0 v1 v2 v4 ks kn ka kc kg gs cs hkn hO hP (A7 (F5 [93,93,62] (q2.1.drop 9,q2.2)).1) (by have h9:=S6 (F5 [93,93,62] (q2.1.drop 9,q2.2)).1; have h8:=until_v [93,93,62] (q2.1.drop 9,q2.2); dsimp only at h8; rw [List.length_drop] at h8; omega) (by omega) (by omega) _ _) ?_)
    rintro _ _ ⟨kn5,ka5,kc5,kg5,kcs5,hk5,hO5,hP5,rfl⟩
    refine B1 [] [0,1,2,3] (k:=C6 ?_)
    refine C6 (C1 (H':=([(r,.cells #[.string (bk ((F5 [93,93,62] (q2.1.drop 9,q2.2)).2).1),.int .i64 (((F5 [93,93,62] (q2.1.drop 9,q2.2)).2).2)] 97 (0,0))]::[(ms,.map (C9 M) mc)]::[(nb,.cells #[v0,v1,v2,.slice ka5 kn5 kc5,v4] 55 (0,0))]::kg5::gs::H)) (fun w h=>((((((h.front (j:=5) rfl).front (j:=2) rfl).front (j:=2) rfl).front (j:=5) rfl).front (j:=4) rfl).erase 5)) ?_)
    refine E9 (s':=(m,(F5 [93,93,62] (q2.1.drop 9,q2.2)).2,(addX ks (A7 (F5 [93,93,62] (q2.1.drop 9,q2.2)).1)),kn5,ka5,kc5,kg5,gs,kcs5)) [0,1,2,3] kr kr ⟨(by dsimp only; rw [hT,cont_cdata hq0 hk1 hk2]),(by dsimp only; intro _; have h9:=P6 [93,93,62] (q2.1.drop 9,q2.2); dsimp only at h9; rw [List.length_drop] at h9; have h8:=pre_le hk2; simp only [List.length_cons,List.length_nil] at h8; omega),(by dsimp only; have h9:=P6 [93,93,62] (q2.1.drop 9,q2.2); dsimp only at h9; rw [List.length_drop] at h9; omega),hO5,hk5,hP5,(by dsimp only; have h9:=add_len ks (A7 (F5 [93,93,62] (q2.1.drop 9,q2.2)).1); omega),(by dsimp only; have h9:=P6 [93,93,62] (q2.1.drop 9,q2.2); have h7:=until_sum [93,93,62] (q2.1.drop 9,q2.2); dsimp only at h9 h7; rw [List.length_drop] at h9 h7; have h6:=S6 (F5 [93,93,62] (q2.1.drop 9,q2.2)).1; have h5:=lastT_add ks (A7 (F5 [93,93,62] (q2.1.drop 9,q2.2)).1); omega)⟩ (by dsimp only; omega)
   ·
    have hk2:¬ [60,33,91,67,68,65,84,65,91].isPrefixOf q2.1=true:=hk2
    have hk2:=hk2
    refine B1 [0] [0,1,2,3,53] (k:=A0 ?_)
    refine D3 kr (A1 ?_)
    refine A3 (A4 (j:=1) [0] (k:=?_))
    refine E7 (vs:=[pt r]) Tryz.func101 (xaside2_ r q2 (by first | omega | (show (List.drop _ _).length≤_; rw [List.length_drop]; omega)) _ _ hX) ?_
    rintro _ _ (⟨ha6,rfl,rfl⟩ | ⟨ha6,rfl,rfl⟩)
    ·
     have has:(H9 q2).1=true:=ha6
     refine B1 [0] [0,1,2,3,63] (k:=A0 ?_)
     refine C4 kr (B4 ?_)
     refine C6 (C6 ?_)
     refine E9 (s':=(m,(H9 q2).2,ks,kn,ka,kc,kg,gs,cs)) [0,1,2,3] kr kr ⟨(by dsimp only; rw [hT,cont_aside hq0 hk1 hk2 has]),(by dsimp only; intro _; have h9:=aside_lt has; omega),(by dsimp only; have h9:=X5 q2; omega),hO,hkn,hP,(by dsimp only; omega),(by dsimp only; have h9:=X5 q2; omega)⟩ (by dsimp only; omega)
    ·
     have has:(H9 q2).1=false:=ha6
     refine B1 [0] [0,1,2,3,63] (k:=A0 ?_)
     refine D3 kr (A1 ?_)
     refine A3 (A4 (j:=1) [0] (k:=?_))
     refine E7 Tryz.func102 (xtake_ r q2 [60] _ _) ?_
     rintro _ _ (⟨hk7,rfl,rfl⟩ | ⟨hk7,rfl,rfl⟩)
     ·
      have hk7:[60].isPrefixOf q2.1=true:=hk7
      have hk3:=hk7
      refine B1 [0] [0,1,2,3,66] (k:=A0 ?_)
      refine C4 kr (Q7 (T:=Option Addr × Nat × Grp × List Value × Grp) (fun ξ:Option Addr × Nat × Grp × List Value × Grp=>[⟨0,[],pt r⟩,⟨1,[],pt nb⟩,⟨2,[],.int .i64 d⟩,⟨3,[],.map (some ms)⟩]) (fun ξ:Option Addr × Nat × Grp × List Value × Grp=>([(r,.cells #[.string (bk (((elX lv sp) (q2.1.drop 1,q2.2)).2).1),.int .i64 ((((elX lv sp) (q2.1.drop 1,q2.2)).2).2)] 97 (0,0))]::[(ms,.map (C9 M) mc)]::[(nb,.cells #[v0,v1,v2,.slice ξ.1 (kn+1) ξ.2.1,v4] 55 (0,0))]::ξ.2.2.1::gs::ξ.2.2.2.2::H)) (fun ξ:Option Addr × Nat × Grp × List Value × Grp=>(Go.Sw.Own 55 5 (.slice ξ.1 (kn+1) ξ.2.1) ξ.2.2.1 (kn+1) (cs++ξ.2.2.2.1))∧(XRep 75 55 ((elX lv sp) (q2.1.drop 1,q2.2)).1 ξ.2.2.2.1 ξ.2.2.2.2)) ?_ ?_)
      ·
       refine I4 ([(ms,.map (C9 M) mc)]::gs::H) kr (G6 (fuel:=16) [(0,0)] (fun w h=>(((h.erase 3).erase 2).erase 0)) (k:=?_))
       refine L1 (ad:=⟨nb,0,none⟩) 1 (hL:=(fun w h=>(((h.erase 3).erase 2).erase 0))) (k:=G6 (fuel:=11) [(2,0),(4,0),(5,0),(6,0)] (fun w h=>(((h.erase 3).erase 2).erase 0)) (k:=?_))
       refine GH_wi 75 (d+1) (by omega) (by omega) kr (G6 (fuel:=10) [(7,0)] (fun w h=>(((h.erase 3).erase 2).erase 0)) (k:=?_))
       refine GH_eff3 3 8 10 kr kr kr kr kr kr kr ?_ ?_ ?_
       ·
        refine A6 (ch:=[]) (b:=nb) (off:=3) (v:=.slice ka kn kc) (hA:=At.grp 2 0 rfl rfl) (k:=B6 kr (fun w h=>(((h.erase 3).erase 2).erase 0)) ?_)
        refine W7 (v:=.int .i64 ((kn:Nat):Int)) 9 (hL:=(fun w h=>(((h.erase 3).erase 2).erase 0))) (k:=K9 8 10 (k:=?_) (k':=?_))
        ·
         refine E7 (vs:=[pt r,.int .i64 (d+1),.map (some ms)]) Tryz.func63 (hel (q2.1.drop 1,q2.2) (by show (List.drop 1 _).length≤_; rw [List.length_drop]; omega) _ _ hX) ?_
         rintro _ _ ⟨vc9,gv9,hJ9,rfl,rfl⟩
         obtain ⟨e0_9,e1_9,e2_9,e3_9,e4_9,rfl,h19⟩:=hJ9.cells5
         refine B6 kr (fun w h=>((((h.erase 4).erase 3).erase 2).erase 0)) (O2 ([(ms,.map (C9 M) mc)]::gv9::gs::H) (fun w h=>(h.erase 1)) ?_)
         refine E4 10 (k:=D5 (ch:=[]) (e:=55) (l:=[(0,.agg zN.toArray)]) (c:=zN) (k:=(fun b10=>?_)))
         refine B6 kr (fun w h=>((((h.erase 5).erase 4).erase 1).erase 0)) (O2 ([(b10,.cells zN.toArray 55 (0,0))]::[(ms,.map (C9 M) mc)]::gv9::gs::H) (fun w h=>(h.erase 0)) ?_)
         refine E4 11 (k:=G4 (i:=11) (ch:=[]) (t:=53) (tx:=53) (e:=55) (inf:=Tryz.t55) (s:=.slice ka kn kc) (x:=.slice (some ⟨b10,0,none⟩) 1 1) (n:=kn) (m:=1) (j:=5) (cs:=cs) (news:=zN) (g:=kg) (S:=(inG [(b10,.cells zN.toArray 55 (0,0))])) rfl rfl rfl rfl kr kr kr rfl rfl (.inl ⟨55,kr⟩) (fun ⟨_,h⟩=>by cases h) (fun _=>⟨55,kr⟩) kr kr kr rfl hO (SrcOf.slice _ _ _ _ Rd.lit (fun h=>by cases h)) (D4 0 rfl) kr (by intro u hu; simp only [List.mem_cons,List.not_mem_nil,or_false] at hu; rcases hu with rfl | rfl | rfl | rfl | rfl <;> rfl) (by omega) (by show (kn+1) * 96≤140737488355328; omega) (fun v11 g12 hO13=>?_))
         obtain ⟨a14,cap15,rfl,hcap16,hrd17⟩:=hO13.shape
         refine B6 kr (fun w h=>(((h.erase 5).erase 4).erase 1)) (L1 (ad:=⟨nb,0,none⟩) 14 (hL:=(fun w h=>(((h.erase 5).erase 4).erase 1))) (k:=?_))
         refine G6 (fuel:=3) [(15,0)] (fun w h=>(((h.erase 5).erase 4).erase 1)) (k:=K9 12 16 (k:=?_) (k':=?_))
         ·
          refine A9 (ch:=[]) (a:=a14) (len:=(kn+1)) (cap:=cap15) (kd:=.i64) (j:=((kn:Nat):Int)) (e:=55) (sz:=5) (S:=(inG g12)) (cs:=(cs++zN)) (hrd:=K7 hO13) (hb:=(fun _=>by exact ⟨by omega,by omega,by intro h; have h2:=congrArg List.length h; rw [List.length_append] at h2; simp at h2⟩)) (k:=B6 kr (fun w h=>(((h.erase 5).erase 4).erase 1)) ?_)
          refine K9 13 16 (k:=?_) (k':=?_)
          ·
           refine F9 (ch:=[]) (a:=a14) (q:=kn * 5) (len:=(kn+1)) (cap:=cap15) (v:=.agg #[e0_9,e1_9,e2_9,e3_9,e4_9]) (g:=g12) (j:=5) (cs:=(cs++zN)) (cs':=(cs++[e0_9,e1_9,e2_9,e3_9,e4_9])) (l:=[e0_9,e1_9,e2_9,e3_9,e4_9]) (h1:=h19) (hO:=hO13) (hq:=(by rw [List.length_append,(show cs.length=kn * 5 by rw [hP.len]; omega)]; exact Nat.le_refl _)) (h0:=List.cons_ne_nil _ _) (hcs:=I1 (z:=zN) (l:=[e0_9,e1_9,e2_9,e3_9,e4_9]) (show cs.length=kn * 5 by rw [hP.len]; omega) rfl) (k:=(fun g18 hO19=>?_))
           refine B6 kr (fun w h=>(((h.erase 5).erase 4).erase 1)) (E4 16 (k:=?_))
           refine E2 (ch:=[]) (b:=nb) (off:=3) (v:=.slice a14 (kn+1) cap15) (j:=4) ([(b10,.cells zN.toArray 55 (0,0))]::[(r,.cells #[.string (bk (((elX lv sp) (q2.1.drop 1,q2.2)).2).1),.int .i64 ((((elX lv sp) (q2.1.drop 1,q2.2)).2).2)] 97 (0,0))]::[(ms,.map (C9 M) mc)]::gv9::[(nb,.cells #[v0,v1,v2,.slice a14 (kn+1) cap15,v4] 55 (0,0))]::g18::gs::H) (hoff:=Nat.le_of_ble_eq_true rfl) (hfz:=(fun _ _=>E0)) (k:=B6 kr (fun w h=>(((h.erase 5).erase 4).erase 1)) ?_)
           refine G3 (E':=[⟨0,[],pt r⟩,⟨1,[],pt nb⟩,⟨2,[],.int .i64 d⟩,⟨3,[],.map (some ms)⟩]) [0,1,2,3] (k:=H0 (a14,cap15,g18,[e0_9,e1_9,e2_9,e3_9,e4_9],gv9) [0,1,2,3] kr (fun w h=>(((((((h.front (j:=3) rfl).front (j:=6) rfl).front (j:=6) rfl).front (j:=6) rfl).front (j:=6) rfl).front (j:=6) rfl).erase 6)) ⟨hO19,hJ9⟩)
          ·
           refine E2 (ch:=[]) (b:=nb) (off:=3) (v:=.slice a14 (kn+1) cap15) (j:=4) ([(b10,.cells zN.toArray 55 (0,0))]::[(r,.cells #[.string (bk (((elX lv sp) (q2.1.drop 1,q2.2)).2).1),.int .i64 ((((elX lv sp) (q2.1.drop 1,q2.2)).2).2)] 97 (0,0))]::[(ms,.map (C9 M) mc)]::gv9::[(nb,.cells #[v0,v1,v2,.slice a14 (kn+1) cap15,v4] 55 (0,0))]::g12::gs::H) (hoff:=Nat.le_of_ble_eq_true rfl) (hfz:=(fun _ _=>E0)) (k:=B6 kr (fun w h=>(((h.erase 5).erase 4).erase 1)) ?_)
           refine E4 13 (k:=F9 (ch:=[]) (a:=a14) (q:=kn * 5) (len:=(kn+1)) (cap:=cap15) (v:=.agg #[e0_9,e1_9,e2_9,e3_9,e4_9]) (g:=g12) (j:=5) (cs:=(cs++zN)) (cs':=(cs++[e0_9,e1_9,e2_9,e3_9,e4_9])) (l:=[e0_9,e1_9,e2_9,e3_9,e4_9]) (h1:=h19) (hO:=hO13) (hq:=(by rw [List.length_append,(show cs.length=kn * 5 by rw [hP.len]; omega)]; exact Nat.le_refl _)) (h0:=List.cons_ne_nil _ _) (hcs:=I1 (z:=zN) (l:=[e0_9,e1_9,e2_9,e3_9,e4_9]) (show cs.length=kn * 5 by rw [hP.len]; omega) rfl) (k:=(fun g20 hO21=>?_)))
           refine B6 kr (fun w h=>(((h.erase 5).erase 4).erase 1)) (G3 (E':=[⟨0,[],pt r⟩,⟨1,[],pt nb⟩,⟨2,[],.int .i64 d⟩,⟨3,[],.map (some ms)⟩]) [0,1,2,3] (k:=?_))
           refine H0 (a14,cap15,g20,[e0_9,e1_9,e2_9,e3_9,e4_9],gv9) [0,1,2,3] kr (fun w h=>(((((((h.front (j:=3) rfl).front (j:=6) rfl).front (j:=6) rfl).front (j:=6) rfl).front (j:=6) rfl).front (j:=6) rfl).erase 6)) ⟨hO21,hJ9⟩
         ·
          refine E2 (ch:=[]) (b:=nb) (off:=3) (v:=.slice a14 (kn+1) cap15) (j:=4) ([(b10,.cells zN.toArray 55 (0,0))]::[(r,.cells #[.string (bk (((elX lv sp) (q2.1.drop 1,q2.2)).2).1),.int .i64 ((((elX lv sp) (q2.1.drop 1,q2.2)).2).2)] 97 (0,0))]::[(ms,.map (C9 M) mc)]::gv9::[(nb,.cells #[v0,v1,v2,.slice a14 (kn+1) cap15,v4] 55 (0,0))]::g12::gs::H) (hoff:=Nat.le_of_ble_eq_true rfl) (hfz:=(fun _ _=>E0)) (k:=B6 kr (fun w h=>(((h.erase 5).erase 4).erase 1)) ?_)
          refine E4 12 (k:=A9 (ch:=[]) (a:=a14) (len:=(kn+1)) (cap:=cap15) (kd:=.i64) (j:=((kn:Nat):Int)) (e:=55) (sz:=5) (S:=(inG g12)) (cs:=(cs++zN)) (hrd:=K7 hO13) (hb:=(fun _=>by exact ⟨by omega,by omega,by intro h; have h2:=congrArg List.length h; rw [List.length_append] at h2; simp at h2⟩)) (k:=?_))
          refine B6 kr (fun w h=>(((h.erase 5).erase 4).erase 1)) (E4 13 (k:=?_))
          refine F9 (ch:=[]) (a:=a14) (q:=kn * 5) (len:=(kn+1)) (cap:=cap15) (v:=.agg #[e0_9,e1_9,e2_9,e3_9,e4_9]) (g:=g12) (j:=5) (cs:=(cs++zN)) (cs':=(cs++[e0_9,e1_9,e2_9,e3_9,e4_9])) (l:=[e0_9,e1_9,e2_9,e3_9,e4_9]) (h1:=h19) (hO:=hO13) (hq:=(by rw [List.length_append,(show cs.length=kn * 5 by rw [hP.len]; omega)]; exact Nat.le_refl _)) (h0:=List.cons_ne_nil _ _) (hcs:=I1 (z:=zN) (l:=[e0_9,e1_9,e2_9,e3_9,e4_9]) (show cs.length=kn * 5 by rw [hP.len]; omega) rfl) (k:=(fun g22 hO23=>?_))
          refine B6 kr (fun w h=>(((h.erase 5).erase 4).erase 1)) (G3 (E':=[⟨0,[],pt r⟩,⟨1,[],pt nb⟩,⟨2,[],.int .i64 d⟩,⟨3,[],.map (some ms)⟩]) [0,1,2,3] (k:=?_))
          refine H0 (a14,cap15,g22,[e0_9,e1_9,e2_9,e3_9,e4_9],gv9) [0,1,2,3] kr (fun w h=>(((((((h.front (j:=3) rfl).front (j:=6) rfl).front (j:=6) rfl).front (j:=6) rfl).front (j:=6) rfl).front (j:=6) rfl).erase 6)) ⟨hO23,hJ9⟩
        ·
         refine D5 (ch:=[]) (e:=55) (l:=[(0,.agg zN.toArray)]) (c:=zN) (k:=(fun b24=>?_))
         refine B6 kr (fun w h=>((((h.erase 4).erase 3).erase 1).erase 0)) (O2 ([(b24,.cells zN.toArray 55 (0,0))]::[(ms,.map (C9 M) mc)]::gs::H) (fun w h=>(h.erase 0)) ?_)
         refine E4 8 (k:=H4 rfl (H':=([(r,.cells #[.string (bk (q2.1.drop 1,q2.2).1),.int .i64 ((q2.1.drop 1,q2.2).2)] 97 (0,0))]::[(ms,.map (C9 M) mc)]::[(b24,.cells zN.toArray 55 (0,0))]::[(nb,.cells #[v0,v1,v2,.slice ka kn kc,v4] 55 (0,0))]::kg::gs::H)) (fun w h=>((h.front (j:=2) rfl).front (j:=2) rfl)) ?_)
         refine E7 (vs:=[pt r,.int .i64 (d+1),.map (some ms)]) Tryz.func63 (hel (q2.1.drop 1,q2.2) (by show (List.drop 1 _).length≤_; rw [List.length_drop]; omega) _ _ hX) ?_
         rintro _ _ ⟨vc25,gv25,hJ25,rfl,rfl⟩
         obtain ⟨e0_25,e1_25,e2_25,e3_25,e4_25,rfl,h125⟩:=hJ25.cells5
         refine B6 kr (fun w h=>(((((((h.front (j:=6) rfl).front (j:=2) rfl).front (j:=4) rfl).erase 6).erase 5).erase 4).erase 3)) (O2 ([(ms,.map (C9 M) mc)]::gv25::[(b24,.cells zN.toArray 55 (0,0))]::gs::H) (fun w h=>((((h.front (j:=3) rfl).front (j:=1) rfl).front (j:=3) rfl).erase 3)) ?_)
         refine E4 11 (k:=G4 (i:=11) (ch:=[]) (t:=53) (tx:=53) (e:=55) (inf:=Tryz.t55) (s:=.slice ka kn kc) (x:=.slice (some ⟨b24,0,none⟩) 1 1) (n:=kn) (m:=1) (j:=5) (cs:=cs) (news:=zN) (g:=kg) (S:=(inG [(b24,.cells zN.toArray 55 (0,0))])) rfl rfl rfl rfl kr kr kr rfl rfl (.inl ⟨55,kr⟩) (fun ⟨_,h⟩=>by cases h) (fun _=>⟨55,kr⟩) kr kr kr rfl hO (SrcOf.slice _ _ _ _ Rd.lit (fun h=>by cases h)) (D4 3 rfl) kr (by intro u hu; simp only [List.mem_cons,List.not_mem_nil,or_false] at hu; rcases hu with rfl | rfl | rfl | rfl | rfl <;> rfl) (by omega) (by show (kn+1) * 96≤140737488355328; omega) (fun v26 g27 hO28=>?_))
         obtain ⟨a29,cap30,rfl,hcap31,hrd32⟩:=hO28.shape
         refine B6 kr (fun w h=>(((h.erase 5).erase 4).erase 0)) (L1 (ad:=⟨nb,0,none⟩) 14 (hL:=(fun w h=>(((h.erase 5).erase 4).erase 0))) (k:=?_))
         refine G6 (fuel:=3) [(15,0)] (fun w h=>(((h.erase 5).erase 4).erase 0)) (k:=K9 12 16 (k:=?_) (k':=?_))
         ·
          refine A9 (ch:=[]) (a:=a29) (len:=(kn+1)) (cap:=cap30) (kd:=.i64) (j:=((kn:Nat):Int)) (e:=55) (sz:=5) (S:=(inG g27)) (cs:=(cs++zN)) (hrd:=K7 hO28) (hb:=(fun _=>by exact ⟨by omega,by omega,by intro h; have h2:=congrArg List.length h; rw [List.length_append] at h2; simp at h2⟩)) (k:=B6 kr (fun w h=>(((h.erase 5).erase 4).erase 0)) ?_)
          refine K9 13 16 (k:=?_) (k':=?_)
          ·
           refine F9 (ch:=[]) (a:=a29) (q:=kn * 5) (len:=(kn+1)) (cap:=cap30) (v:=.agg #[e0_25,e1_25,e2_25,e3_25,e4_25]) (g:=g27) (j:=5) (cs:=(cs++zN)) (cs':=(cs++[e0_25,e1_25,e2_25,e3_25,e4_25])) (l:=[e0_25,e1_25,e2_25,e3_25,e4_25]) (h1:=h125) (hO:=hO28) (hq:=(by rw [List.length_append,(show cs.length=kn * 5 by rw [hP.len]; omega)]; exact Nat.le_refl _)) (h0:=List.cons_ne_nil _ _) (hcs:=I1 (z:=zN) (l:=[e0_25,e1_25,e2_25,e3_25,e4_25]) (show cs.length=kn * 5 by rw [hP.len]; omega) rfl) (k:=(fun g33 hO34=>?_))
           refine B6 kr (fun w h=>(((h.erase 5).erase 4).erase 0)) (E4 16 (k:=?_))
           refine E2 (ch:=[]) (b:=nb) (off:=3) (v:=.slice a29 (kn+1) cap30) (j:=4) ([(r,.cells #[.string (bk (((elX lv sp) (q2.1.drop 1,q2.2)).2).1),.int .i64 ((((elX lv sp) (q2.1.drop 1,q2.2)).2).2)] 97 (0,0))]::[(ms,.map (C9 M) mc)]::gv25::[(b24,.cells zN.toArray 55 (0,0))]::[(nb,.cells #[v0,v1,v2,.slice a29 (kn+1) cap30,v4] 55 (0,0))]::g33::gs::H) (hoff:=Nat.le_of_ble_eq_true rfl) (hfz:=(fun _ _=>E0)) (k:=B6 kr (fun w h=>(((h.erase 5).erase 4).erase 0)) ?_)
           refine G3 (E':=[⟨0,[],pt r⟩,⟨1,[],pt nb⟩,⟨2,[],.int .i64 d⟩,⟨3,[],.map (some ms)⟩]) [0,1,2,3] (k:=H0 (a29,cap30,g33,[e0_25,e1_25,e2_25,e3_25,e4_25],gv25) [0,1,2,3] kr (fun w h=>(((((((h.front (j:=2) rfl).front (j:=6) rfl).front (j:=6) rfl).front (j:=6) rfl).front (j:=5) rfl).front (j:=5) rfl).erase 6)) ⟨hO34,hJ25⟩)
          ·
           refine E2 (ch:=[]) (b:=nb) (off:=3) (v:=.slice a29 (kn+1) cap30) (j:=4) ([(r,.cells #[.string (bk (((elX lv sp) (q2.1.drop 1,q2.2)).2).1),.int .i64 ((((elX lv sp) (q2.1.drop 1,q2.2)).2).2)] 97 (0,0))]::[(ms,.map (C9 M) mc)]::gv25::[(b24,.cells zN.toArray 55 (0,0))]::[(nb,.cells #[v0,v1,v2,.slice a29 (kn+1) cap30,v4] 55 (0,0))]::g27::gs::H) (hoff:=Nat.le_of_ble_eq_true rfl) (hfz:=(fun _ _=>E0)) (k:=B6 kr (fun w h=>(((h.erase 5).erase 4).erase 0)) ?_)
           refine E4 13 (k:=F9 (ch:=[]) (a:=a29) (q:=kn * 5) (len:=(kn+1)) (cap:=cap30) (v:=.agg #[e0_25,e1_25,e2_25,e3_25,e4_25]) (g:=g27) (j:=5) (cs:=(cs++zN)) (cs':=(cs++[e0_25,e1_25,e2_25,e3_25,e4_25])) (l:=[e0_25,e1_25,e2_25,e3_25,e4_25]) (h1:=h125) (hO:=hO28) (hq:=(by rw [List.length_append,(show cs.length=kn * 5 by rw [hP.len]; omega)]; exact Nat.le_refl _)) (h0:=List.cons_ne_nil _ _) (hcs:=I1 (z:=zN) (l:=[e0_25,e1_25,e2_25,e3_25,e4_25]) (show cs.length=kn * 5 by rw [hP.len]; omega) rfl) (k:=(fun g35 hO36=>?_)))
           refine B6 kr (fun w h=>(((h.erase 5).erase 4).erase 0)) (G3 (E':=[⟨0,[],pt r⟩,⟨1,[],pt nb⟩,⟨2,[],.int .i64 d⟩,⟨3,[],.map (some ms)⟩]) [0,1,2,3] (k:=?_))
           refine H0 (a29,cap30,g35,[e0_25,e1_25,e2_25,e3_25,e4_25],gv25) [0,1,2,3] kr (fun w h=>(((((((h.front (j:=2) rfl).front (j:=6) rfl).front (j:=6) rfl).front (j:=6) rfl).front (j:=5) rfl).front (j:=5) rfl).erase 6)) ⟨hO36,hJ25⟩
         ·
          refine E2 (ch:=[]) (b:=nb) (off:=3) (v:=.slice a29 (kn+1) cap30) (j:=4) ([(r,.cells #[.string (bk (((elX lv sp) (q2.1.drop 1,q2.2)).2).1),.int .i64 ((((elX lv sp) (q2.1.drop 1,q2.2)).2).2)] 97 (0,0))]::[(ms,.map (C9 M) mc)]::gv25::[(b24,.cells zN.toArray 55 (0,0))]::[(nb,.cells #[v0,v1,v2,.slice a29 (kn+1) cap30,v4] 55 (0,0))]::g27::gs::H) (hoff:=Nat.le_of_ble_eq_true rfl) (hfz:=(fun _ _=>E0)) (k:=B6 kr (fun w h=>(((h.erase 5).erase 4).erase 0)) ?_)
          refine E4 12 (k:=A9 (ch:=[]) (a:=a29) (len:=(kn+1)) (cap:=cap30) (kd:=.i64) (j:=((kn:Nat):Int)) (e:=55) (sz:=5) (S:=(inG g27)) (cs:=(cs++zN)) (hrd:=K7 hO28) (hb:=(fun _=>by exact ⟨by omega,by omega,by intro h; have h2:=congrArg List.length h; rw [List.length_append] at h2; simp at h2⟩)) (k:=?_))
          refine B6 kr (fun w h=>(((h.erase 5).erase 4).erase 0)) (E4 13 (k:=?_))
          refine F9 (ch:=[]) (a:=a29) (q:=kn * 5) (len:=(kn+1)) (cap:=cap30) (v:=.agg #[e0_25,e1_25,e2_25,e3_25,e4_25]) (g:=g27) (j:=5) (cs:=(cs++zN)) (cs':=(cs++[e0_25,e1_25,e2_25,e3_25,e4_25])) (l:=[e0_25,e1_25,e2_25,e3_25,e4_25]) (h1:=h125) (hO:=hO28) (hq:=(by rw [List.length_append,(show cs.length=kn * 5 by rw [hP.len]; omega)]; exact Nat.le_refl _)) (h0:=List.cons_ne_nil _ _) (hcs:=I1 (z:=zN) (l:=[e0_25,e1_25,e2_25,e3_25,e4_25]) (show cs.length=kn * 5 by rw [hP.len]; omega) rfl) (k:=(fun g37 hO38=>?_))
          refine B6 kr (fun w h=>(((h.erase 5).erase 4).erase 0)) (G3 (E':=[⟨0,[],pt r⟩,⟨1,[],pt nb⟩,⟨2,[],.int .i64 d⟩,⟨3,[],.map (some ms)⟩]) [0,1,2,3] (k:=?_))
          refine H0 (a29,cap30,g37,[e0_25,e1_25,e2_25,e3_25,e4_25],gv25) [0,1,2,3] kr (fun w h=>(((((((h.front (j:=2) rfl).front (j:=6) rfl).front (j:=6) rfl).front (j:=6) rfl).front (j:=5) rfl).front (j:=5) rfl).erase 6)) ⟨hO38,hJ25⟩
       ·
        refine E7 (vs:=[pt r,.int .i64 (d+1),.map (some ms)]) Tryz.func63 (hel (q2.1.drop 1,q2.2) (by show (List.drop 1 _).length≤_; rw [List.length_drop]; omega) _ _ hX) ?_
        rintro _ _ ⟨vc39,gv39,hJ39,rfl,rfl⟩
        obtain ⟨e0_39,e1_39,e2_39,e3_39,e4_39,rfl,h139⟩:=hJ39.cells5
        refine B6 kr (fun w h=>((((h.erase 4).erase 3).erase 2).erase 0)) (O2 ([(ms,.map (C9 M) mc)]::gv39::gs::H) (fun w h=>(h.erase 1)) ?_)
        refine K9 3 10 (k:=?_) (k':=?_)
        ·
         refine A6 (ch:=[]) (b:=nb) (off:=3) (v:=.slice ka kn kc) (hA:=At.grp 3 0 rfl rfl) (k:=B6 kr (fun w h=>(((h.erase 4).erase 3).erase 0)) ?_)
         refine W7 (v:=.int .i64 ((kn:Nat):Int)) 9 (hL:=(fun w h=>(((h.erase 4).erase 3).erase 0))) (k:=E4 10 (k:=?_))
         refine D5 (ch:=[]) (e:=55) (l:=[(0,.agg zN.toArray)]) (c:=zN) (k:=(fun b40=>?_))
         refine B6 kr (fun w h=>((((h.erase 5).erase 4).erase 1).erase 0)) (O2 ([(b40,.cells zN.toArray 55 (0,0))]::[(ms,.map (C9 M) mc)]::gv39::gs::H) (fun w h=>(h.erase 0)) ?_)
         refine E4 11 (k:=G4 (i:=11) (ch:=[]) (t:=53) (tx:=53) (e:=55) (inf:=Tryz.t55) (s:=.slice ka kn kc) (x:=.slice (some ⟨b40,0,none⟩) 1 1) (n:=kn) (m:=1) (j:=5) (cs:=cs) (news:=zN) (g:=kg) (S:=(inG [(b40,.cells zN.toArray 55 (0,0))])) rfl rfl rfl rfl kr kr kr rfl rfl (.inl ⟨55,kr⟩) (fun ⟨_,h⟩=>by cases h) (fun _=>⟨55,kr⟩) kr kr kr rfl hO (SrcOf.slice _ _ _ _ Rd.lit (fun h=>by cases h)) (D4 0 rfl) kr (by intro u hu; simp only [List.mem_cons,List.not_mem_nil,or_false] at hu; rcases hu with rfl | rfl | rfl | rfl | rfl <;> rfl) (by omega) (by show (kn+1) * 96≤140737488355328; omega) (fun v41 g42 hO43=>?_))
         obtain ⟨a44,cap45,rfl,hcap46,hrd47⟩:=hO43.shape
         refine B6 kr (fun w h=>(((h.erase 5).erase 4).erase 1)) (L1 (ad:=⟨nb,0,none⟩) 14 (hL:=(fun w h=>(((h.erase 5).erase 4).erase 1))) (k:=?_))
         refine G6 (fuel:=3) [(15,0)] (fun w h=>(((h.erase 5).erase 4).erase 1)) (k:=K9 12 16 (k:=?_) (k':=?_))
         ·
          refine A9 (ch:=[]) (a:=a44) (len:=(kn+1)) (cap:=cap45) (kd:=.i64) (j:=((kn:Nat):Int)) (e:=55) (sz:=5) (S:=(inG g42)) (cs:=(cs++zN)) (hrd:=K7 hO43) (hb:=(fun _=>by exact ⟨by omega,by omega,by intro h; have h2:=congrArg List.length h; rw [List.length_append] at h2; simp at h2⟩)) (k:=B6 kr (fun w h=>(((h.erase 5).erase 4).erase 1)) ?_)
          refine K9 13 16 (k:=?_) (k':=?_)
          ·
           refine F9 (ch:=[]) (a:=a44) (q:=kn * 5) (len:=(kn+1)) (cap:=cap45) (v:=.agg #[e0_39,e1_39,e2_39,e3_39,e4_39]) (g:=g42) (j:=5) (cs:=(cs++zN)) (cs':=(cs++[e0_39,e1_39,e2_39,e3_39,e4_39])) (l:=[e0_39,e1_39,e2_39,e3_39,e4_39]) (h1:=h139) (hO:=hO43) (hq:=(by rw [List.length_append,(show cs.length=kn * 5 by rw [hP.len]; omega)]; exact Nat.le_refl _)) (h0:=List.cons_ne_nil _ _) (hcs:=I1 (z:=zN) (l:=[e0_39,e1_39,e2_39,e3_39,e4_39]) (show cs.length=kn * 5 by rw [hP.len]; omega) rfl) (k:=(fun g48 hO49=>?_))
           refine B6 kr (fun w h=>(((h.erase 5).erase 4).erase 1)) (E4 16 (k:=?_))
           refine E2 (ch:=[]) (b:=nb) (off:=3) (v:=.slice a44 (kn+1) cap45) (j:=4) ([(b40,.cells zN.toArray 55 (0,0))]::[(r,.cells #[.string (bk (((elX lv sp) (q2.1.drop 1,q2.2)).2).1),.int .i64 ((((elX lv sp) (q2.1.drop 1,q2.2)).2).2)] 97 (0,0))]::[(ms,.map (C9 M) mc)]::gv39::[(nb,.cells #[v0,v1,v2,.slice a44 (kn+1) cap45,v4] 55 (0,0))]::g48::gs::H) (hoff:=Nat.le_of_ble_eq_true rfl) (hfz:=(fun _ _=>E0)) (k:=B6 kr (fun w h=>(((h.erase 5).erase 4).erase 1)) ?_)
           refine G3 (E':=[⟨0,[],pt r⟩,⟨1,[],pt nb⟩,⟨2,[],.int .i64 d⟩,⟨3,[],.map (some ms)⟩]) [0,1,2,3] (k:=H0 (a44,cap45,g48,[e0_39,e1_39,e2_39,e3_39,e4_39],gv39) [0,1,2,3] kr (fun w h=>(((((((h.front (j:=3) rfl).front (j:=6) rfl).front (j:=6) rfl).front (j:=6) rfl).front (j:=6) rfl).front (j:=6) rfl).erase 6)) ⟨hO49,hJ39⟩)
          ·
           refine E2 (ch:=[]) (b:=nb) (off:=3) (v:=.slice a44 (kn+1) cap45) (j:=4) ([(b40,.cells zN.toArray 55 (0,0))]::[(r,.cells #[.string (bk (((elX lv sp) (q2.1.drop 1,q2.2)).2).1),.int .i64 ((((elX lv sp) (q2.1.drop 1,q2.2)).2).2)] 97 (0,0))]::[(ms,.map (C9 M) mc)]::gv39::[(nb,.cells #[v0,v1,v2,.slice a44 (kn+1) cap45,v4] 55 (0,0))]::g42::gs::H) (hoff:=Nat.le_of_ble_eq_true rfl) (hfz:=(fun _ _=>E0)) (k:=B6 kr (fun w h=>(((h.erase 5).erase 4).erase 1)) ?_)
           refine E4 13 (k:=F9 (ch:=[]) (a:=a44) (q:=kn * 5) (len:=(kn+1)) (cap:=cap45) (v:=.agg #[e0_39,e1_39,e2_39,e3_39,e4_39]) (g:=g42) (j:=5) (cs:=(cs++zN)) (cs':=(cs++[e0_39,e1_39,e2_39,e3_39,e4_39])) (l:=[e0_39,e1_39,e2_39,e3_39,e4_39]) (h1:=h139) (hO:=hO43) (hq:=(by rw [List.length_append,(show cs.length=kn * 5 by rw [hP.len]; omega)]; exact Nat.le_refl _)) (h0:=List.cons_ne_nil _ _) (hcs:=I1 (z:=zN) (l:=[e0_39,e1_39,e2_39,e3_39,e4_39]) (show cs.length=kn * 5 by rw [hP.len]; omega) rfl) (k:=(fun g50 hO51=>?_)))
           refine B6 kr (fun w h=>(((h.erase 5).erase 4).erase 1)) (G3 (E':=[⟨0,[],pt r⟩,⟨1,[],pt nb⟩,⟨2,[],.int .i64 d⟩,⟨3,[],.map (some ms)⟩]) [0,1,2,3] (k:=?_))
           refine H0 (a44,cap45,g50,[e0_39,e1_39,e2_39,e3_39,e4_39],gv39) [0,1,2,3] kr (fun w h=>(((((((h.front (j:=3) rfl).front (j:=6) rfl).front (j:=6) rfl).front (j:=6) rfl).front (j:=6) rfl).front (j:=6) rfl).erase 6)) ⟨hO51,hJ39⟩
         ·
          refine E2 (ch:=[]) (b:=nb) (off:=3) (v:=.slice a44 (kn+1) cap45) (j:=4) ([(b40,.cells zN.toArray 55 (0,0))]::[(r,.cells #[.string (bk (((elX lv sp) (q2.1.drop 1,q2.2)).2).1),.int .i64 ((((elX lv sp) (q2.1.drop 1,q2.2)).2).2)] 97 (0,0))]::[(ms,.map (C9 M) mc)]::gv39::[(nb,.cells #[v0,v1,v2,.slice a44 (kn+1) cap45,v4] 55 (0,0))]::g42::gs::H) (hoff:=Nat.le_of_ble_eq_true rfl) (hfz:=(fun _ _=>E0)) (k:=B6 kr (fun w h=>(((h.erase 5).erase 4).erase 1)) ?_)
          refine E4 12 (k:=A9 (ch:=[]) (a:=a44) (len:=(kn+1)) (cap:=cap45) (kd:=.i64) (j:=((kn:Nat):Int)) (e:=55) (sz:=5) (S:=(inG g42)) (cs:=(cs++zN)) (hrd:=K7 hO43) (hb:=(fun _=>by exact ⟨by omega,by omega,by intro h; have h2:=congrArg List.length h; rw [List.length_append] at h2; simp at h2⟩)) (k:=?_))
          refine B6 kr (fun w h=>(((h.erase 5).erase 4).erase 1)) (E4 13 (k:=?_))
          refine F9 (ch:=[]) (a:=a44) (q:=kn * 5) (len:=(kn+1)) (cap:=cap45) (v:=.agg #[e0_39,e1_39,e2_39,e3_39,e4_39]) (g:=g42) (j:=5) (cs:=(cs++zN)) (cs':=(cs++[e0_39,e1_39,e2_39,e3_39,e4_39])) (l:=[e0_39,e1_39,e2_39,e3_39,e4_39]) (h1:=h139) (hO:=hO43) (hq:=(by rw [List.length_append,(show cs.length=kn * 5 by rw [hP.len]; omega)]; exact Nat.le_refl _)) (h0:=List.cons_ne_nil _ _) (hcs:=I1 (z:=zN) (l:=[e0_39,e1_39,e2_39,e3_39,e4_39]) (show cs.length=kn * 5 by rw [hP.len]; omega) rfl) (k:=(fun g52 hO53=>?_))
          refine B6 kr (fun w h=>(((h.erase 5).erase 4).erase 1)) (G3 (E':=[⟨0,[],pt r⟩,⟨1,[],pt nb⟩,⟨2,[],.int .i64 d⟩,⟨3,[],.map (some ms)⟩]) [0,1,2,3] (k:=?_))
          refine H0 (a44,cap45,g52,[e0_39,e1_39,e2_39,e3_39,e4_39],gv39) [0,1,2,3] kr (fun w h=>(((((((h.front (j:=3) rfl).front (j:=6) rfl).front (j:=6) rfl).front (j:=6) rfl).front (j:=6) rfl).front (j:=6) rfl).erase 6)) ⟨hO53,hJ39⟩
        ·
         refine D5 (ch:=[]) (e:=55) (l:=[(0,.agg zN.toArray)]) (c:=zN) (k:=(fun b54=>?_))
         refine B6 kr (fun w h=>((((h.erase 5).erase 4).erase 1).erase 0)) (O2 ([(b54,.cells zN.toArray 55 (0,0))]::[(ms,.map (C9 M) mc)]::gv39::gs::H) (fun w h=>(h.erase 0)) ?_)
         refine E4 3 (k:=A6 (ch:=[]) (b:=nb) (off:=3) (v:=.slice ka kn kc) (hA:=At.grp 4 0 rfl rfl) (k:=?_))
         refine B6 kr (fun w h=>(((h.erase 5).erase 4).erase 1)) (W7 (v:=.int .i64 ((kn:Nat):Int)) 9 (hL:=(fun w h=>(((h.erase 5).erase 4).erase 1))) (k:=?_))
         refine E4 11 (k:=G4 (i:=11) (ch:=[]) (t:=53) (tx:=53) (e:=55) (inf:=Tryz.t55) (s:=.slice ka kn kc) (x:=.slice (some ⟨b54,0,none⟩) 1 1) (n:=kn) (m:=1) (j:=5) (cs:=cs) (news:=zN) (g:=kg) (S:=(inG [(b54,.cells zN.toArray 55 (0,0))])) rfl rfl rfl rfl kr kr kr rfl rfl (.inl ⟨55,kr⟩) (fun ⟨_,h⟩=>by cases h) (fun _=>⟨55,kr⟩) kr kr kr rfl hO (SrcOf.slice _ _ _ _ Rd.lit (fun h=>by cases h)) (D4 0 rfl) kr (by intro u hu; simp only [List.mem_cons,List.not_mem_nil,or_false] at hu; rcases hu with rfl | rfl | rfl | rfl | rfl <;> rfl) (by omega) (by show (kn+1) * 96≤140737488355328; omega) (fun v55 g56 hO57=>?_))
         obtain ⟨a58,cap59,rfl,hcap60,hrd61⟩:=hO57.shape
         refine B6 kr (fun w h=>(((h.erase 5).erase 4).erase 1)) (L1 (ad:=⟨nb,0,none⟩) 14 (hL:=(fun w h=>(((h.erase 5).erase 4).erase 1))) (k:=?_))
         refine G6 (fuel:=3) [(15,0)] (fun w h=>(((h.erase 5).erase 4).erase 1)) (k:=K9 12 16 (k:=?_) (k':=?_))
         ·
          refine A9 (ch:=[]) (a:=a58) (len:=(kn+1)) (cap:=cap59) (kd:=.i64) (j:=((kn:Nat):Int)) (e:=55) (sz:=5) (S:=(inG g56)) (cs:=(cs++zN)) (hrd:=K7 hO57) (hb:=(fun _=>by exact ⟨by omega,by omega,by intro h; have h2:=congrArg List.length h; rw [List.length_append] at h2; simp at h2⟩)) (k:=B6 kr (fun w h=>(((h.erase 5).erase 4).erase 1)) ?_)
          refine K9 13 16 (k:=?_) (k':=?_)
          ·
           refine F9 (ch:=[]) (a:=a58) (q:=kn * 5) (len:=(kn+1)) (cap:=cap59) (v:=.agg #[e0_39,e1_39,e2_39,e3_39,e4_39]) (g:=g56) (j:=5) (cs:=(cs++zN)) (cs':=(cs++[e0_39,e1_39,e2_39,e3_39,e4_39])) (l:=[e0_39,e1_39,e2_39,e3_39,e4_39]) (h1:=h139) (hO:=hO57) (hq:=(by rw [List.length_append,(show cs.length=kn * 5 by rw [hP.len]; omega)]; exact Nat.le_refl _)) (h0:=List.cons_ne_nil _ _) (hcs:=I1 (z:=zN) (l:=[e0_39,e1_39,e2_39,e3_39,e4_39]) (show cs.length=kn * 5 by rw [hP.len]; omega) rfl) (k:=(fun g62 hO63=>?_))
           refine B6 kr (fun w h=>(((h.erase 5).erase 4).erase 1)) (E4 16 (k:=?_))
           refine E2 (ch:=[]) (b:=nb) (off:=3) (v:=.slice a58 (kn+1) cap59) (j:=4) ([(b54,.cells zN.toArray 55 (0,0))]::[(r,.cells #[.string (bk (((elX lv sp) (q2.1.drop 1,q2.2)).2).1),.int .i64 ((((elX lv sp) (q2.1.drop 1,q2.2)).2).2)] 97 (0,0))]::[(ms,.map (C9 M) mc)]::gv39::[(nb,.cells #[v0,v1,v2,.slice a58 (kn+1) cap59,v4] 55 (0,0))]::g62::gs::H) (hoff:=Nat.le_of_ble_eq_true rfl) (hfz:=(fun _ _=>E0)) (k:=B6 kr (fun w h=>(((h.erase 5).erase 4).erase 1)) ?_)
           refine G3 (E':=[⟨0,[],pt r⟩,⟨1,[],pt nb⟩,⟨2,[],.int .i64 d⟩,⟨3,[],.map (some ms)⟩]) [0,1,2,3] (k:=H0 (a58,cap59,g62,[e0_39,e1_39,e2_39,e3_39,e4_39],gv39) [0,1,2,3] kr (fun w h=>(((((((h.front (j:=3) rfl).front (j:=6) rfl).front (j:=6) rfl).front (j:=6) rfl).front (j:=6) rfl).front (j:=6) rfl).erase 6)) ⟨hO63,hJ39⟩)
          ·
           refine E2 (ch:=[]) (b:=nb) (off:=3) (v:=.slice a58 (kn+1) cap59) (j:=4) ([(b54,.cells zN.toArray 55 (0,0))]::[(r,.cells #[.string (bk (((elX lv sp) (q2.1.drop 1,q2.2)).2).1),.int .i64 ((((elX lv sp) (q2.1.drop 1,q2.2)).2).2)] 97 (0,0))]::[(ms,.map (C9 M) mc)]::gv39::[(nb,.cells #[v0,v1,v2,.slice a58 (kn+1) cap59,v4] 55 (0,0))]::g56::gs::H) (hoff:=Nat.le_of_ble_eq_true rfl) (hfz:=(fun _ _=>E0)) (k:=B6 kr (fun w h=>(((h.erase 5).erase 4).erase 1)) ?_)
           refine E4 13 (k:=F9 (ch:=[]) (a:=a58) (q:=kn * 5) (len:=(kn+1)) (cap:=cap59) (v:=.agg #[e0_39,e1_39,e2_39,e3_39,e4_39]) (g:=g56) (j:=5) (cs:=(cs++zN)) (cs':=(cs++[e0_39,e1_39,e2_39,e3_39,e4_39])) (l:=[e0_39,e1_39,e2_39,e3_39,e4_39]) (h1:=h139) (hO:=hO57) (hq:=(by rw [List.length_append,(show cs.length=kn * 5 by rw [hP.len]; omega)]; exact Nat.le_refl _)) (h0:=List.cons_ne_nil _ _) (hcs:=I1 (z:=zN) (l:=[e0_39,e1_39,e2_39,e3_39,e4_39]) (show cs.length=kn * 5 by rw [hP.len]; omega) rfl) (k:=(fun g64 hO65=>?_)))
           refine B6 kr (fun w h=>(((h.erase 5).erase 4).erase 1)) (G3 (E':=[⟨0,[],pt r⟩,⟨1,[],pt nb⟩,⟨2,[],.int .i64 d⟩,⟨3,[],.map (some ms)⟩]) [0,1,2,3] (k:=?_))
           refine H0 (a58,cap59,g64,[e0_39,e1_39,e2_39,e3_39,e4_39],gv39) [0,1,2,3] kr (fun w h=>(((((((h.front (j:=3) rfl).front (j:=6) rfl).front (j:=6) rfl).front (j:=6) rfl).front (j:=6) rfl).front (j:=6) rfl).erase 6)) ⟨hO65,hJ39⟩
         ·
          refine E2 (ch:=[]) (b:=nb) (off:=3) (v:=.slice a58 (kn+1) cap59) (j:=4) ([(b54,.cells zN.toArray 55 (0,0))]::[(r,.cells #[.string (bk (((elX lv sp) (q2.1.drop 1,q2.2)).2).1),.int .i64 ((((elX lv sp) (q2.1.drop 1,q2.2)).2).2)] 97 (0,0))]::[(ms,.map (C9 M) mc)]::gv39::[(nb,.cells #[v0,v1,v2,.slice a58 (kn+1) cap59,v4] 55 (0,0))]::g56::gs::H) (hoff:=Nat.le_of_ble_eq_true rfl) (hfz:=(fun _ _=>E0)) (k:=B6 kr (fun w h=>(((h.erase 5).erase 4).erase 1)) ?_)
          refine E4 12 (k:=A9 (ch:=[]) (a:=a58) (len:=(kn+1)) (cap:=cap59) (kd:=.i64) (j:=((kn:Nat):Int)) (e:=55) (sz:=5) (S:=(inG g56)) (cs:=(cs++zN)) (hrd:=K7 hO57) (hb:=(fun _=>by exact ⟨by omega,by omega,by intro h; have h2:=congrArg List.length h; rw [List.length_append] at h2; simp at h2⟩)) (k:=?_))
          refine B6 kr (fun w h=>(((h.erase 5).erase 4).erase 1)) (E4 13 (k:=?_))
          refine F9 (ch:=[]) (a:=a58) (q:=kn * 5) (len:=(kn+1)) (cap:=cap59) (v:=.agg #[e0_39,e1_39,e2_39,e3_39,e4_39]) (g:=g56) (j:=5) (cs:=(cs++zN)) (cs':=(cs++[e0_39,e1_39,e2_39,e3_39,e4_39])) (l:=[e0_39,e1_39,e2_39,e3_39,e4_39]) (h1:=h139) (hO:=hO57) (hq:=(by rw [List.length_append,(show cs.length=kn * 5 by rw [hP.len]; omega)]; exact Nat.le_refl _)) (h0:=List.cons_ne_nil _ _) (hcs:=I1 (z:=zN) (l:=[e0_39,e1_39,e2_39,e3_39,e4_39]) (show cs.length=kn * 5 by rw [hP.len]; omega) rfl) (k:=(fun g66 hO67=>?_))
          refine B6 kr (fun w h=>(((h.erase 5).erase 4).erase 1)) (G3 (E':=[⟨0,[],pt r⟩,⟨1,[],pt nb⟩,⟨2,[],.int .i64 d⟩,⟨3,[],.map (some ms)⟩]) [0,1,2,3] (k:=?_))
          refine H0 (a58,cap59,g66,[e0_39,e1_39,e2_39,e3_39,e4_39],gv39) [0,1,2,3] kr (fun w h=>(((((((h.front (j:=3) rfl).front (j:=6) rfl).front (j:=6) rfl).front (j:=6) rfl).front (j:=6) rfl).front (j:=6) rfl).erase 6)) ⟨hO67,hJ39⟩
       ·
        refine D5 (ch:=[]) (e:=55) (l:=[(0,.agg zN.toArray)]) (c:=zN) (k:=(fun b68=>?_))
        refine B6 kr (fun w h=>((((h.erase 4).erase 3).erase 1).erase 0)) (O2 ([(b68,.cells zN.toArray 55 (0,0))]::[(ms,.map (C9 M) mc)]::gs::H) (fun w h=>(h.erase 0)) ?_)
        refine K9 3 8 (k:=?_) (k':=?_)
        ·
         refine A6 (ch:=[]) (b:=nb) (off:=3) (v:=.slice ka kn kc) (hA:=At.grp 3 0 rfl rfl) (k:=B6 kr (fun w h=>(((h.erase 4).erase 3).erase 1)) ?_)
         refine W7 (v:=.int .i64 ((kn:Nat):Int)) 9 (hL:=(fun w h=>(((h.erase 4).erase 3).erase 1))) (k:=E4 8 (k:=?_))
         refine H4 rfl (H':=([(r,.cells #[.string (bk (q2.1.drop 1,q2.2).1),.int .i64 ((q2.1.drop 1,q2.2).2)] 97 (0,0))]::[(ms,.map (C9 M) mc)]::[(b68,.cells zN.toArray 55 (0,0))]::[(nb,.cells #[v0,v1,v2,.slice ka kn kc,v4] 55 (0,0))]::kg::gs::H)) (fun w h=>((h.front (j:=2) rfl).front (j:=2) rfl)) (E7 (vs:=[pt r,.int .i64 (d+1),.map (some ms)]) Tryz.func63 (hel (q2.1.drop 1,q2.2) (by show (List.drop 1 _).length≤_; rw [List.length_drop]; omega) _ _ hX) ?_)
         rintro _ _ ⟨vc69,gv69,hJ69,rfl,rfl⟩
         obtain ⟨e0_69,e1_69,e2_69,e3_69,e4_69,rfl,h169⟩:=hJ69.cells5
         refine B6 kr (fun w h=>(((((((h.front (j:=6) rfl).front (j:=2) rfl).front (j:=4) rfl).erase 6).erase 5).erase 4).erase 3)) (O2 ([(ms,.map (C9 M) mc)]::gv69::[(b68,.cells zN.toArray 55 (0,0))]::gs::H) (fun w h=>((((h.front (j:=3) rfl).front (j:=1) rfl).front (j:=3) rfl).erase 3)) ?_)
         refine E4 11 (k:=G4 (i:=11) (ch:=[]) (t:=53) (tx:=53) (e:=55) (inf:=Tryz.t55) (s:=.slice ka kn kc) (x:=.slice (some ⟨b68,0,none⟩) 1 1) (n:=kn) (m:=1) (j:=5) (cs:=cs) (news:=zN) (g:=kg) (S:=(inG [(b68,.cells zN.toArray 55 (0,0))])) rfl rfl rfl rfl kr kr kr rfl rfl (.inl ⟨55,kr⟩) (fun ⟨_,h⟩=>by cases h) (fun _=>⟨55,kr⟩) kr kr kr rfl hO (SrcOf.slice _ _ _ _ Rd.lit (fun h=>by cases h)) (D4 3 rfl) kr (by intro u hu; simp only [List.mem_cons,List.not_mem_nil,or_false] at hu; rcases hu with rfl | rfl | rfl | rfl | rfl <;> rfl) (by omega) (by show (kn+1) * 96≤140737488355328; omega) (fun v70 g71 hO72=>?_))
         obtain ⟨a73,cap74,rfl,hcap75,hrd76⟩:=hO72.shape
         refine B6 kr (fun w h=>(((h.erase 5).erase 4).erase 0)) (L1 (ad:=⟨nb,0,none⟩) 14 (hL:=(fun w h=>(((h.erase 5).erase 4).erase 0))) (k:=?_))
         refine G6 (fuel:=3) [(15,0)] (fun w h=>(((h.erase 5).erase 4).erase 0)) (k:=K9 12 16 (k:=?_) (k':=?_))
         ·
          refine A9 (ch:=[]) (a:=a73) (len:=(kn+1)) (cap:=cap74) (kd:=.i64) (j:=((kn:Nat):Int)) (e:=55) (sz:=5) (S:=(inG g71)) (cs:=(cs++zN)) (hrd:=K7 hO72) (hb:=(fun _=>by exact ⟨by omega,by omega,by intro h; have h2:=congrArg List.length h; rw [List.length_append] at h2; simp at h2⟩)) (k:=B6 kr (fun w h=>(((h.erase 5).erase 4).erase 0)) ?_)
          refine K9 13 16 (k:=?_) (k':=?_)
          ·
           refine F9 (ch:=[]) (a:=a73) (q:=kn * 5) (len:=(kn+1)) (cap:=cap74) (v:=.agg #[e0_69,e1_69,e2_69,e3_69,e4_69]) (g:=g71) (j:=5) (cs:=(cs++zN)) (cs':=(cs++[e0_69,e1_69,e2_69,e3_69,e4_69])) (l:=[e0_69,e1_69,e2_69,e3_69,e4_69]) (h1:=h169) (hO:=hO72) (hq:=(by rw [List.length_append,(show cs.length=kn * 5 by rw [hP.len]; omega)]; exact Nat.le_refl _)) (h0:=List.cons_ne_nil _ _) (hcs:=I1 (z:=zN) (l:=[e0_69,e1_69,e2_69,e3_69,e4_69]) (show cs.length=kn * 5 by rw [hP.len]; omega) rfl) (k:=(fun g77 hO78=>?_))
           refine B6 kr (fun w h=>(((h.erase 5).erase 4).erase 0)) (E4 16 (k:=?_))
           refine E2 (ch:=[]) (b:=nb) (off:=3) (v:=.slice a73 (kn+1) cap74) (j:=4) ([(r,.cells #[.string (bk (((elX lv sp) (q2.1.drop 1,q2.2)).2).1),.int .i64 ((((elX lv sp) (q2.1.drop 1,q2.2)).2).2)] 97 (0,0))]::[(ms,.map (C9 M) mc)]::gv69::[(b68,.cells zN.toArray 55 (0,0))]::[(nb,.cells #[v0,v1,v2,.slice a73 (kn+1) cap74,v4] 55 (0,0))]::g77::gs::H) (hoff:=Nat.le_of_ble_eq_true rfl) (hfz:=(fun _ _=>E0)) (k:=B6 kr (fun w h=>(((h.erase 5).erase 4).erase 0)) ?_)
           refine G3 (E':=[⟨0,[],pt r⟩,⟨1,[],pt nb⟩,⟨2,[],.int .i64 d⟩,⟨3,[],.map (some ms)⟩]) [0,1,2,3] (k:=H0 (a73,cap74,g77,[e0_69,e1_69,e2_69,e3_69,e4_69],gv69) [0,1,2,3] kr (fun w h=>(((((((h.front (j:=2) rfl).front (j:=6) rfl).front (j:=6) rfl).front (j:=6) rfl).front (j:=5) rfl).front (j:=5) rfl).erase 6)) ⟨hO78,hJ69⟩)
          ·
           refine E2 (ch:=[]) (b:=nb) (off:=3) (v:=.slice a73 (kn+1) cap74) (j:=4) ([(r,.cells #[.string (bk (((elX lv sp) (q2.1.drop 1,q2.2)).2).1),.int .i64 ((((elX lv sp) (q2.1.drop 1,q2.2)).2).2)] 97 (0,0))]::[(ms,.map (C9 M) mc)]::gv69::[(b68,.cells zN.toArray 55 (0,0))]::[(nb,.cells #[v0,v1,v2,.slice a73 (kn+1) cap74,v4] 55 (0,0))]::g71::gs::H) (hoff:=Nat.le_of_ble_eq_true rfl) (hfz:=(fun _ _=>E0)) (k:=B6 kr (fun w h=>(((h.erase 5).erase 4).erase 0)) ?_)
           refine E4 13 (k:=F9 (ch:=[]) (a:=a73) (q:=kn * 5) (len:=(kn+1)) (cap:=cap74) (v:=.agg #[e0_69,e1_69,e2_69,e3_69,e4_69]) (g:=g71) (j:=5) (cs:=(cs++zN)) (cs':=(cs++[e0_69,e1_69,e2_69,e3_69,e4_69])) (l:=[e0_69,e1_69,e2_69,e3_69,e4_69]) (h1:=h169) (hO:=hO72) (hq:=(by rw [List.length_append,(show cs.length=kn * 5 by rw [hP.len]; omega)]; exact Nat.le_refl _)) (h0:=List.cons_ne_nil _ _) (hcs:=I1 (z:=zN) (l:=[e0_69,e1_69,e2_69,e3_69,e4_69]) (show cs.length=kn * 5 by rw [hP.len]; omega) rfl) (k:=(fun g79 hO80=>?_)))
           refine B6 kr (fun w h=>(((h.erase 5).erase 4).erase 0)) (G3 (E':=[⟨0,[],pt r⟩,⟨1,[],pt nb⟩,⟨2,[],.int .i64 d⟩,⟨3,[],.map (some ms)⟩]) [0,1,2,3] (k:=?_))
           refine H0 (a73,cap74,g79,[e0_69,e1_69,e2_69,e3_69,e4_69],gv69) [0,1,2,3] kr (fun w h=>(((((((h.front (j:=2) rfl).front (j:=6) rfl).front (j:=6) rfl).front (j:=6) rfl).front (j:=5) rfl).front (j:=5) rfl).erase 6)) ⟨hO80,hJ69⟩
         ·
          refine E2 (ch:=[]) (b:=nb) (off:=3) (v:=.slice a73 (kn+1) cap74) (j:=4) ([(r,.cells #[.string (bk (((elX lv sp) (q2.1.drop 1,q2.2)).2).1),.int .i64 ((((elX lv sp) (q2.1.drop 1,q2.2)).2).2)] 97 (0,0))]::[(ms,.map (C9 M) mc)]::gv69::[(b68,.cells zN.toArray 55 (0,0))]::[(nb,.cells #[v0,v1,v2,.slice a73 (kn+1) cap74,v4] 55 (0,0))]::g71::gs::H) (hoff:=Nat.le_of_ble_eq_true rfl) (hfz:=(fun _ _=>E0)) (k:=B6 kr (fun w h=>(((h.erase 5).erase 4).erase 0)) ?_)
          refine E4 12 (k:=A9 (ch:=[]) (a:=a73) (len:=(kn+1)) (cap:=cap74) (kd:=.i64) (j:=((kn:Nat):Int)) (e:=55) (sz:=5) (S:=(inG g71)) (cs:=(cs++zN)) (hrd:=K7 hO72) (hb:=(fun _=>by exact ⟨by omega,by omega,by intro h; have h2:=congrArg List.length h; rw [List.length_append] at h2; simp at h2⟩)) (k:=?_))
          refine B6 kr (fun w h=>(((h.erase 5).erase 4).erase 0)) (E4 13 (k:=?_))
          refine F9 (ch:=[]) (a:=a73) (q:=kn * 5) (len:=(kn+1)) (cap:=cap74) (v:=.agg #[e0_69,e1_69,e2_69,e3_69,e4_69]) (g:=g71) (j:=5) (cs:=(cs++zN)) (cs':=(cs++[e0_69,e1_69,e2_69,e3_69,e4_69])) (l:=[e0_69,e1_69,e2_69,e3_69,e4_69]) (h1:=h169) (hO:=hO72) (hq:=(by rw [List.length_append,(show cs.length=kn * 5 by rw [hP.len]; omega)]; exact Nat.le_refl _)) (h0:=List.cons_ne_nil _ _) (hcs:=I1 (z:=zN) (l:=[e0_69,e1_69,e2_69,e3_69,e4_69]) (show cs.length=kn * 5 by rw [hP.len]; omega) rfl) (k:=(fun g81 hO82=>?_))
          refine B6 kr (fun w h=>(((h.erase 5).erase 4).erase 0)) (G3 (E':=[⟨0,[],pt r⟩,⟨1,[],pt nb⟩,⟨2,[],.int .i64 d⟩,⟨3,[],.map (some ms)⟩]) [0,1,2,3] (k:=?_))
          refine H0 (a73,cap74,g81,[e0_69,e1_69,e2_69,e3_69,e4_69],gv69) [0,1,2,3] kr (fun w h=>(((((((h.front (j:=2) rfl).front (j:=6) rfl).front (j:=6) rfl).front (j:=6) rfl).front (j:=5) rfl).front (j:=5) rfl).erase 6)) ⟨hO82,hJ69⟩
        ·
         refine H4 rfl (H':=([(r,.cells #[.string (bk (q2.1.drop 1,q2.2).1),.int .i64 ((q2.1.drop 1,q2.2).2)] 97 (0,0))]::[(ms,.map (C9 M) mc)]::[(b68,.cells zN.toArray 55 (0,0))]::[(nb,.cells #[v0,v1,v2,.slice ka kn kc,v4] 55 (0,0))]::kg::gs::H)) (fun w h=>((h.front (j:=2) rfl).front (j:=2) rfl)) (E7 (vs:=[pt r,.int .i64 (d+1),.map (some ms)]) Tryz.func63 (hel (q2.1.drop 1,q2.2) (by show (List.drop 1 _).length≤_; rw [List.length_drop]; omega) _ _ hX) ?_)
         rintro _ _ ⟨vc83,gv83,hJ83,rfl,rfl⟩
         obtain ⟨e0_83,e1_83,e2_83,e3_83,e4_83,rfl,h183⟩:=hJ83.cells5
         refine B6 kr (fun w h=>(((((((h.front (j:=6) rfl).front (j:=2) rfl).front (j:=4) rfl).erase 6).erase 5).erase 4).erase 3)) (O2 ([(ms,.map (C9 M) mc)]::gv83::[(b68,.cells zN.toArray 55 (0,0))]::gs::H) (fun w h=>((((h.front (j:=3) rfl).front (j:=1) rfl).front (j:=3) rfl).erase 3)) ?_)
         refine E4 3 (k:=A6 (ch:=[]) (b:=nb) (off:=3) (v:=.slice ka kn kc) (hA:=At.grp 4 0 rfl rfl) (k:=?_))
         refine B6 kr (fun w h=>(((h.erase 5).erase 4).erase 0)) (W7 (v:=.int .i64 ((kn:Nat):Int)) 9 (hL:=(fun w h=>(((h.erase 5).erase 4).erase 0))) (k:=?_))
         refine E4 11 (k:=G4 (i:=11) (ch:=[]) (t:=53) (tx:=53) (e:=55) (inf:=Tryz.t55) (s:=.slice ka kn kc) (x:=.slice (some ⟨b68,0,none⟩) 1 1) (n:=kn) (m:=1) (j:=5) (cs:=cs) (news:=zN) (g:=kg) (S:=(inG [(b68,.cells zN.toArray 55 (0,0))])) rfl rfl rfl rfl kr kr kr rfl rfl (.inl ⟨55,kr⟩) (fun ⟨_,h⟩=>by cases h) (fun _=>⟨55,kr⟩) kr kr kr rfl hO (SrcOf.slice _ _ _ _ Rd.lit (fun h=>by cases h)) (D4 3 rfl) kr (by intro u hu; simp only [List.mem_cons,List.not_mem_nil,or_false] at hu; rcases hu with rfl | rfl | rfl | rfl | rfl <;> rfl) (by omega) (by show (kn+1) * 96≤140737488355328; omega) (fun v84 g85 hO86=>?_))
         obtain ⟨a87,cap88,rfl,hcap89,hrd90⟩:=hO86.shape
         refine B6 kr (fun w h=>(((h.erase 5).erase 4).erase 0)) (L1 (ad:=⟨nb,0,none⟩) 14 (hL:=(fun w h=>(((h.erase 5).erase 4).erase 0))) (k:=?_))
         refine G6 (fuel:=3) [(15,0)] (fun w h=>(((h.erase 5).erase 4).erase 0)) (k:=K9 12 16 (k:=?_) (k':=?_))
         ·
          refine A9 (ch:=[]) (a:=a87) (len:=(kn+1)) (cap:=cap88) (kd:=.i64) (j:=((kn:Nat):Int)) (e:=55) (sz:=5) (S:=(inG g85)) (cs:=(cs++zN)) (hrd:=K7 hO86) (hb:=(fun _=>by exact ⟨by omega,by omega,by intro h; have h2:=congrArg List.length h; rw [List.length_append] at h2; simp at h2⟩)) (k:=B6 kr (fun w h=>(((h.erase 5).erase 4).erase 0)) ?_)
          refine K9 13 16 (k:=?_) (k':=?_)
          ·
           refine F9 (ch:=[]) (a:=a87) (q:=kn * 5) (len:=(kn+1)) (cap:=cap88) (v:=.agg #[e0_83,e1_83,e2_83,e3_83,e4_83]) (g:=g85) (j:=5) (cs:=(cs++zN)) (cs':=(cs++[e0_83,e1_83,e2_83,e3_83,e4_83])) (l:=[e0_83,e1_83,e2_83,e3_83,e4_83]) (h1:=h183) (hO:=hO86) (hq:=(by rw [List.length_append,(show cs.length=kn * 5 by rw [hP.len]; omega)]; exact Nat.le_refl _)) (h0:=List.cons_ne_nil _ _) (hcs:=I1 (z:=zN) (l:=[e0_83,e1_83,e2_83,e3_83,e4_83]) (show cs.length=kn * 5 by rw [hP.len]; omega) rfl) (k:=(fun g91 hO92=>?_))
           refine B6 kr (fun w h=>(((h.erase 5).erase 4).erase 0)) (E4 16 (k:=?_))
           refine E2 (ch:=[]) (b:=nb) (off:=3) (v:=.slice a87 (kn+1) cap88) (j:=4) ([(r,.cells #[.string (bk (((elX lv sp) (q2.1.drop 1,q2.2)).2).1),.int .i64 ((((elX lv sp) (q2.1.drop 1,q2.2)).2).2)] 97 (0,0))]::[(ms,.map (C9 M) mc)]::gv83::[(b68,.cells zN.toArray 55 (0,0))]::[(nb,.cells #[v0,v1,v2,.slice a87 (kn+1) cap88,v4] 55 (0,0))]::g91::gs::H) (hoff:=Nat.le_of_ble_eq_true rfl) (hfz:=(fun _ _=>E0)) (k:=B6 kr (fun w h=>(((h.erase 5).erase 4).erase 0)) ?_)
           refine G3 (E':=[⟨0,[],pt r⟩,⟨1,[],pt nb⟩,⟨2,[],.int .i64 d⟩,⟨3,[],.map (some ms)⟩]) [0,1,2,3] (k:=H0 (a87,cap88,g91,[e0_83,e1_83,e2_83,e3_83,e4_83],gv83) [0,1,2,3] kr (fun w h=>(((((((h.front (j:=2) rfl).front (j:=6) rfl).front (j:=6) rfl).front (j:=6) rfl).front (j:=5) rfl).front (j:=5) rfl).erase 6)) ⟨hO92,hJ83⟩)
          ·
           refine E2 (ch:=[]) (b:=nb) (off:=3) (v:=.slice a87 (kn+1) cap88) (j:=4) ([(r,.cells #[.string (bk (((elX lv sp) (q2.1.drop 1,q2.2)).2).1),.int .i64 ((((elX lv sp) (q2.1.drop 1,q2.2)).2).2)] 97 (0,0))]::[(ms,.map (C9 M) mc)]::gv83::[(b68,.cells zN.toArray 55 (0,0))]::[(nb,.cells #[v0,v1,v2,.slice a87 (kn+1) cap88,v4] 55 (0,0))]::g85::gs::H) (hoff:=Nat.le_of_ble_eq_true rfl) (hfz:=(fun _ _=>E0)) (k:=B6 kr (fun w h=>(((h.erase 5).erase 4).erase 0)) ?_)
           refine E4 13 (k:=F9 (ch:=[]) (a:=a87) (q:=kn * 5) (len:=(kn+1)) (cap:=cap88) (v:=.agg #[e0_83,e1_83,e2_83,e3_83,e4_83]) (g:=g85) (j:=5) (cs:=(cs++zN)) (cs':=(cs++[e0_83,e1_83,e2_83,e3_83,e4_83])) (l:=[e0_83,e1_83,e2_83,e3_83,e4_83]) (h1:=h183) (hO:=hO86) (hq:=(by rw [List.length_append,(show cs.length=kn * 5 by rw [hP.len]; omega)]; exact Nat.le_refl _)) (h0:=List.cons_ne_nil _ _) (hcs:=I1 (z:=zN) (l:=[e0_83,e1_83,e2_83,e3_83,e4_83]) (show cs.length=kn * 5 by rw [hP.len]; omega) rfl) (k:=(fun g93 hO94=>?_)))
           refine B6 kr (fun w h=>(((h.erase 5).erase 4).erase 0)) (G3 (E':=[⟨0,[],pt r⟩,⟨1,[],pt nb⟩,⟨2,[],.int .i64 d⟩,⟨3,[],.map (some ms)⟩]) [0,1,2,3] (k:=?_))
           refine H0 (a87,cap88,g93,[e0_83,e1_83,e2_83,e3_83,e4_83],gv83) [0,1,2,3] kr (fun w h=>(((((((h.front (j:=2) rfl).front (j:=6) rfl).front (j:=6) rfl).front (j:=6) rfl).front (j:=5) rfl).front (j:=5) rfl).erase 6)) ⟨hO94,hJ83⟩
         ·
          refine E2 (ch:=[]) (b:=nb) (off:=3) (v:=.slice a87 (kn+1) cap88) (j:=4) ([(r,.cells #[.string (bk (((elX lv sp) (q2.1.drop 1,q2.2)).2).1),.int .i64 ((((elX lv sp) (q2.1.drop 1,q2.2)).2).2)] 97 (0,0))]::[(ms,.map (C9 M) mc)]::gv83::[(b68,.cells zN.toArray 55 (0,0))]::[(nb,.cells #[v0,v1,v2,.slice a87 (kn+1) cap88,v4] 55 (0,0))]::g85::gs::H) (hoff:=Nat.le_of_ble_eq_true rfl) (hfz:=(fun _ _=>E0)) (k:=B6 kr (fun w h=>(((h.erase 5).erase 4).erase 0)) ?_)
          refine E4 12 (k:=A9 (ch:=[]) (a:=a87) (len:=(kn+1)) (cap:=cap88) (kd:=.i64) (j:=((kn:Nat):Int)) (e:=55) (sz:=5) (S:=(inG g85)) (cs:=(cs++zN)) (hrd:=K7 hO86) (hb:=(fun _=>by exact ⟨by omega,by omega,by intro h; have h2:=congrArg List.length h; rw [List.length_append] at h2; simp at h2⟩)) (k:=?_))
          refine B6 kr (fun w h=>(((h.erase 5).erase 4).erase 0)) (E4 13 (k:=?_))
          refine F9 (ch:=[]) (a:=a87) (q:=kn * 5) (len:=(kn+1)) (cap:=cap88) (v:=.agg #[e0_83,e1_83,e2_83,e3_83,e4_83]) (g:=g85) (j:=5) (cs:=(cs++zN)) (cs':=(cs++[e0_83,e1_83,e2_83,e3_83,e4_83])) (l:=[e0_83,e1_83,e2_83,e3_83,e4_83]) (h1:=h183) (hO:=hO86) (hq:=(by rw [List.length_append,(show cs.length=kn * 5 by rw [hP.len]; omega)]; exact Nat.le_refl _)) (h0:=List.cons_ne_nil _ _) (hcs:=I1 (z:=zN) (l:=[e0_83,e1_83,e2_83,e3_83,e4_83]) (show cs.length=kn * 5 by rw [hP.len]; omega) rfl) (k:=(fun g95 hO96=>?_))
          refine B6 kr (fun w h=>(((h.erase 5).erase 4).erase 0)) (G3 (E':=[⟨0,[],pt r⟩,⟨1,[],pt nb⟩,⟨2,[],.int .i64 d⟩,⟨3,[],.map (some ms)⟩]) [0,1,2,3] (k:=?_))
          refine H0 (a87,cap88,g95,[e0_83,e1_83,e2_83,e3_83,e4_83],gv83) [0,1,2,3] kr (fun w h=>(((((((h.front (j:=2) rfl).front (j:=6) rfl).front (j:=6) rfl).front (j:=6) rfl).front (j:=5) rfl).front (j:=5) rfl).erase 6)) ⟨hO96,hJ83⟩
      ·
       rintro ⟨ya,yc,yg,c,gv⟩ ⟨hyo,hJ⟩
       dsimp only at hyo hJ
       refine C6 (C6 ?_)
       refine C1 (H':=([(r,.cells #[.string (bk (((elX lv sp) (q2.1.drop 1,q2.2)).2).1),.int .i64 ((((elX lv sp) (q2.1.drop 1,q2.2)).2).2)] 97 (0,0))]::[(ms,.map (C9 M) mc)]::[(nb,.cells #[v0,v1,v2,.slice ya (kn+1) yc,v4] 55 (0,0))]::yg::(gs++gv)::H)) (fun w h=>Sat.flat h (List.Perm.of_eq (by simp []))) (E9 (s':=(m,((elX lv sp) (q2.1.drop 1,q2.2)).2,(ks++[((elX lv sp) (q2.1.drop 1,q2.2)).1]),(kn+1),ya,yc,yg,(gs++gv),(cs++c))) [0,1,2,3] kr kr ⟨(by dsimp only; rw [hT,cont_el hq0 hk1 hk2 has hk3]),(by dsimp only; intro _; have h9:=el_le lv sp (q2.1.drop 1,q2.2); dsimp only at h9; rw [List.length_drop] at h9; have h8:=pre_le hk3; simp only [List.length_cons,List.length_nil] at h8; omega),(by dsimp only; have h9:=el_le lv sp (q2.1.drop 1,q2.2); dsimp only at h9; rw [List.length_drop] at h9; omega),hyo,(by dsimp only; rw [List.length_append,hkn]; rfl),(by dsimp only; exact hP.snoc hJ),(by dsimp only; omega),(by dsimp only; have h9:=el_le lv sp (q2.1.drop 1,q2.2); dsimp only at h9; rw [List.length_drop] at h9; rw [W2,el_text]; simp only [List.length_nil]; omega)⟩ (by dsimp only; omega))
     ·
      have hk7:¬ [60].isPrefixOf q2.1=true:=hk7
      have hk3:=hk7
      refine B1 [0] [0,1,2,3,66] (k:=A0 ?_)
      refine D3 kr (A1 ?_)
      refine A3 (A4 (j:=3) [0,0,0] (k:=?_))
      refine A6 (ch:=[]) (b:=r) (off:=0) (v:=.string (bk q2.1)) (hA:=At.grp 0 0 rfl rfl) (k:=E7 Tryz.func150 (cutW [60] q2.1 (by first | omega | (rw [List.length_take]; omega)) _ _ hX) ?_)
      rintro _ _ ⟨⟨hI,rfl⟩ | ⟨i,hI,rfl⟩,rfl⟩
      ·
       refine B1 [0,0,0,0,0,0,0] [0,1,2,3,8,10] (k:=A0 ?_)
       refine A1 (A1 ?_)
       refine C3 (E':=[⟨0,[],pt r⟩,⟨1,[],pt nb⟩,⟨2,[],.int .i64 d⟩,⟨3,[],.map (some ms)⟩,⟨8,[],.string (bk q2.1)⟩,⟨35,[],.bool true⟩]) [0,0,0,1,1,2] [0,1,2,3,8,35] (k:=A0 ?_)
       refine C4 kr (A1 ?_)
       refine A3 (A4 (j:=1) [0] (k:=?_))
       refine E7 Tryz.func64 (M3 r q2 70 _ _) ?_
       rintro _ _ rfl
       refine B5 (E':=[]) [] [] (k:=A0 ?_)
       refine C5 (B2 ?_)
       refine D6 (D6 ?_)
       refine B2 (D6 ?_)
       refine B9 [] [] (k:=?_)
       rw [hT,cont_none hq0 hk1 hk2 has hk3 hI]; exact ⟨_,_,_,_,_,_,hkn,hO,hP,rfl⟩
      ·
       refine B1 [0,0,0,0,0,0,0] [0,1,2,3,8,10] (k:=A0 ?_)
       refine A1 (A1 ?_)
       refine A3 (A4 (j:=4) [0,0,0,0] (k:=?_))
       refine X7 (ch:=[(32,false)]) (f:=143) (fst:=#[]) (caps:=#[]) (vs:=[.string (bk (q2.1.take i)),.string (mB #[93,93,62])]) (hf:=Tryz.func143) (hsure:=P2 kr) (hc:=hasW [93,93,62] (q2.1.take i) (by first | omega | (rw [List.length_take]; omega)) _ _ hX) (k:=?_)
       rintro _ _ ⟨rfl,rfl⟩
       refine B5 (E':=[⟨0,[],pt r⟩,⟨1,[],pt nb⟩,⟨2,[],.int .i64 d⟩,⟨3,[],.map (some ms)⟩,⟨8,[],.string (bk (q2.1.take i))⟩,⟨35,[],.bool ((idxL [93,93,62] (q2.1.take i)).isSome)⟩]) [3] [0,1,2,3,8,35] (k:=A0 ?_)
       refine B7 (b:=(idxL [93,93,62] (q2.1.take i)).isSome) kr (fun hc98=>?_) (fun hc98=>?_)
       ·
        have hbb:(idxL [93,93,62] (q2.1.take i)).isSome=true:=hc98
        refine A1 (A3 ?_)
        refine A4 (j:=1) [0] (k:=E7 Tryz.func64 (M3 r q2 70 _ _) ?_)
        rintro _ _ rfl
        refine B5 (E':=[]) [] [] (k:=A0 ?_)
        refine C5 (B2 ?_)
        refine D6 (D6 ?_)
        refine B2 (D6 ?_)
        refine B9 [] [] (k:=?_)
        rw [hT,cont_bad hq0 hk1 hk2 has hk3 hI hbb]; exact ⟨_,_,_,_,_,_,hkn,hO,hP,rfl⟩
       ·
        have hbb:(idxL [93,93,62] (q2.1.take i)).isSome=false:=hc98
        have hip:=(X1 hI).2.2
        refine B4 (A0 ?_)
        refine A1 (A3 ?_)
        refine A4 (j:=4) [0,0,0,0] (k:=A6 (ch:=[]) (b:=r) (off:=0) (v:=.string (bk q2.1)) (hA:=At.grp 0 0 rfl rfl) (k:=?_))
        refine A4 (j:=7) [0,0] (k:=H8 (ch:=[]) (s:=(bk q2.1)) (vl:=(some (.int .i64 ((bk (q2.1.take i)).size:Int)))) (vh:=none) (l:=((bk (q2.1.take i)).size:Int)) (h:=((bk q2.1).size:Int)) (hb:=(by intro _; obtain ⟨_,_,hip⟩:=X1 hI; rw [D9,D9,List.length_take]; exact ⟨by omega,by omega,by omega⟩)) (k:=?_))
        refine F0 (E':=[⟨45,[],.string (bk (q2.1.drop i))⟩,⟨44,[],.int .i64 ((bk (q2.1.take i)).size:Int)⟩,⟨43,[],.string (bk (q2.1.take i))⟩,⟨42,[],.string (bk q2.1)⟩,⟨41,[],pt r⟩,⟨40,[],pt r⟩,⟨39,[],pt r⟩,⟨38,[],pt r⟩,⟨0,[],pt r⟩,⟨1,[],pt nb⟩,⟨2,[],.int .i64 d⟩,⟨3,[],.map (some ms)⟩,⟨8,[],.string (bk (q2.1.take i))⟩,⟨35,[],.bool ((idxL [93,93,62] (q2.1.take i)).isSome)⟩]) (by have hz:([⟨45,[],.string ((bk q2.1).extract (bk (q2.1.take i)).size (bk q2.1).size)⟩,⟨44,[],.int .i64 ((bk (q2.1.take i)).size:Int)⟩,⟨43,[],.string (bk (q2.1.take i))⟩,⟨42,[],.string (bk q2.1)⟩,⟨41,[],pt r⟩,⟨40,[],pt r⟩,⟨39,[],pt r⟩,⟨38,[],pt r⟩,⟨0,[],pt r⟩,⟨1,[],pt nb⟩,⟨2,[],.int .i64 d⟩,⟨3,[],.map (some ms)⟩,⟨8,[],.string (bk (q2.1.take i))⟩,⟨35,[],.bool ((idxL [93,93,62] (q2.1.take i)).isSome)⟩]:List Sl)=[⟨45,[],.string (bk (q2.1.drop i))⟩,⟨44,[],.int .i64 ((bk (q2.1.take i)).size:Int)⟩,⟨43,[],.string (bk (q2.1.take i))⟩,⟨42,[],.string (bk q2.1)⟩,⟨41,[],pt r⟩,⟨40,[],pt r⟩,⟨39,[],pt r⟩,⟨38,[],pt r⟩,⟨0,[],pt r⟩,⟨1,[],pt nb⟩,⟨2,[],.int .i64 d⟩,⟨3,[],.map (some ms)⟩,⟨8,[],.string (bk (q2.1.take i))⟩,⟨35,[],.bool ((idxL [93,93,62] (q2.1.take i)).isSome)⟩]:=(by rw [show (bk (q2.1.take i)).size=i by rw [D9,List.length_take]; omega,ext_bk]); exact Eq.trans kr hz) (A4 (j:=10) [0,0] (k:=?_))
        refine E2 (ch:=[]) (b:=r) (off:=0) (v:=.string (bk (q2.1.drop i))) (j:=0) ([(r,.cells #[.string (bk (q2.1.drop i)),.int .i64 q2.2] 97 (0,0))]::[(ms,.map (C9 M) mc)]::[(nb,.cells #[v0,v1,v2,.slice ka kn kc,v4] 55 (0,0))]::kg::gs::H) (hoff:=Nat.le_of_ble_eq_true rfl) (hfz:=(fun _ _=>E0)) (k:=B1 [] [0,1,2,3,8] (k:=?_))
        refine A0 (A3 ?_)
        refine A4 (j:=3) [0,0,0] (k:=E7 Tryz.func144 (xrefs_ r ((q2.1.drop i),q2.2) (q2.1.take i) (by rw [List.length_take]; omega) _ _ hX) ?_)
        rintro _ _ ⟨rfl,rfl⟩
        refine H4 rfl (H':=([(nb,.cells #[v0,v1,v2,.slice ka kn kc,v4] 55 (0,0))]::kg::[(r,.cells #[.string (bk ((G7 (q2.1.take i) ((q2.1.drop i),q2.2)).2).1),.int .i64 (((G7 (q2.1.take i) ((q2.1.drop i),q2.2)).2).2)] 97 (0,0))]::[(ms,.map (C9 M) mc)]::gs::H)) (fun w h=>((h.front (j:=3) rfl).front (j:=3) rfl)) (E7 Tryz.func147 (xtext_ nb v0 v1 v2 v4 ks kn ka kc kg gs cs hkn hO hP ((G7 (q2.1.take i) ((q2.1.drop i),q2.2)).1) (by rw [refs_v]; have h7:=un_len (A7 (q2.1.take i)); have h6:=S6 (q2.1.take i); rw [List.length_take] at h6; omega) (by omega) (by omega) _ _) ?_)
        rintro _ _ ⟨kn99,ka99,kc99,kg99,kcs99,hk99,hO99,hP99,rfl⟩
        refine B1 [] [0,1,2,3] (k:=C6 ?_)
        refine C6 (C1 (H':=([(r,.cells #[.string (bk ((G7 (q2.1.take i) ((q2.1.drop i),q2.2)).2).1),.int .i64 (((G7 (q2.1.take i) ((q2.1.drop i),q2.2)).2).2)] 97 (0,0))]::[(ms,.map (C9 M) mc)]::[(nb,.cells #[v0,v1,v2,.slice ka99 kn99 kc99,v4] 55 (0,0))]::kg99::gs::H)) (fun w h=>(((((h.front (j:=4) rfl).front (j:=2) rfl).front (j:=2) rfl).front (j:=4) rfl).front (j:=4) rfl)) ?_)
        refine E9 (s':=(m,(G7 (q2.1.take i) ((q2.1.drop i),q2.2)).2,(addX ks (G7 (q2.1.take i) (q2.1.drop i,q2.2)).1),kn99,ka99,kc99,kg99,gs,kcs99)) [0,1,2,3] kr kr ⟨(by dsimp only; rw [hT,cont_text hq0 hk1 hk2 has hk3 hI hbb]),(by dsimp only; intro _; rw [refs_len]; dsimp only; rw [List.length_drop]; have h8:=idx_pos hI hk3; omega),(by dsimp only; rw [refs_len]; dsimp only; rw [List.length_drop]; omega),hO99,hk99,hP99,(by dsimp only; have h9:=add_len ks (G7 (q2.1.take i) (q2.1.drop i,q2.2)).1; omega),(by dsimp only; rw [refs_len,refs_v]; dsimp only; rw [List.length_drop]; have h7:=un_len (A7 (q2.1.take i)); have h6:=S6 (q2.1.take i); rw [List.length_take] at h6; have h5:=lastT_add ks (unL (A7 (q2.1.take i))); omega)⟩ (by dsimp only; omega)
 ·
  refine A3 (A4 (j:=3) [0,0,0] (k:=?_))
  refine A6 (ch:=[]) (b:=r) (off:=1) (v:=.int .i64 q2.2) (hA:=At.grp 0 0 rfl rfl) (k:=G5 (E':=[⟨15,[],.bool (q2.2==0)⟩,⟨0,[],pt r⟩,⟨1,[],pt nb⟩,⟨2,[],.int .i64 d⟩,⟨3,[],.map (some ms)⟩]) (j:=5) [0] (k:=?_))
  refine F0 (E':=[⟨15,[],.bool false⟩,⟨0,[],pt r⟩,⟨1,[],pt nb⟩,⟨2,[],.int .i64 d⟩,⟨3,[],.map (some ms)⟩]) (by rw [show (q2.2==0)=false by simpa using hq0]) (B1 [0,1,1,1,3] [0,1,2,3,20] (k:=?_))
  refine A0 (D3 kr ?_)
  refine H7 (B0 ?_)
  refine B0 (C7 ?_)
  refine B9 [] [] (k:=?_)
  rw [hT,cont_fault hq0]; exact ⟨_,_,_,_,_,_,hkn,hO,hP,rfl⟩
end Go.Proofs.YtppgfiklmfoaeaaGreatDoor
namespace Go.Xml
open Go.Esc Go.Json
def elT (q:XS):List AT × Bool × XS:=tagX ((A5 q).2.1.length+1) [] (A5 q).2
def elS (sp:SPX) (q:XS):SPX × XS:=L5 (elT q).1 [] sp (elT q).2.2
def elV (sp:SPX) (q:XS):List UInt8 × XS:=J2 (A5 q).1.pre (A5 q).1.has (elS sp q).1 (elS sp q).2
def elM (sp:SPX) (q:XS):List XA × XS:=M7 (elT q).1 [] (elS sp q).1 (elV sp q).2
section
variable {sp : SPX} {q q2 : XS} {out : List XA}
theorem el_1 {lv:Nat} (h:(elT q).2.2.2≠0):elX lv sp q=(T2,(elT q).2.2):=by
  rw [elX_eq]; dsimp only; exact if_pos h
theorem el_2 (h:(elT q).2.2.2=0) (hm:elM sp q=(out,q2)):elX 0 sp q=(.mk (elV sp q).1 (A5 q).1.name out [] [],E3 71 q2):=by
  rw [elX_eq]; dsimp only
  rw [if_neg (fun hn=>hn h)]
  show (XN.mk (elV sp q).1 (A5 q).1.name (elM sp q).1 [] [],E3 71 (elM sp q).2)=_
  rw [hm]
theorem el_3 {n:Nat} (h:(elT q).2.2.2=0) (hm:elM sp q=(out,q2)) (hc:(elT q).2.1=true∨q2.2≠0):elX (n+1) sp q=(.mk (elV sp q).1 (A5 q).1.name out [] [],q2):=by
  rw [elX_eq]; dsimp only
  rw [if_neg (fun hn=>hn h)]
  show (if (elT q).2.1=true∨(elM sp q).2.2≠0 then (XN.mk (elV sp q).1 (A5 q).1.name (elM sp q).1 [] [],(elM sp q).2) else R3 (A5 q).1 (F3 (elX n (elS sp q).1) ((elM sp q).2.1.length+1) [] (elM sp q).2) (elV sp q).1 (elM sp q).1)=_
  rw [hm]; exact if_pos hc
theorem el_4 {n:Nat} (h:(elT q).2.2.2=0) (hm:elM sp q=(out,q2)) (hc:¬ ((elT q).2.1=true∨q2.2≠0)):elX (n+1) sp q=R3 (A5 q).1 (F3 (elX n (elS sp q).1) (q2.1.length+1) [] q2) (elV sp q).1 out:=by
  rw [elX_eq]; dsimp only
  rw [if_neg (fun hn=>hn h)]
  show (if (elT q).2.1=true∨(elM sp q).2.2≠0 then (XN.mk (elV sp q).1 (A5 q).1.name (elM sp q).1 [] [],(elM sp q).2) else R3 (A5 q).1 (F3 (elX n (elS sp q).1) ((elM sp q).2.1.length+1) [] (elM sp q).2) (elV sp q).1 (elM sp q).1)=_
  rw [hm]; exact if_neg hc
end
theorem close_yes {a:QN} {k:List XN × XS} {s:List UInt8} {m:List XA} (h:(A5 k.2).1≠a):R3 a k s m=(.mk s a.name m k.1 [],E3 70 (C2 [62] (blk (A5 k.2).2.1,(A5 k.2).2.2))):=by
  unfold R3; rw [if_pos h]; rfl
theorem close_no {a:QN} {k:List XN × XS} {s:List UInt8} {m:List XA} (h:(A5 k.2).1=a):R3 a k s m=(.mk s a.name m k.1 [],C2 [62] (blk (A5 k.2).2.1,(A5 k.2).2.2)):=by
  unfold R3; rw [if_neg (fun hn=>hn h)]; rfl
theorem qn_eq {a b:QN}:a=b ↔ a.pre=b.pre∧a.name=b.name∧a.has=b.has:=by
  cases a; cases b; simp
theorem flt71 (q:XS):(E3 71 q).2≠0:=by
  unfold E3; dsimp only; split
  · decide
  · rename_i h; exact h
def mkX (sp:SPX) (a:AT) (q:XS):List UInt8 × XS:=if a.q.has=true then J2 a.q.pre true sp q else ([],q)
theorem mkX_yes {sp:SPX} {a:AT} {q:XS} (h:a.q.has=true):mkX sp a q=J2 a.q.pre true sp q:=if_pos h
theorem mkX_no {sp:SPX} {a:AT} {q:XS} (h:a.q.has=false):mkX sp a q=([],q):=if_neg (by rw [h]; exact Bool.false_ne_true)
theorem mkX_le (sp:SPX) (a:AT) (q:XS):(mkX sp a q).2.1=q.1:=by unfold mkX; split; exact space_le _ _ _ _; rfl
theorem marks_yes {a:AT} {r:List AT} {out:List XA} {sp:SPX} {q:XS} (h:(Q4 a).isSome=false) (hy:(out.any fun y=>y.space==(mkX sp a q).1&&y.name==a.q.name)=true):M7 (a::r) out sp q=M7 r (out++[⟨(mkX sp a q).1,a.q.name,a.value⟩]) sp (E3 70 (mkX sp a q).2):=by
  rw [marks_go h]
  show M7 r (out++[⟨(mkX sp a q).1,a.q.name,a.value⟩]) sp (if (out.any fun y=>y.space==(mkX sp a q).1&&y.name==a.q.name)=true then E3 70 (mkX sp a q).2 else (mkX sp a q).2)=_
  rw [if_pos hy]
theorem marks_no {a:AT} {r:List AT} {out:List XA} {sp:SPX} {q:XS} (h:(Q4 a).isSome=false) (hy:(out.any fun y=>y.space==(mkX sp a q).1&&y.name==a.q.name)=false):M7 (a::r) out sp q=M7 r (out++[⟨(mkX sp a q).1,a.q.name,a.value⟩]) sp (mkX sp a q).2:=by
  rw [marks_go h]
  show M7 r (out++[⟨(mkX sp a q).1,a.q.name,a.value⟩]) sp (if (out.any fun y=>y.space==(mkX sp a q).1&&y.name==a.q.name)=true then E3 70 (mkX sp a q).2 else (mkX sp a q).2)=_
  rw [if_neg (by rw [hy]; exact Bool.false_ne_true)]
theorem decl_is {a:AT}:(Q4 a).isSome=true ↔ (a.q.has=true∧a.q.pre=xmlns)∨(a.q.has=false∧a.q.name=xmlns):=by
  unfold Q4
  constructor
  · intro h
    split at h
    · rename_i h1; exact .inr h1
    · split at h
      · rename_i h2; exact .inl h2
      · cases h
  · intro h
    split
    · rfl
    · rename_i h1
      rw [if_pos (h.resolve_right h1)]; rfl
theorem elT_le (q:XS):(elT q).2.2.1.length≤q.1.length:=by
  have h1:=tag_le ((A5 q).2.1.length+1) [] (A5 q).2
  have h2:=qual_le q
  unfold elT; omega
theorem elS_le (sp:SPX) (q:XS):(elS sp q).2.1=(elT q).2.2.1:=sp_le _ _ _ _
theorem elV_le (sp:SPX) (q:XS):(elV sp q).2.1=(elT q).2.2.1:=by unfold elV; rw [space_le,elS_le]
end Go.Xml
