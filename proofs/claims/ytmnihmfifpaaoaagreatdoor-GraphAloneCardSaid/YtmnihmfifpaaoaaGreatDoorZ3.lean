/- GraphAlone: a made thing is fresh where it was made, and others beside it, and data that it did not read, change nothing. The row, and its card, which ties what the library's tables hold to the program's text. No condition beyond the given statement's. (and what it stands on) -/
import Derived.Test.YtmnihmfifpaaoaaGreatDoorZ2
import Derived.Test.YtmnihmfifpaaoaaGreatDoorCards
import Derived.Test.YtmnihmfifpaaoaaGreatDoorTie
import Derived.ProofKit
import Derived.OpenShut
import Derived.LaidMore
import Derived.Lay
import Derived.SevenTiedAt
import Derived.Stop.Joined
import Derived.Stop.LaidErr
import Derived.LaidLaws
import Derived.Lib.LaidTab
import Derived.Lib.LaidU8T
import Derived.ChangeMaps5
import Derived.ChangeSlices
import Derived.Carry
import Derived.Shelf.Vars
import Derived.HandedShaped
import Derived.SliceStrings
namespace Go.Sw
theorem zero_row {z:Array Value} {zc:Value} (hz:z=#[zc]) (n:Nat):(Builtin.zeroCells z n).toList=List.replicate n zc:=by
  subst hz
  unfold Builtin.zeroCells
  apply List.ext_getElem
  · simp
  · intro i h1 h2
    simp [Nat.mod_one]
theorem GL_clearO {P:Program} {ops:Array Oper} {i:Nat} {Q:B1} {n:Fr} {E:Env} {W0:World} {H:List Grp} {o:Oper} {ch:List (Nat × Bool)} {cl:Call} {t e:TypeId} {ts:Array TypeId} {a:Option Addr} {len cap:Nat} {cs:List Value} {g:Grp} {j:Nat} {z zc:Value}
    (ho:ops[i]? = some o) (hop:o.op=.call cl) (hce:cl.callee=.builtin .clear) (hts:cl.argTypes=ts) (hat:ts[0]? = some t) (hargs:evL (evO E ch) cl.args.toList=some [.slice a len cap])
    (hu:P.underlying t=some (.slice e)) (hz:zeroV P e=some z) (hzc:z.cells=#[zc]) (h1:zc.oneCell'=true)
    (hch:A9 ops E o.guard=some ch) (hd:C1 n ch o.dst=true) (hsure:G2 E ch=true)
    (hj:H[j]? = some g) (hO:Own e 1 (.slice a len cap) g len cs)
    (k:∀ g',Own e 1 (.slice a len cap) g' len (List.replicate len zc)→GL false P ops (i+1) Q n (Env.put E o.dst ch (.tuple #[])) W0 (H.set j g')):GL false P ops i Q n E W0 H:=by
  obtain ⟨hl,⟨he,rfl,hn⟩ | ⟨b,cap',junk,he,rfl,hc,hjk⟩⟩:=hO
  · injection he with e1 e2 e3
    subst e1 e2 e3
    have hrun:∀ w,(Builtin.clear_ ts o.type #[.slice none 0 0]).run P w=.ok (.tuple #[]) w:=fun w=>by
      have h0:(#[.slice none 0 0]:Array Value)[0]? = some (.slice none 0 0):=rfl
      simp only [Builtin.clear_,hat,h0,Sem.run_bind,run_underlying hu,Result.andThen_ok]; rfl
    refine J3 (R:=fun v H1=>v=.tuple #[]∧H1=H) ho hch hd hsure (fun r hr w hs=>⟨_,w,H,⟨rfl,rfl⟩,hs,.inl ?_⟩) (by
      rintro v H1 ⟨rfl,rfl⟩
      have:=k [] ⟨by simp,.inl ⟨rfl,rfl,rfl⟩⟩
      rwa [show H1.set j []=H1 from by
        obtain ⟨h1,h2⟩:=List.getElem?_eq_some_iff.1 hj
        rw [← h2,List.set_getElem_self]] at this)
    unfold execOp
    simp only [hop,resolve,hce,hts,E9 hr hargs,Sem.run_bind,Sem.run_pure,Result.andThen_ok,invoke,Go.builtin,hrun]
  · injection he with e1 e2 e3
    subst e1 e3
    rcases Nat.eq_zero_or_pos len with rfl | hpos
    · have hrun:∀ w,(Builtin.clear_ ts o.type #[.slice (some ⟨b,0,none⟩) 0 cap]).run P w=.ok (.tuple #[]) w:=fun w=>by
        have h0:(#[.slice (some ⟨b,0,none⟩) 0 cap]:Array Value)[0]? = some (.slice (some ⟨b,0,none⟩) 0 cap):=rfl
        simp only [Builtin.clear_,hat,h0,Sem.run_bind,run_underlying hu,Result.andThen_ok]; rfl
      refine J3 (R:=fun v H1=>v=.tuple #[]∧H1=H) ho hch hd hsure (fun r hr w hs=>⟨_,w,H,⟨rfl,rfl⟩,hs,.inl ?_⟩) (by
        rintro v H1 ⟨rfl,rfl⟩
        have h0:cs=[]:=List.eq_nil_of_length_eq_zero (by omega)
        subst h0
        have:=k _ ⟨by simp,.inr ⟨b,cap,junk,rfl,rfl,hc,hjk⟩⟩
        rwa [show H1.set j _=H1 from by
          obtain ⟨h1,h2⟩:=List.getElem?_eq_some_iff.1 hj
          rw [show ([(b,Obj.cells (List.replicate 0 zc++junk).toArray e (0,0))]:Grp)=H1[j] from h2.symm,List.set_getElem_self]] at this)
      unfold execOp
      simp only [hop,resolve,hce,hts,E9 hr hargs,Sem.run_bind,Sem.run_pure,Result.andThen_ok,invoke,Go.builtin,hrun]
    · have hlen:(List.replicate len zc).length=len:=List.length_replicate
      refine J3 (R:=fun v H1=>v=.tuple #[]∧H1=H.set j [(b,.cells (List.replicate len zc++junk).toArray e (0,0))]) ho hch hd hsure (fun r hr w hs=>?_) (by
        rintro v H1 ⟨rfl,rfl⟩
        exact k _ ⟨by rw [hlen,Nat.mul_one],.inr ⟨b,cap,junk,rfl,rfl,hc,by rw [List.length_append,hlen,← hjk,List.length_append]; omega⟩⟩)
      have hblk:=hs.has _ (List.mem_flatten.2 ⟨_,List.mem_of_getElem? hj,List.mem_singleton.2 rfl⟩)
      obtain ⟨w',hr',_,hw'⟩:=G9 (P:=P) (List.replicate len zc) (w:=w) (b:=b) (off:=0) (i:=0) hblk (by rw [hlen,List.size_toArray,List.length_append]; omega) (fun _ _=>thaw0) (by rw [List.all_eq_true]; intro x hx; rw [List.eq_of_mem_replicate hx]; exact h1)
      refine ⟨.tuple #[],w',_,⟨rfl,rfl⟩,?_,.inl ?_⟩
      · refine hs.wr hj (i:=0) rfl (o':=.cells (List.replicate len zc++junk).toArray e (0,0)) ?_
        have:=setRow_mid (List.replicate len zc) [] junk cs (by rw [hlen]; omega)
        simp only [List.nil_append,List.length_nil] at this
        rw [← this]; exact hw'
      · have hrun:(Builtin.clear_ ts o.type #[.slice (some ⟨b,0,none⟩) len cap]).run P w=.ok (.tuple #[]) w':=by
          obtain ⟨m,rfl⟩:∃ m,len=m+1:=⟨len - 1,by omega⟩
          have h0:(#[.slice (some ⟨b,0,none⟩) (m+1) cap]:Array Value)[0]? = some (.slice (some ⟨b,0,none⟩) (m+1) cap):=rfl
          simp only [Builtin.clear_,hat,h0,Sem.run_bind,run_underlying hu,Result.andThen_ok,G7 hz,zero_row hzc,hr']
          rfl
        unfold execOp
        simp only [hop,resolve,hce,hts,E9 hr hargs,Sem.run_bind,Sem.run_pure,Result.andThen_ok,invoke,Go.builtin,hrun]
end Go.Sw
namespace Go.Proofs.YtmnihmfifpaaoaaGreatDoor
open Go.Sw Go.Sha Go.Esc Go.RowKit Go.Json Go.Xml Go.Gr
theorem sort_one (s:ByteArray):Go.Vf.sortB [s]=[s]:=by
  unfold Go.Vf.sortB
  rw [List.map_cons,List.map_nil,List.mergeSort_singleton]; rfl
theorem sorted1 (nm:ByteArray) (v:Value) (hz:nm.size≤1000) (mb kb:Nat) (W0:World) (H:List Grp) :
    Tri Tryz.prog 32 #[.func (.func 50) #[] #[.pointer (some ⟨kb,0,none⟩)]] W0
      ([(kb,.cells #[.map (some mb)] 43 (0,0))]::[(mb,.map (B5 [(nm,v,0)]) 1)]::H)
      (fun u H'=>∃ sa sc sg,u=.slice sa 1 sc∧Go.Sw.Own 9 1 (.slice sa 1 sc) sg 1 [.string nm]∧H'=sg::[(kb,.cells #[.map (some mb)] 43 (0,0))]::[(mb,.map (B5 [(nm,v,0)]) 1)]::H):=by
  refine Tri.post (Go.Vf.sortedC [(nm,v,0)] 1 mb kb (one_ok nm v) (fun e h=>by rw [List.mem_singleton.1 h]; show nm.size≤_; omega) (by show 1≤_; omega) W0 H) fun u H1 ⟨g,hO,hH⟩=>?_
  rw [show (([(nm,v,0)]:SM).map Prod.fst)=[nm] from rfl,sort_one] at hO
  obtain ⟨sa,sc,rfl,_,_⟩:=hO.shape
  exact ⟨_,⟨sa,sc,g,rfl,hO,hH⟩,fun _ h=>h⟩
theorem gKeys_ (mb:Nat) (W0:World) (H:List Grp):Tri Tryz.prog 33 #[.map (some mb)] W0 H (fun v H'=>∃ b,v=.func (.func 50) #[] #[.pointer (some ⟨b,0,none⟩)]∧H'=[(b,.cells #[.map (some mb)] 43 (0,0))]::H):=by
 refine D4 4 Tryz.func33 ?_
 refine A1 (A2 (G4 (.map (some mb)) (fun b1=>A6 (E':=[⟨1,[],pt b1⟩]) [0] [1] (k:=A0 (A1 (C4 (E':=[⟨2,[],.func (.func 50) #[] #[pt b1]⟩]) [0,0] [2] (k:=A0 (B0 ?_))))))))
 refine B6 [.tmp 2] [.func (.func 50) #[] #[pt b1]] (k:=?_)
 exact ⟨_,rfl,rfl⟩
theorem names_ (tx nm:ByteArray) (hnz:nm.size≤1000) (cb mb rb:Nat) (W0:World) (H:List Grp):Tri Tryz.prog 19 #[pt cb] W0 ([(cb,.cells #[.map (some mb)] 45 (0,0))]::[(mb,.map (B5 ([(nm,.agg #[.string tx,.map (some rb)],0)])) 1)]::H) (fun v H'=>∃ sa sc sg,v=.slice sa 1 sc∧Go.Sw.Own 9 1 (.slice sa 1 sc) sg 1 [.string nm]∧H'=sg::[(cb,.cells #[.map (some mb)] 45 (0,0))]::[(mb,.map (B5 ([(nm,.agg #[.string tx,.map (some rb)],0)])) 1)]::H):=by
 refine D4 11 Tryz.func19 ?_
 refine A1 (C4 (E':=[⟨0,[],pt cb⟩]) [0] [0] (k:=A0 (A1 (A1 (C4 (E':=[⟨0,[],pt cb⟩,⟨4,[],.bool false⟩]) [0,0] [0,4] (k:=A0 (C2 kr (A8 ?_))))))))
 refine A0 (A1 (A2 (A3 (j:=3) [0,0,0] (k:=B8 0 0 rfl rfl (C3 Tryz.func33 (gKeys_ mb _ _) ?_)))))
 rintro _ _ ⟨kb1,rfl,rfl⟩
 refine J6 0 [0,1] (C3 Tryz.func32 (sorted1 nm (.agg #[.string tx,.map (some rb)]) hnz mb kb1 _ _) ?_)
 rintro _ _ ⟨sa,sc,sg,rfl,hO,rfl⟩
 refine A6 (E':=[⟨2,[],.slice sa 1 sc⟩]) [0] [2] (k:=A0 (B0 (N_pk 1 [0,2,1] (B6 [.tmp 2] [.slice sa 1 sc] (k:=?_)))))
 exact ⟨_,_,_,rfl,hO,(by kernel_rfl)⟩
theorem get1 (k:ByteArray) (v:Value):mget [(k,v,0)] k=some v:=by rw [G0,if_pos (baEq.2 rfl)]
theorem stale1_ (tx was nm:ByteArray) (cb mb rb:Nat) (c2 c3:Nat) (x:JV) (an:Option Addr) (cn:Nat) (al:Option Addr) (cl:Nat) (cs:List Value) (S:Nat→Obj→Prop) (hrn:Rd S an (strV x.names)) (hrl:Rd S al cs) (hrc:JRdL S x.list cs) (hcl:x.list.length≤cl) (hcn:cnJ x≤1000000000) (hk5:x.kind≠5) (p:UInt8) (hp:p≠47) (hfl:Flat (atJ x [p])) (hft:(bk (atJ x [p]).text).size≤4611686018427387904) (W0:World) (H:List Grp) (hS:∀ y o,S y o→At W0 H y o) (hX:K6 W0):Tri Tryz.prog 20 #[.string nm,pt c2,pt c3] W0 ([(c2,.cells #[pt cb] 24 (0,0))]::[(c3,.cells #[.int .i64 x.kind,.string (bk x.text),.slice an x.names.length cn,.slice al x.list.length cl] 30 (0,0))]::[(cb,.cells #[.map (some mb)] 45 (0,0))]::[(mb,.map (B5 ([(nm,.agg #[.string tx,.map (some rb)],0)])) 1)]::[(rb,.map (B5 ([(plB p,.string was,0)])) 1)]::H) (fun v H'=>v=.bool (decide (shB (atJ x [p])=was))∧H'=([(c2,.cells #[pt cb] 24 (0,0))]::[(c3,.cells #[.int .i64 x.kind,.string (bk x.text),.slice an x.names.length cn,.slice al x.list.length cl] 30 (0,0))]::[(cb,.cells #[.map (some mb)] 45 (0,0))]::[(mb,.map (B5 ([(nm,.agg #[.string tx,.map (some rb)],0)])) 1)]::[(rb,.map (B5 ([(plB p,.string was,0)])) 1)]::H)):=by
 refine D4 15 Tryz.func20 ?_
 refine A1 (G_p [0] [0,1,2] (k:=A0 (A1 (A2 (B8 0 0 rfl rfl (A3 (j:=2) [0] (k:=F1 1 0 4 rfl (J6 0 [2,2,2] ?_))))))))
 refine C3 (vs:=[pt cb,.string nm,.agg #[.int .i64 x.kind,.string (bk x.text),.slice an x.names.length cn,.slice al x.list.length cl]]) Tryz.func8 (get_ cb mb _ _ nm tx was rb (get1 nm _) x an cn al cl cs S hrn hrl hrc hcl hcn hk5 p hp hfl hft _ _ (fun y o h=>At.cons (At.cons (hS y o h))) hX) ?_
 rintro _ _ ⟨rfl,rfl⟩
 refine A7 [0,0,0,0,0] [6] (k:=A0 (A1 (G_p [0,0] [4] (k:=A0 (B0 (N_pk 0 [3,3,0,0,0] (B6 [.tmp 4] [.bool (decide (shB (atJ x [p])=was))] (k:=?_))))))))
 exact ⟨rfl,(by kernel_rfl)⟩
theorem indexY_ (tx was nm:ByteArray) (cb mb rb:Nat) (sa:Option Addr) (sc:Nat) (sg:Grp) (hO:Go.Sw.Own 9 1 (.slice sa 1 sc) sg 1 [.string nm]) (c2 c3:Nat) (x:JV) (an:Option Addr) (cn:Nat) (al:Option Addr) (cl:Nat) (cs:List Value) (S:Nat→Obj→Prop) (hrn:Rd S an (strV x.names)) (hrl:Rd S al cs) (hrc:JRdL S x.list cs) (hcl:x.list.length≤cl) (hcn:cnJ x≤1000000000) (hk5:x.kind≠5) (p:UInt8) (hp:p≠47) (hfl:Flat (atJ x [p])) (hft:(bk (atJ x [p]).text).size≤4611686018427387904) (hF:(decide (shB (atJ x [p])=was))=true) (W0:World) (H:List Grp) (hS:∀ y o,S y o→At W0 H y o) (hX:K6 W0):Tri Tryz.prog 31 #[.slice sa 1 sc,.func (.func 20) #[] #[pt c2,pt c3]] W0 (sg::[(c2,.cells #[pt cb] 24 (0,0))]::[(c3,.cells #[.int .i64 x.kind,.string (bk x.text),.slice an x.names.length cn,.slice al x.list.length cl] 30 (0,0))]::[(cb,.cells #[.map (some mb)] 45 (0,0))]::[(mb,.map (B5 ([(nm,.agg #[.string tx,.map (some rb)],0)])) 1)]::[(rb,.map (B5 ([(plB p,.string was,0)])) 1)]::H) (fun v H'=>v=.int .i64 0∧H'=(sg::[(c2,.cells #[pt cb] 24 (0,0))]::[(c3,.cells #[.int .i64 x.kind,.string (bk x.text),.slice an x.names.length cn,.slice al x.list.length cl] 30 (0,0))]::[(cb,.cells #[.map (some mb)] 45 (0,0))]::[(mb,.map (B5 ([(nm,.agg #[.string tx,.map (some rb)],0)])) 1)]::[(rb,.map (B5 ([(plB p,.string was,0)])) 1)]::H)):=by
 refine D4 19 Tryz.func31 ?_
 refine A1 (G_p [0] [0,1] (k:=A0 (A1 (A1 (G_p [0,0,0] [0,1,7,8] (k:=A0 (C8 (L3 2 ?_))))))))
 refine F3 (A1 (G_p [0] [0,1,7,8,9] (k:=A0 (A1 (D3 kr (A8 (A0 (A1 ?_))))))))
 refine C8 (A1 (G_p [0,0] [0,1,5,7,8] (k:=A0 (A1 (A2 (A3 (j:=3) [0,0,0] (k:=GL_iq (a:=sa) (S:=(inG sg)) (cs:=[.string nm]) 1 0 1 (own_rd hO) (by exact ⟨by omega,by omega,List.cons_ne_nil _ _⟩) (GL_lsq (a:=sa) (S:=(inG sg)) (cs:=[.string nm]) (0 * 1) (.string nm) (own_rd hO) (H7 0 rfl) (fun _=>rfl) ?_))))))))
 refine J6 0 [1,1,1,1,1] (GL_call (ch:=[]) (f:=20) (fst:=#[]) (caps:=#[pt c2,pt c3]) (vs:=[.string nm]) (hf:=Tryz.func20) (hsure:=K3 kr) (hc:=stale1_ tx was nm cb mb rb c2 c3 x an cn al cl cs S hrn hrl hrc hcl hcn hk5 p hp hfl hft _ _ (fun y o h=>At.cons (hS y o h)) hX) (k:=?_))
 rintro _ _ ⟨rfl,rfl⟩
 rw [hF]
 refine A7 [] [0,1,5,7,8,16] (k:=A0 (D3 kr (A1 (C4 (E':=[⟨4,[],.int .i64 0⟩]) [0,0] [4] (k:=A0 (B0 (B4 (A5 ?_))))))))
 refine A5 (B4 (A5 (N_pk 0 [5,0,0,0,0,0] (B6 [.tmp 4] [.int .i64 0] (k:=?_)))))
 exact ⟨rfl,(by kernel_rfl)⟩
theorem delfY_ (tx was nm:ByteArray) (cb mb rb:Nat) (sa:Option Addr) (sc:Nat) (sg:Grp) (hO:Go.Sw.Own 9 1 (.slice sa 1 sc) sg 1 [.string nm]) (c2 c3:Nat) (x:JV) (an:Option Addr) (cn:Nat) (al:Option Addr) (cl:Nat) (cs:List Value) (S:Nat→Obj→Prop) (hrn:Rd S an (strV x.names)) (hrl:Rd S al cs) (hrc:JRdL S x.list cs) (hcl:x.list.length≤cl) (hcn:cnJ x≤1000000000) (hk5:x.kind≠5) (p:UInt8) (hp:p≠47) (hfl:Flat (atJ x [p])) (hft:(bk (atJ x [p]).text).size≤4611686018427387904) (hF:(decide (shB (atJ x [p])=was))=true) (W0:World) (H:List Grp) (hS:∀ y o,S y o→At W0 H y o) (hX:K6 W0):Tri Tryz.prog 18 #[.slice sa 1 sc,.func (.func 20) #[] #[pt c2,pt c3]] W0 (sg::[(c2,.cells #[pt cb] 24 (0,0))]::[(c3,.cells #[.int .i64 x.kind,.string (bk x.text),.slice an x.names.length cn,.slice al x.list.length cl] 30 (0,0))]::[(cb,.cells #[.map (some mb)] 45 (0,0))]::[(mb,.map (B5 ([(nm,.agg #[.string tx,.map (some rb)],0)])) 1)]::[(rb,.map (B5 ([(plB p,.string was,0)])) 1)]::H) (fun v H'=>∃ g2,v=.slice sa 0 sc∧H'=g2::[(c2,.cells #[pt cb] 24 (0,0))]::[(c3,.cells #[.int .i64 x.kind,.string (bk x.text),.slice an x.names.length cn,.slice al x.list.length cl] 30 (0,0))]::[(cb,.cells #[.map (some mb)] 45 (0,0))]::[(mb,.map (B5 ([(nm,.agg #[.string tx,.map (some rb)],0)])) 1)]::[(rb,.map (B5 ([(plB p,.string was,0)])) 1)]::H):=by
 refine D4 42 Tryz.func18 ?_
 refine A1 (G_p [0] [0,1] (k:=A0 (A1 (A2 (A3 (j:=2) [0,0] (k:=C3 Tryz.func31 (indexY_ tx was nm cb mb rb sa sc sg hO c2 c3 x an cn al cl cs S hrn hrl hrc hcl hcn hk5 p hp hfl hft hF _ _ (fun y o h=>hS y o h) hX) ?_))))))
 rintro _ _ ⟨rfl,rfl⟩
 refine A7 [0] [0,1,5] (k:=A0 (A1 (A1 (G_p [0,0] [0,1,5,12] (k:=A0 (C2 kr (A8 (A0 ?_))))))))
 refine A1 (A1 (G_p [0,0,0] [0,1,5,6] (k:=A0 (C8 (L3 1 (F3 (A1 (A1 ?_))))))))
 refine G_p [0,0,0,0] [0,1,5,6,19] (k:=A0 (C2 kr (I3 (B3 (B3 (C6 (A0 (A1 ?_))))))))
 refine A2 (A3 (j:=2) [0,0] (k:=GL_sliceL (ch:=[]) (a:=sa) (len:=1) (cap:=sc) (e:=9) (sz:=1) (vl:=(some (.int .i64 0))) (vh:=none) (l:=0) (h:=1) (hb:=(by intro _; have:=own_cap hO; exact ⟨by omega,by omega,by omega⟩)) (k:=D2 38 (x:=.slice (cutA sa sc 0 1) (1 - 0) (sc - 0)) (y:=.slice sa 1 sc) (by rw [cutA_zero]; rfl) (GL_clearO (i:=3) (ch:=[]) (t:=22) (e:=9) (ts:=#[22]) (a:=sa) (len:=1) (cap:=sc) (cs:=[.string nm]) (g:=sg) (j:=0) (z:=.string eB) (zc:=.string eB) rfl rfl rfl rfl rfl kr kr kr rfl rfl kr kr kr rfl hO (fun sg1 hO2=>?_)))))
 refine A6 (E':=[⟨0,[],.slice sa 1 sc⟩,⟨5,[],.int .i64 0⟩]) [] [0,5] (k:=A0 (A1 (A2 (A3 (j:=2) [0,0] (k:=GL_sliceL (ch:=[]) (a:=sa) (len:=1) (cap:=sc) (e:=9) (sz:=1) (vl:=none) (vh:=(some (.int .i64 0))) (l:=0) (h:=0) (hb:=(by intro _; have:=own_cap hO; exact ⟨by omega,by omega,by omega⟩)) (k:=D2 41 (x:=.slice (cutA sa sc 0 1) (0 - 0) (sc - 0)) (y:=.slice sa 0 sc) (by rw [cutA_zero]; rfl) (A6 (E':=[⟨4,[],.slice sa 0 sc⟩]) [0] [4] (k:=A0 ?_))))))))
 refine B0 (B6 [.tmp 4] [.slice sa 0 sc] (k:=?_))
 exact ⟨sg1,rfl,(by kernel_rfl)⟩
theorem staleY_ (tx was nm:ByteArray) (cb mb rb:Nat) (x:JV) (an:Option Addr) (cn:Nat) (al:Option Addr) (cl:Nat) (cs:List Value) (S:Nat→Obj→Prop) (hrn:Rd S an (strV x.names)) (hrl:Rd S al cs) (hrc:JRdL S x.list cs) (hcl:x.list.length≤cl) (hcn:cnJ x≤1000000000) (hk5:x.kind≠5) (p:UInt8) (hp:p≠47) (hfl:Flat (atJ x [p])) (hft:(bk (atJ x [p]).text).size≤4611686018427387904) (hnz:nm.size≤1000) (hF:(decide (shB (atJ x [p])=was))=true) (W0:World) (H:List Grp) (hS:∀ y o,S y o→At W0 H y o) (hX:K6 W0):Tri Tryz.prog 11 #[pt cb,.agg #[.int .i64 x.kind,.string (bk x.text),.slice an x.names.length cn,.slice al x.list.length cl]] W0 ([(cb,.cells #[.map (some mb)] 45 (0,0))]::[(mb,.map (B5 ([(nm,.agg #[.string tx,.map (some rb)],0)])) 1)]::[(rb,.map (B5 ([(plB p,.string was,0)])) 1)]::H) (fun v H'=>∃ sa sc,v=.slice sa 0 sc∧H'=[(cb,.cells #[.map (some mb)] 45 (0,0))]::[(mb,.map (B5 ([(nm,.agg #[.string tx,.map (some rb)],0)])) 1)]::[(rb,.map (B5 ([(plB p,.string was,0)])) 1)]::H):=by
 refine D4 9 Tryz.func11 ?_
 refine A1 (A2 (G4 (pt cb) (fun b1=>G4 (.agg #[.int .i64 x.kind,.string (bk x.text),.slice an x.names.length cn,.slice al x.list.length cl]) (fun b2=>?_))))
 refine A6 (E':=[⟨2,[],pt b1⟩,⟨3,[],pt b2⟩]) [0] [2,3] (k:=A0 (A1 (A2 (B8 1 0 rfl rfl (J6 0 [2,2] (C3 Tryz.func19 (names_ tx nm hnz cb mb rb _ _) ?_))))))
 rintro _ _ ⟨sa,sc,sg,rfl,hO,rfl⟩
 refine A3 (j:=3) [0] (k:=J6 0 [0,3,2] (C3 Tryz.func18 (delfY_ tx was nm cb mb rb sa sc sg hO b1 b2 x an cn al cl cs S hrn hrl hrc hcl hcn hk5 p hp hfl hft hF _ _ (fun y o h=>hS y o h) hX) ?_))
 rintro _ _ ⟨dg3,rfl,rfl⟩
 refine A6 (E':=[⟨4,[],.slice sa 0 sc⟩]) [0] [4] (k:=A0 (B0 (N_pk 3 [3,3,3] (B6 [.tmp 4] [.slice sa 0 sc] (k:=?_)))))
 exact ⟨_,_,rfl,(by kernel_rfl)⟩
theorem indexN_ (tx was nm:ByteArray) (cb mb rb:Nat) (sa:Option Addr) (sc:Nat) (sg:Grp) (hO:Go.Sw.Own 9 1 (.slice sa 1 sc) sg 1 [.string nm]) (c2 c3:Nat) (x:JV) (an:Option Addr) (cn:Nat) (al:Option Addr) (cl:Nat) (cs:List Value) (S:Nat→Obj→Prop) (hrn:Rd S an (strV x.names)) (hrl:Rd S al cs) (hrc:JRdL S x.list cs) (hcl:x.list.length≤cl) (hcn:cnJ x≤1000000000) (hk5:x.kind≠5) (p:UInt8) (hp:p≠47) (hfl:Flat (atJ x [p])) (hft:(bk (atJ x [p]).text).size≤4611686018427387904) (hF:(decide (shB (atJ x [p])=was))=false) (W0:World) (H:List Grp) (hS:∀ y o,S y o→At W0 H y o) (hX:K6 W0):Tri Tryz.prog 31 #[.slice sa 1 sc,.func (.func 20) #[] #[pt c2,pt c3]] W0 (sg::[(c2,.cells #[pt cb] 24 (0,0))]::[(c3,.cells #[.int .i64 x.kind,.string (bk x.text),.slice an x.names.length cn,.slice al x.list.length cl] 30 (0,0))]::[(cb,.cells #[.map (some mb)] 45 (0,0))]::[(mb,.map (B5 ([(nm,.agg #[.string tx,.map (some rb)],0)])) 1)]::[(rb,.map (B5 ([(plB p,.string was,0)])) 1)]::H) (fun v H'=>v=.int .i64 (-1)∧H'=(sg::[(c2,.cells #[pt cb] 24 (0,0))]::[(c3,.cells #[.int .i64 x.kind,.string (bk x.text),.slice an x.names.length cn,.slice al x.list.length cl] 30 (0,0))]::[(cb,.cells #[.map (some mb)] 45 (0,0))]::[(mb,.map (B5 ([(nm,.agg #[.string tx,.map (some rb)],0)])) 1)]::[(rb,.map (B5 ([(plB p,.string was,0)])) 1)]::H)):=by
 refine D4 19 Tryz.func31 ?_
 refine A1 (G_p [0] [0,1] (k:=A0 (A1 (A1 (G_p [0,0,0] [0,1,7,8] (k:=A0 (C8 (L3 2 ?_))))))))
 refine F3 (A1 (G_p [0] [0,1,7,8,9] (k:=A0 (A1 (D3 kr (A8 (A0 (A1 ?_))))))))
 refine C8 (A1 (G_p [0,0] [0,1,5,7,8] (k:=A0 (A1 (A2 (A3 (j:=3) [0,0,0] (k:=GL_iq (a:=sa) (S:=(inG sg)) (cs:=[.string nm]) 1 0 1 (own_rd hO) (by exact ⟨by omega,by omega,List.cons_ne_nil _ _⟩) (GL_lsq (a:=sa) (S:=(inG sg)) (cs:=[.string nm]) (0 * 1) (.string nm) (own_rd hO) (H7 0 rfl) (fun _=>rfl) ?_))))))))
 refine J6 0 [1,1,1,1,1] (GL_call (ch:=[]) (f:=20) (fst:=#[]) (caps:=#[pt c2,pt c3]) (vs:=[.string nm]) (hf:=Tryz.func20) (hsure:=K3 kr) (hc:=stale1_ tx was nm cb mb rb c2 c3 x an cn al cl cs S hrn hrl hrc hcl hcn hk5 p hp hfl hft _ _ (fun y o h=>At.cons (hS y o h)) hX) (k:=?_))
 rintro _ _ ⟨rfl,rfl⟩
 rw [hF]
 refine A7 [] [0,1,5,7,8,16] (k:=A0 (C2 kr (A8 (D8 (A0 (C4 (E':=[⟨0,[],.slice sa 1 sc⟩,⟨1,[],.func (.func 20) #[] #[pt c2,pt c3]⟩,⟨7,[],.int .i64 1⟩,⟨8,[],.int .i64 1⟩]) [0,0] [0,1,7,8] (k:=N_rd (F3 ?_))))))))
 refine A1 (G_p [0] [0,1,7,8,9] (k:=A0 (A1 (C2 kr (I3 (B3 (B3 (C6 ?_))))))))
 refine A0 (A1 (C4 (E':=[⟨4,[],.int .i64 (-1)⟩]) [0] [4] (k:=A0 (B0 (N_pk 0 [5,0,0,0,0,0] (B6 [.tmp 4] [.int .i64 (-1)] (k:=?_)))))))
 exact ⟨rfl,(by kernel_rfl)⟩
theorem delfN_ (tx was nm:ByteArray) (cb mb rb:Nat) (sa:Option Addr) (sc:Nat) (sg:Grp) (hO:Go.Sw.Own 9 1 (.slice sa 1 sc) sg 1 [.string nm]) (c2 c3:Nat) (x:JV) (an:Option Addr) (cn:Nat) (al:Option Addr) (cl:Nat) (cs:List Value) (S:Nat→Obj→Prop) (hrn:Rd S an (strV x.names)) (hrl:Rd S al cs) (hrc:JRdL S x.list cs) (hcl:x.list.length≤cl) (hcn:cnJ x≤1000000000) (hk5:x.kind≠5) (p:UInt8) (hp:p≠47) (hfl:Flat (atJ x [p])) (hft:(bk (atJ x [p]).text).size≤4611686018427387904) (hF:(decide (shB (atJ x [p])=was))=false) (W0:World) (H:List Grp) (hS:∀ y o,S y o→At W0 H y o) (hX:K6 W0):Tri Tryz.prog 18 #[.slice sa 1 sc,.func (.func 20) #[] #[pt c2,pt c3]] W0 (sg::[(c2,.cells #[pt cb] 24 (0,0))]::[(c3,.cells #[.int .i64 x.kind,.string (bk x.text),.slice an x.names.length cn,.slice al x.list.length cl] 30 (0,0))]::[(cb,.cells #[.map (some mb)] 45 (0,0))]::[(mb,.map (B5 ([(nm,.agg #[.string tx,.map (some rb)],0)])) 1)]::[(rb,.map (B5 ([(plB p,.string was,0)])) 1)]::H) (fun v H'=>∃ g2,v=.slice sa 1 sc∧g2=sg∧H'=g2::[(c2,.cells #[pt cb] 24 (0,0))]::[(c3,.cells #[.int .i64 x.kind,.string (bk x.text),.slice an x.names.length cn,.slice al x.list.length cl] 30 (0,0))]::[(cb,.cells #[.map (some mb)] 45 (0,0))]::[(mb,.map (B5 ([(nm,.agg #[.string tx,.map (some rb)],0)])) 1)]::[(rb,.map (B5 ([(plB p,.string was,0)])) 1)]::H):=by
 refine D4 42 Tryz.func18 ?_
 refine A1 (G_p [0] [0,1] (k:=A0 (A1 (A2 (A3 (j:=2) [0,0] (k:=C3 Tryz.func31 (indexN_ tx was nm cb mb rb sa sc sg hO c2 c3 x an cn al cl cs S hrn hrl hrc hcl hcn hk5 p hp hfl hft hF _ _ (fun y o h=>hS y o h) hX) ?_))))))
 rintro _ _ ⟨rfl,rfl⟩
 refine A7 [0] [0,1,5] (k:=A0 (A1 (A1 (G_p [0,0] [0,1,5,12] (k:=A0 (D3 kr (A1 (C4 (E':=[⟨4,[],.slice sa 1 sc⟩]) [0,0] [4] (k:=?_)))))))))
 refine A0 (B0 (A5 (B6 [.tmp 4] [.slice sa 1 sc] (k:=?_))))
 exact ⟨_,rfl,rfl,(by kernel_rfl)⟩
theorem staleN_ (tx was nm:ByteArray) (cb mb rb:Nat) (x:JV) (an:Option Addr) (cn:Nat) (al:Option Addr) (cl:Nat) (cs:List Value) (S:Nat→Obj→Prop) (hrn:Rd S an (strV x.names)) (hrl:Rd S al cs) (hrc:JRdL S x.list cs) (hcl:x.list.length≤cl) (hcn:cnJ x≤1000000000) (hk5:x.kind≠5) (p:UInt8) (hp:p≠47) (hfl:Flat (atJ x [p])) (hft:(bk (atJ x [p]).text).size≤4611686018427387904) (hnz:nm.size≤1000) (hF:(decide (shB (atJ x [p])=was))=false) (W0:World) (H:List Grp) (hS:∀ y o,S y o→At W0 H y o) (hX:K6 W0):Tri Tryz.prog 11 #[pt cb,.agg #[.int .i64 x.kind,.string (bk x.text),.slice an x.names.length cn,.slice al x.list.length cl]] W0 ([(cb,.cells #[.map (some mb)] 45 (0,0))]::[(mb,.map (B5 ([(nm,.agg #[.string tx,.map (some rb)],0)])) 1)]::[(rb,.map (B5 ([(plB p,.string was,0)])) 1)]::H) (fun v H'=>∃ sa sc sg,v=.slice sa 1 sc∧Go.Sw.Own 9 1 (.slice sa 1 sc) sg 1 [.string nm]∧H'=sg::[(cb,.cells #[.map (some mb)] 45 (0,0))]::[(mb,.map (B5 ([(nm,.agg #[.string tx,.map (some rb)],0)])) 1)]::[(rb,.map (B5 ([(plB p,.string was,0)])) 1)]::H):=by
 refine D4 9 Tryz.func11 ?_
 refine A1 (A2 (G4 (pt cb) (fun b1=>G4 (.agg #[.int .i64 x.kind,.string (bk x.text),.slice an x.names.length cn,.slice al x.list.length cl]) (fun b2=>?_))))
 refine A6 (E':=[⟨2,[],pt b1⟩,⟨3,[],pt b2⟩]) [0] [2,3] (k:=A0 (A1 (A2 (B8 1 0 rfl rfl (J6 0 [2,2] (C3 Tryz.func19 (names_ tx nm hnz cb mb rb _ _) ?_))))))
 rintro _ _ ⟨sa,sc,sg,rfl,hO,rfl⟩
 refine A3 (j:=3) [0] (k:=J6 0 [0,3,2] (C3 Tryz.func18 (delfN_ tx was nm cb mb rb sa sc sg hO b1 b2 x an cn al cl cs S hrn hrl hrc hcl hcn hk5 p hp hfl hft hF _ _ (fun y o h=>hS y o h) hX) ?_))
 rintro _ _ ⟨dg3,rfl,rfl,rfl⟩
 refine A6 (E':=[⟨4,[],.slice sa 1 sc⟩]) [0] [4] (k:=A0 (B0 (N_pk 2 [0,2,2,2] (B6 [.tmp 4] [.slice sa 1 sc] (k:=?_)))))
 exact ⟨_,_,_,rfl,hO,(by kernel_rfl)⟩
theorem same1_ (a1 a2:Option Addr) (n1 n2:Nat) (s:ByteArray) (S1 S2:Nat→Obj→Prop) (h1:Rd S1 a1 [.string s]) (h2:Rd S2 a2 [.string s]) (W0:World) (H:List Grp) (hS1:∀ y o,S1 y o→At W0 H y o) (hS2:∀ y o,S2 y o→At W0 H y o):Tri Tryz.prog 10 #[.slice a1 1 n1,.slice a2 1 n2] W0 H (fun v H'=>v=.bool true∧H'=H):=by
 refine D4 26 Tryz.func10 ?_
 refine A1 (G_p [0] [0,1] (k:=A0 (A1 (A1 (G_p [0,0,0,0,0] [0,1,10] (k:=A0 (C2 kr (A8 ?_))))))))
 refine A0 (A1 (A1 (G_p [0,0,0] [0,1,12,13] (k:=A0 (C8 (L3 2 (F3 (A1 ?_))))))))
 refine G_p [0] [0,1,12,13,14] (k:=A0 (A1 (D3 kr (A8 (A0 (A1 (C8 (A1 ?_))))))))
 refine G_p [0,0] [0,1,5,12,13] (k:=A0 (A1 (G_regionD (k:=A3 (j:=2) [0,0] (k:=GL_iq 1 0 1 h1 (by exact ⟨by omega,by omega,List.cons_ne_nil _ _⟩) (GL_lsq (0 * 1) (.string s) h1 (fun y o h=>(hS1 y o h)) (fun _=>rfl) (A3 (j:=6) [0,0] (k:=GL_iq 1 0 1 h2 (by exact ⟨by omega,by omega,List.cons_ne_nil _ _⟩) ?_))))))))
 refine GL_lsq (0 * 1) (.string s) h2 (fun y o h=>(hS2 y o h)) (fun _=>rfl) (A3 (j:=9) [0] (k:=D2 24 (x:=.bool (!(s.toList==s.toList))) (y:=.bool false) (by rw [beq_self_eq_true]; rfl) (A6 (E':=[⟨0,[],.slice a1 1 n1⟩,⟨1,[],.slice a2 1 n2⟩,⟨12,[],.int .i64 1⟩,⟨13,[],.int .i64 0⟩,⟨24,[],.bool false⟩]) [] [0,1,12,13,24] (k:=A0 (C2 kr (A8 (D8 (A0 ?_))))))))
 refine G_p [0,0] [0,1,12,13] (k:=N_rd (F3 (A1 (G_p [0] [0,1,12,13,14] (k:=A0 (A1 (C2 kr (I3 ?_))))))))
 refine B3 (B3 (C6 (A0 (A1 (C4 (E':=[⟨4,[],.bool true⟩]) [0] [4] (k:=A0 (B0 (B6 [.tmp 4] [.bool true] (k:=?_)))))))))
 exact ⟨rfl,rfl⟩
end Go.Proofs.YtmnihmfifpaaoaaGreatDoor
namespace Go.Proofs.YtmnihmfifpaaoaaGreatDoor
open Go.Sw Go.Sha Go.Esc Go.RowKit Go.Json Go.Xml Go.Gr
theorem rd_cast {S:Nat→Obj→Prop} {a:Option Addr} {cs cs':List Value} (h:Rd S a cs) (he:cs=cs'):Rd S a cs':=he ▸ h
theorem jrep_cl {ts tj:TypeId} {x:JV} {an al:Option Addr} {cn cl:Nat} {g:Grp} (h:JRep ts tj x (jvC x an cn al cl) g):x.list.length≤cl:=by
  cases h with
  | mk h1 h2 h3=>exact own_cap h2
theorem jv_open {S:Nat→Obj→Prop} {x:JV} {an al:Option Addr} {cn cl:Nat} (h:JRd S x (jvC x an cn al cl)):∃ cs,Rd S an (strV x.names)∧Rd S al cs∧JRdL S x.list cs:=by
  obtain ⟨an',al',cn',cl',cs,e,a1,a2,a3⟩:=h.shape
  unfold jvC at e
  injection e with _ e; injection e with _ e; injection e with e1 e; injection e with e2 _; injection e1 with e1 _ e1'; injection e2 with e2 _ e2'
  subst e1 e1' e2 e2'
  exact ⟨cs,a1,a2,a3⟩
structure GOk (x:JV) (cl:Nat) (p:UInt8):Prop where
  hcl:x.list.length≤cl
  hcn:cnJ x≤1000000000
  hk5:x.kind≠5
  hp:p≠47
  hfl:Flat (atJ x [p])
  hft:(bk (atJ x [p]).text).size≤4611686018427387904
theorem putV (cb mb:Nat) (ms:SM) (mc:Nat) (name tx:ByteArray) (sb:Nat) (z:Int) (x:JV) (an:Option Addr) (cn:Nat) (al:Option Addr) (cl:Nat) (p:UInt8) (S:Nat→Obj→Prop) (h:JRd S x (jvC x an cn al cl)) (ho:GOk x cl p) (W0:World) (H:List Grp) (hS:∀ y o,S y o→At W0 H y o) (hX:K6 W0) :
    Tri Tryz.prog 6 #[pt cb,.string name,.agg (jvC x an cn al cl).toArray,.agg #[.string tx,.slice (some ⟨sb,0,none⟩) 1 1,.int .i64 z]] W0 ([(cb,.cells #[.map (some mb)] 45 (0,0))]::[(mb,.map (B5 ms) mc)]::[(sb,.cells #[.string (plB p)] 9 (0,0))]::H)
      (fun v H'=>∃ rb,v=.tuple #[]∧H'=[(rb,.map (B5 [(plB p,.string (shB (atJ x [p])),0)]) 1)]::[(cb,.cells #[.map (some mb)] 45 (0,0))]::[(mb,.map (B5 (mput ms mc name (.agg #[.string tx,.map (some rb)]))) (if mhas ms name then mc else mc+1))]::[(sb,.cells #[.string (plB p)] 9 (0,0))]::H):=by
  obtain ⟨cs,a1,a2,a3⟩:=jv_open h
  exact put_ cb mb ms mc name tx sb z x an cn al cl cs S a1 a2 a3 ho.hcl ho.hcn ho.hk5 p ho.hp ho.hfl ho.hft W0 H hS hX
theorem getV (F:Bool) (cb mb:Nat) (ms:SM) (mc:Nat) (name tx:ByteArray) (rb:Nat) (was:ByteArray) (hg:mget ms name=some (.agg #[.string tx,.map (some rb)])) (x:JV) (an:Option Addr) (cn:Nat) (al:Option Addr) (cl:Nat) (p:UInt8) (S:Nat→Obj→Prop) (h:JRd S x (jvC x an cn al cl)) (ho:GOk x cl p) (hF:decide (shB (atJ x [p])=was)=F) (W0:World) (H:List Grp) (hS:∀ y o,S y o→At W0 H y o) (hX:K6 W0) :
    Tri Tryz.prog 8 #[pt cb,.string name,.agg (jvC x an cn al cl).toArray] W0 ([(cb,.cells #[.map (some mb)] 45 (0,0))]::[(mb,.map (B5 ms) mc)]::[(rb,.map (B5 [(plB p,.string was,0)]) 1)]::H)
      (fun v H'=>v=.tuple #[.string (bif F then tx else ByteArray.mk #[]),.bool F]∧H'=[(cb,.cells #[.map (some mb)] 45 (0,0))]::[(mb,.map (B5 ms) mc)]::[(rb,.map (B5 [(plB p,.string was,0)]) 1)]::H):=by
  obtain ⟨cs,a1,a2,a3⟩:=jv_open h
  have:=get_ cb mb ms mc name tx was rb hg x an cn al cl cs S a1 a2 a3 ho.hcl ho.hcn ho.hk5 p ho.hp ho.hfl ho.hft W0 H hS hX
  rw [hF] at this
  cases F
  · rwa [if_neg (of_decide_eq_false hF)] at this
  · rwa [if_pos (of_decide_eq_true hF)] at this
theorem staleVY (tx was nm:ByteArray) (cb mb rb:Nat) (hnz:nm.size≤1000) (x:JV) (an:Option Addr) (cn:Nat) (al:Option Addr) (cl:Nat) (p:UInt8) (S:Nat→Obj→Prop) (h:JRd S x (jvC x an cn al cl)) (ho:GOk x cl p) (hF:decide (shB (atJ x [p])=was)=true) (W0:World) (H:List Grp) (hS:∀ y o,S y o→At W0 H y o) (hX:K6 W0) :
    Tri Tryz.prog 11 #[pt cb,.agg (jvC x an cn al cl).toArray] W0 ([(cb,.cells #[.map (some mb)] 45 (0,0))]::[(mb,.map (B5 [(nm,.agg #[.string tx,.map (some rb)],0)]) 1)]::[(rb,.map (B5 [(plB p,.string was,0)]) 1)]::H)
      (fun v H'=>∃ sa sc,v=.slice sa 0 sc∧H'=[(cb,.cells #[.map (some mb)] 45 (0,0))]::[(mb,.map (B5 [(nm,.agg #[.string tx,.map (some rb)],0)]) 1)]::[(rb,.map (B5 [(plB p,.string was,0)]) 1)]::H):=by
  obtain ⟨cs,a1,a2,a3⟩:=jv_open h
  exact staleY_ tx was nm cb mb rb x an cn al cl cs S a1 a2 a3 ho.hcl ho.hcn ho.hk5 p ho.hp ho.hfl ho.hft hnz hF W0 H hS hX
theorem staleVN (tx was nm:ByteArray) (cb mb rb:Nat) (hnz:nm.size≤1000) (x:JV) (an:Option Addr) (cn:Nat) (al:Option Addr) (cl:Nat) (p:UInt8) (S:Nat→Obj→Prop) (h:JRd S x (jvC x an cn al cl)) (ho:GOk x cl p) (hF:decide (shB (atJ x [p])=was)=false) (W0:World) (H:List Grp) (hS:∀ y o,S y o→At W0 H y o) (hX:K6 W0) :
    Tri Tryz.prog 11 #[pt cb,.agg (jvC x an cn al cl).toArray] W0 ([(cb,.cells #[.map (some mb)] 45 (0,0))]::[(mb,.map (B5 [(nm,.agg #[.string tx,.map (some rb)],0)]) 1)]::[(rb,.map (B5 [(plB p,.string was,0)]) 1)]::H)
      (fun v H'=>∃ sa sc sg,v=.slice sa 1 sc∧Go.Sw.Own 9 1 (.slice sa 1 sc) sg 1 [.string nm]∧H'=sg::[(cb,.cells #[.map (some mb)] 45 (0,0))]::[(mb,.map (B5 [(nm,.agg #[.string tx,.map (some rb)],0)]) 1)]::[(rb,.map (B5 [(plB p,.string was,0)]) 1)]::H):=by
  obtain ⟨cs,a1,a2,a3⟩:=jv_open h
  exact staleN_ tx was nm cb mb rb x an cn al cl cs S a1 a2 a3 ho.hcl ho.hcn ho.hk5 p ho.hp ho.hfl ho.hft hnz hF W0 H hS hX
theorem jparseG (a:Option Addr) (c:Nat) (l:List UInt8) (S:Nat→Obj→Prop) (hrd:Rd S a (u8s l)) (x:JV) (hp:parR l=(x,0)) (W0:World) (H:List Grp) (hS:∀ y o,S y o→At W0 H y o) (hX:K6 W0):Tri Tryz.prog 9 #[.slice a l.length c] W0 H (fun v H2=>∃ an cn al cl g,JRd (inG g) x (jvC x an cn al cl)∧x.list.length≤cl∧v=.tuple #[.agg (jvC x an cn al cl).toArray,.int .i64 0]∧H2=g::H):=by
  have h:=jparse_ a c l S hrd W0 H hS hX.base
  rw [hp] at h
  refine Tri.post h fun v H1 ⟨c1,g,hJ,hv,hH⟩=>?_
  have hr:=hJ.rd (S:=inG g) (fun _ _ h=>h)
  obtain ⟨an,al,cn,cl,cs,e,_,_,_⟩:=hr.shape
  subst e
  exact ⟨_,⟨an,cn,al,cl,g,hr,jrep_cl hJ,hv,hH⟩,fun _ h=>h⟩
def V2:JV:=.mk 6 [] [[120],[121]] [.mk 3 [49] [] [],.mk 3 [50] [] []]
def V3:JV:=.mk 6 [] [[120],[121]] [.mk 3 [49] [] [],.mk 3 [51] [] []]
def V4:JV:=.mk 6 [] [[120]] [.mk 3 [50] [] []]
theorem at2:atJ V2 [120]=.mk 3 [49] [] []:=by kernel_rfl
theorem at3:atJ V3 [120]=.mk 3 [49] [] []:=by kernel_rfl
theorem at4:atJ V4 [120]=.mk 3 [50] [] []:=by kernel_rfl
theorem gok2 {cl:Nat} (h:V2.list.length≤cl):GOk V2 cl 120:=⟨h,by decide +kernel,by decide,by decide,by rw [at2]; exact ⟨by decide,by decide⟩,by rw [at2]; show 1≤4611686018427387904; omega⟩
theorem gok3 {cl:Nat} (h:V3.list.length≤cl):GOk V3 cl 120:=⟨h,by decide +kernel,by decide,by decide,by rw [at3]; exact ⟨by decide,by decide⟩,by rw [at3]; show 1≤4611686018427387904; omega⟩
theorem gok4 {cl:Nat} (h:V4.list.length≤cl):GOk V4 cl 120:=⟨h,by decide +kernel,by decide,by decide,by rw [at4]; exact ⟨by decide,by decide⟩,by rw [at4]; show 1≤4611686018427387904; omega⟩
theorem fr3:decide (shB (atJ V3 [120])=shB (atJ V2 [120]))=true:=by rw [at3,at2]; exact decide_eq_true rfl
theorem fr4:decide (shB (atJ V4 [120])=shB (atJ V2 [120]))=false:=decide_eq_false fun h=>by
  rw [at4,at2] at h
  exact absurd (sh_eq ⟨by decide,by decide⟩ ⟨by decide,by decide⟩ h).2 (by decide)
theorem gfirst_  (W0:World) (H:List Grp) (hX:K6 W0):Tri Tryz.prog 4 #[] W0 H (fun v H'=>v=.bool true∧H'=H):=by
 refine D4 71 Tryz.func4 ?_
 refine A1 (C4 (E':=[]) [0] [] (k:=A0 (A1 (A2 (C3 Tryz.func5 (new_ _ _) ?_)))))
 rintro _ _ ⟨cb1,mb2,rfl,rfl⟩
 refine A6 (E':=[⟨1,[],pt cb1⟩]) [0] [1] (k:=A0 (A1 (A2 (I0 5 13 [.int .u8 123,.int .u8 34,.int .u8 120,.int .u8 34,.int .u8 58,.int .u8 49,.int .u8 44,.int .u8 34,.int .u8 121,.int .u8 34,.int .u8 58,.int .u8 50,.int .u8 125] (fun b3=>GL_sameBytes (ch:=[]) (t:=40) (e:=5) (b:=b3) (off:=0) (l:=13) (cap:=13) (j:=0) (m:=0) (hH':=(by rfl)) (k:=C3 Tryz.func9 (jparseG (some ⟨b3,0,none⟩) 13 ([123,34,120,34,58,49,44,34,121,34,58,50,125]:List UInt8) (inG [(b3,.cells #[.int .u8 123,.int .u8 34,.int .u8 120,.int .u8 34,.int .u8 58,.int .u8 49,.int .u8 44,.int .u8 34,.int .u8 121,.int .u8 34,.int .u8 58,.int .u8 50,.int .u8 125] 5 (13,13+1))]) (rd_cast (cs:=[.int .u8 123,.int .u8 34,.int .u8 120,.int .u8 34,.int .u8 58,.int .u8 49,.int .u8 44,.int .u8 34,.int .u8 121,.int .u8 34,.int .u8 58,.int .u8 50,.int .u8 125]) Rd.lit kr) V2 kr _ _ (H7 0 rfl) hX) ?_))))))
 rintro _ _ ⟨an4,cn4,al4,cl4,gp4,hJ4,hcl4,rfl,rfl⟩
 refine A3 (j:=6) [0,0,0] (k:=I1 (.agg #[.int .i64 0,.string eB,.slice none 0 0,.slice none 0 0]) (fun b5=>D5 0 0 (.agg #[.int .i64 V2.kind,.string (bk V2.text),.slice an4 V2.names.length cn4,.slice al4 V2.list.length cl4]) rfl (A6 (E':=[⟨1,[],pt cb1⟩,⟨2,[],pt b5⟩]) [0] [1,2] (k:=A0 (A1 (A2 (I0 5 13 [.int .u8 123,.int .u8 34,.int .u8 120,.int .u8 34,.int .u8 58,.int .u8 49,.int .u8 44,.int .u8 34,.int .u8 121,.int .u8 34,.int .u8 58,.int .u8 51,.int .u8 125] (fun b6=>GL_sameBytes (ch:=[]) (t:=40) (e:=5) (b:=b6) (off:=0) (l:=13) (cap:=13) (j:=0) (m:=0) (hH':=(by rfl)) (k:=?_)))))))))
 refine C3 Tryz.func9 (jparseG (some ⟨b6,0,none⟩) 13 ([123,34,120,34,58,49,44,34,121,34,58,51,125]:List UInt8) (inG [(b6,.cells #[.int .u8 123,.int .u8 34,.int .u8 120,.int .u8 34,.int .u8 58,.int .u8 49,.int .u8 44,.int .u8 34,.int .u8 121,.int .u8 34,.int .u8 58,.int .u8 51,.int .u8 125] 5 (13,13+1))]) (rd_cast (cs:=[.int .u8 123,.int .u8 34,.int .u8 120,.int .u8 34,.int .u8 58,.int .u8 49,.int .u8 44,.int .u8 34,.int .u8 121,.int .u8 34,.int .u8 58,.int .u8 51,.int .u8 125]) Rd.lit kr) V3 kr _ _ (H7 0 rfl) hX) ?_
 rintro _ _ ⟨an7,cn7,al7,cl7,gp7,hJ7,hcl7,rfl,rfl⟩
 refine A3 (j:=6) [0,0,0] (k:=I1 (.agg #[.int .i64 0,.string eB,.slice none 0 0,.slice none 0 0]) (fun b8=>D5 0 0 (.agg #[.int .i64 V3.kind,.string (bk V3.text),.slice an7 V3.names.length cn7,.slice al7 V3.list.length cl7]) rfl (A7 [0] [1,2,4] (k:=A0 (A1 (A2 (I0 5 7 [.int .u8 123,.int .u8 34,.int .u8 120,.int .u8 34,.int .u8 58,.int .u8 50,.int .u8 125] (fun b9=>GL_sameBytes (ch:=[]) (t:=40) (e:=5) (b:=b9) (off:=0) (l:=7) (cap:=7) (j:=0) (m:=0) (hH':=(by rfl)) (k:=?_)))))))))
 refine C3 Tryz.func9 (jparseG (some ⟨b9,0,none⟩) 7 ([123,34,120,34,58,50,125]:List UInt8) (inG [(b9,.cells #[.int .u8 123,.int .u8 34,.int .u8 120,.int .u8 34,.int .u8 58,.int .u8 50,.int .u8 125] 5 (7,7+1))]) (rd_cast (cs:=[.int .u8 123,.int .u8 34,.int .u8 120,.int .u8 34,.int .u8 58,.int .u8 50,.int .u8 125]) Rd.lit kr) V4 kr _ _ (H7 0 rfl) hX) ?_
 rintro _ _ ⟨an10,cn10,al10,cl10,gp10,hJ10,hcl10,rfl,rfl⟩
 refine A3 (j:=6) [0,0,0] (k:=I1 (.agg #[.int .i64 0,.string eB,.slice none 0 0,.slice none 0 0]) (fun b11=>D5 0 0 (.agg #[.int .i64 V4.kind,.string (bk V4.text),.slice an10 V4.names.length cn10,.slice al10 V4.list.length cl10]) rfl (A7 [0] [1,2,4,6] (k:=A0 (A1 (A2 (A3 (j:=1) [0] (k:=F1 6 0 4 rfl ?_))))))))
 refine I0 9 1 [.string (mB #[47,120])] (fun b12=>A3 (j:=4) [0] (k:=J6 0 [10,10] (C3 Tryz.func6 (putV cb1 mb2 ([]) 0 (mB #[97]) (mB #[116]) b12 0 V2 an4 cn4 al4 cl4 120 (inG gp4) hJ4 (gok2 hcl4) _ _ (H7 7 rfl) hX) ?_)))
 rintro _ _ ⟨rb13,rfl,rfl⟩
 refine A7 [] [1,4,6] (k:=A0 (A1 (A2 (A3 (j:=1) [0] (k:=F1 7 0 4 rfl (J6 0 [1,1] (C3 (vs:=[pt cb1,.string (mB #[97]),.agg #[.int .i64 V3.kind,.string (bk V3.text),.slice an7 V3.names.length cn7,.slice al7 V3.list.length cl7]]) Tryz.func8 (getV true cb1 mb2 ([((mB #[97]),.agg #[.string (mB #[116]),.map (some rb13)],0)]) 1 (mB #[97]) (mB #[116]) rb13 (shB (atJ V2 [120])) (get1 _ _) V3 an7 cn7 al7 cl7 120 (inG gp7) hJ7 (gok3 hcl7) fr3 _ _ (H7 5 rfl) hX) ?_)))))))
 rintro _ _ ⟨rfl,rfl⟩
 refine A7 [0,0,0,0,0] [1,4,6,8,9] (k:=A0 (A1 (A2 (A3 (j:=1) [0] (k:=F1 4 0 4 rfl (C3 (vs:=[pt cb1,.string (mB #[97]),.agg #[.int .i64 V4.kind,.string (bk V4.text),.slice an10 V4.names.length cn10,.slice al10 V4.list.length cl10]]) Tryz.func8 (getV false cb1 mb2 ([((mB #[97]),.agg #[.string (mB #[116]),.map (some rb13)],0)]) 1 (mB #[97]) (mB #[116]) rb13 (shB (atJ V2 [120])) (get1 _ _) V4 an10 cn10 al10 cl10 120 (inG gp10) hJ10 (gok4 hcl10) fr4 _ _ (H7 2 rfl) hX) ?_))))))
 rintro _ _ ⟨rfl,rfl⟩
 refine A7 [0,0,0,0,0] [1,4,6,8,9,11] (k:=A0 (A1 (A2 (A3 (j:=11) [0,0,0,0,6,0,0,0,6,0,0] (k:=GL_loadA (ch:=[(57,true)]) (b:=b11) (off:=0) (l:=[.int .i64 V4.kind,.string (bk V4.text),.slice an10 V4.names.length cn10,.slice al10 V4.list.length cl10]) (hA:=At.grp 4 0 rfl rfl) (k:=GL_call (ch:=[(57,true)]) (f:=11) (fst:=#[]) (caps:=#[]) (vs:=[pt cb1,.agg #[.int .i64 V4.kind,.string (bk V4.text),.slice an10 V4.names.length cn10,.slice al10 V4.list.length cl10]]) (hf:=Tryz.func11) (hsure:=K3 kr) (hc:=staleVN (mB #[116]) (shB (atJ V2 [120])) (mB #[97]) cb1 mb2 rb13 (by decide) V4 an10 cn10 al10 cl10 120 (inG gp10) hJ10 (gok4 hcl10) fr4 _ _ (H7 2 rfl) hX) (k:=?_)))))))
 rintro _ _ ⟨sa14,sc14,sg14,rfl,hO14,rfl⟩
 refine GL_buildSlice (i:=13) (ch:=[(57,true)]) (e:=9) (l:=[(0,.string (mB #[97]))]) (c:=[.string (mB #[97])]) rfl rfl kr kr kr kr kr (fun b15=>GL_cG [(57,true)] Tryz.func10 (fun hc=>same1_ sa14 (some ⟨b15,0,none⟩) sc14 1 (mB #[97]) (inG sg14) (inG [(b15,.cells #[.string (mB #[97])] 9 (0,0))]) (own_rd hO14) Rd.lit _ _ (H7 1 rfl) (H7 0 rfl)) (A3 (j:=18) [6,0,0] (k:=GL_loadA (ch:=[(64,true)]) (b:=b8) (off:=0) (l:=[.int .i64 V3.kind,.string (bk V3.text),.slice an7 V3.names.length cn7,.slice al7 V3.list.length cl7]) (hA:=At.grp 9 0 rfl rfl) (k:=J6 0 [2,2,2] (GL_call (ch:=[(64,true)]) (f:=11) (fst:=#[]) (caps:=#[]) (vs:=[pt cb1,.agg #[.int .i64 V3.kind,.string (bk V3.text),.slice an7 V3.names.length cn7,.slice al7 V3.list.length cl7]]) (hf:=Tryz.func11) (hsure:=K3 kr) (hc:=staleVY (mB #[116]) (shB (atJ V2 [120])) (mB #[97]) cb1 mb2 rb13 (by decide) V3 an7 cn7 al7 cl7 120 (inG gp7) hJ7 (gok3 hcl7) fr3 _ _ (H7 7 rfl) hX) (k:=?_))))))
 rintro _ _ ⟨sa16,sc16,rfl,rfl⟩
 refine A6 (E':=[⟨0,[],.bool ((((((mB #[116]).toList==(mB #[116]).toList)&&true)&&true)&&true)&&true)⟩]) [0,0,6,0] [0] (k:=A0 (B0 (N_pk 15 [] (B6 [.tmp 0] [.bool ((((((mB #[116]).toList==(mB #[116]).toList)&&true)&&true)&&true)&&true)] (k:=?_)))))
 exact ⟨congrArg Value.bool (by rw [beq_self_eq_true]; rfl),rfl⟩
end Go.Proofs.YtmnihmfifpaaoaaGreatDoor
namespace Go.Proofs.YtmnihmfifpaaoaaGreatDoor
open Go.Sw Go.Sha Go.Esc Go.RowKit Go.Json Go.Xml Go.Gr
theorem at_two {W0:World} {H:List Grp} {b1 b2:Nat} {o1 o2:Obj} (h1:At W0 H b1 o1) (h2:At W0 H b2 o2):∀ y o,inG [(b1,o1),(b2,o2)] y o→At W0 H y o:=fun y o h=>by
  rcases List.mem_cons.1 h with h | h
  · injection h with e1 e2; subst e1 e2; exact h1
  · injection List.mem_singleton.1 h with e1 e2; subst e1 e2; exact h2
abbrev DA (t:ByteArray):JV:=.mk 6 [] [[97]] [.mk 4 t.data.toList [] []]
abbrev DB (k:Int) (t:ByteArray):JV:=.mk 6 [] [[98],[97]] [.mk 3 [49] [] [],.mk k t.data.toList [] []]
theorem jrdA {t:ByteArray} {b1 b2:Nat}:JRd (inG [(b1,.cells #[.string (mB #[97])] 9 (0,0)),(b2,.cells #[.int .i64 4,.string t,.slice none 0 0,.slice none 0 0] 30 (0,0))]) (DA t) (jvC (DA t) (some ⟨b1,0,none⟩) 1 (some ⟨b2,0,none⟩) 1) :=
  .mk (rd_mono (Rd.lit (c:=[.string (mB #[97])])) fun _ _ h=>List.mem_cons.2 (.inl (List.mem_singleton.1 h))) (rd_mono (Rd.lit (c:=[.int .i64 4,.string t,.slice none 0 0,.slice none 0 0])) fun _ _ h=>List.mem_cons_of_mem _ h) (.cons (c:=[.int .i64 4,.string t,.slice none 0 0,.slice none 0 0]) (cs:=[]) (.mk (ns:=[]) (l:=[]) (.inl rfl) (.inl rfl) .nil) .nil)
theorem jrdB {k:Int} {t:ByteArray} {b1 b2:Nat}:JRd (inG [(b1,.cells #[.string (mB #[98]),.string (mB #[97])] 9 (0,0)),(b2,.cells #[.int .i64 3,.string (mB #[49]),.slice none 0 0,.slice none 0 0,.int .i64 k,.string t,.slice none 0 0,.slice none 0 0] 30 (0,0))]) (DB k t) (jvC (DB k t) (some ⟨b1,0,none⟩) 2 (some ⟨b2,0,none⟩) 2) :=
  .mk (rd_mono (Rd.lit (c:=[.string (mB #[98]),.string (mB #[97])])) fun _ _ h=>List.mem_cons.2 (.inl (List.mem_singleton.1 h))) (rd_mono (Rd.lit (c:=[.int .i64 3,.string (mB #[49]),.slice none 0 0,.slice none 0 0,.int .i64 k,.string t,.slice none 0 0,.slice none 0 0])) fun _ _ h=>List.mem_cons_of_mem _ h)
    (.cons (c:=[.int .i64 3,.string (mB #[49]),.slice none 0 0,.slice none 0 0]) (cs:=[.int .i64 k,.string t,.slice none 0 0,.slice none 0 0]) (.mk (ns:=[]) (l:=[]) (.inl rfl) (.inl rfl) .nil)
      (.cons (c:=[.int .i64 k,.string t,.slice none 0 0,.slice none 0 0]) (cs:=[]) (.mk (ns:=[]) (l:=[]) (.inl rfl) (.inl rfl) .nil) .nil))
theorem atA (t:ByteArray):atJ (DA t) [97]=.mk 4 t.data.toList [] []:=by kernel_rfl
theorem atB (k:Int) (t:ByteArray):atJ (DB k t) [97]=.mk k t.data.toList [] []:=by kernel_rfl
theorem atN:atJ nul [97]=nul:=by kernel_rfl
theorem cnA (t:ByteArray):cnJ (DA t)≤1000000000:=Nat.le_of_ble_eq_true (by kernel_rfl)
theorem cnB (k:Int) (t:ByteArray):cnJ (DB k t)≤1000000000:=Nat.le_of_ble_eq_true (by kernel_rfl)
theorem gokA {t:ByteArray} (h:t.size≤4611686018427387904):GOk (DA t) 1 97:=⟨Nat.le_refl 1,cnA t,by show (6:Int)≠5; decide,by decide,by rw [atA]; exact ⟨show (0:Int)≤4 by decide,show (4:Int)≤4 by decide⟩,by rw [atA]; exact h⟩
theorem gokB {k:Int} {t:ByteArray} (hk:0≤k∧k≤4) (h:t.size≤4611686018427387904):GOk (DB k t) 2 97:=⟨Nat.le_refl 2,cnB k t,by show (6:Int)≠5; decide,by decide,by rw [atB]; exact hk,by rw [atB]; exact h⟩
theorem gokN:GOk nul 0 97:=⟨Nat.le_refl 0,by decide +kernel,by decide,by decide,by rw [atN]; exact flat_nul,by rw [atN]; show 0≤4611686018427387904; omega⟩
theorem frB {k:Int} {t u:ByteArray} (hk:0≤k∧k≤4):shB (atJ (DB k u) [97])=shB (atJ (DA t) [97]) ↔ k=4∧u=t:=by
  rw [atA,atB]
  constructor
  · intro h
    have:=sh_eq (x:=.mk k u.data.toList [] []) (y:=.mk 4 t.data.toList [] []) hk ⟨show (0:Int)≤4 by decide,show (4:Int)≤4 by decide⟩ h
    exact ⟨this.1,ByteArray.ext (Array.toList_inj.1 this.2)⟩
  · rintro ⟨rfl,rfl⟩; rfl
theorem frY (t:ByteArray):decide (shB (atJ (DB 4 t) [97])=shB (atJ (DA t) [97]))=true:=decide_eq_true ((frB ⟨by decide,by decide⟩).2 ⟨rfl,rfl⟩)
theorem frN1 (t:ByteArray):decide (shB (atJ (DB 4 (t++ByteArray.mk #[33])) [97])=shB (atJ (DA t) [97]))=false:=decide_eq_false fun h=>by
  have:=congrArg ByteArray.size ((frB ⟨by decide,by decide⟩).1 h).2
  rw [ByteArray.size_append] at this
  have h1:t.size+1=t.size:=this
  omega
theorem frN2 (t:ByteArray):decide (shB (atJ (DB 3 t) [97])=shB (atJ (DA t) [97]))=false:=decide_eq_false fun h=>absurd ((frB ⟨by decide,by decide⟩).1 h).1 (by decide)
def ownB:ByteArray:=ByteArray.mk #[111,119,110]
theorem own_ne (s:ByteArray):(ownB==(ByteArray.mk #[120]++s)++ByteArray.mk #[121])=false:=baNe.2 fun e=>by
  have:=congrArg (fun b:ByteArray=>b.data.toList) e
  simp only [ByteArray.data_append,Array.toList_append] at this
  injection this with h _
  exact absurd h (by decide)
theorem own_keep {ms:SM} {mc:Nat} {s:ByteArray} {v w:Value} (hok:MapOk ms mc) (hs:s≠ownB) (hg:mget ms ownB=some v):mget (mdel (mput ms mc s w) ((ByteArray.mk #[120]++s)++ByteArray.mk #[121])) ownB=some v:=by
  rw [mget_del (hok.put s w).nodup,own_ne,if_neg Bool.false_ne_true,mget_put,baNe.2 (fun e=>hs e.symm),if_neg Bool.false_ne_true]; exact hg
theorem strs_neB {l:List ByteArray} {i:Nat} (h:i<l.length):strs l≠[]:=by
  intro e; have:=congrArg List.length e; unfold strs at this; rw [List.length_map,List.length_nil] at this; omega
theorem graphAlone_ (a:Option Addr) (c:Nat) (L:List ByteArray) (S0:Nat→Obj→Prop) (hrd:Rd S0 a (strs L)) (hLz:L.length≤1000000000000000) (n:Int) (t:ByteArray) (ht:t.size≤1000000000000000) (W0:World) (H:List Grp) (hS:∀ y o,S0 y o→At W0 H y o) (hX:K6 W0):Tri Tryz.prog 3 #[.slice a L.length c,.int .i64 n,.string t] W0 H (fun v H'=>v=.bool true∧H'=H):=by
 have ht1:(t++ByteArray.mk #[33]).size≤4611686018427387904:=by rw [ByteArray.size_append]; show t.size+1≤_; omega
 refine D4 115 Tryz.func3 ?_
 refine A1 (G_p [0] [0,2] (k:=A0 (A1 (A1 (A2 (K5 Tryz.func4 (gfirst_ _ _ hX) (A7 [0] [0,2,18] (k:=A0 ?_))))))))
 refine C2 kr (A8 (A0 (A1 (A2 (C3 Tryz.func5 (new_ _ _) ?_)))))
 rintro _ _ ⟨cb1,mb2,rfl,rfl⟩
 refine A7 [0] [0,2,7] (k:=A0 (A1 (A2 (A3 (j:=1) [0] (k:=I0 9 1 [.string (mB #[97])] (fun b3=>A3 (j:=4) [0,0] (k:=I0 30 1 [.int .i64 4,.string t,.slice none 0 0,.slice none 0 0] (fun b4=>A3 (j:=6) [0] (k:=?_)))))))))
 refine I0 9 1 [.string (mB #[47,97])] (fun b5=>A3 (j:=8) [0] (k:=J6 0 [3,3] (C3 Tryz.func6 (putV cb1 mb2 ([]) 0 (mB #[111,119,110]) (mB #[112,97,103,101]) b5 0 (DA t) (some ⟨b3,0,none⟩) 1 (some ⟨b4,0,none⟩) 1 97 (inG [(b3,.cells #[.string (mB #[97])] 9 (0,0)),(b4,.cells #[.int .i64 4,.string t,.slice none 0 0,.slice none 0 0] 30 (0,0))]) jrdA (gokA (by omega)) _ _ (at_two (At.grp 1 0 rfl rfl) (At.grp 0 0 rfl rfl)) hX) ?_)))
 rintro _ _ ⟨rb6,rfl,rfl⟩
 refine A7 [] [0,2,7] (k:=A0 (A1 (A1 (G_p [0,0,0] [2,7,29,30,31] (k:=A0 (C8 (G_pkT 3 [1,1,0] ([(cb1,.cells #[.map (some mb2)] 45 (0,0))]::[(mb2,.map (B5 ([((mB #[111,119,110]),.agg #[.string (mB #[112,97,103,101]),.map (some rb6)],0)])) 1)]::[(rb6,.map (B5 ([(plB 97,.string (shB (atJ (DA t) [97])),0)])) 1)]::H) (G_loop (EI:=(fun ξ:Nat × SM × Nat=>[⟨2,[],.string t⟩,⟨7,[],pt cb1⟩,⟨29,[],.slice a L.length c⟩,⟨30,[],.int .i64 ((L.length:Nat):Int)⟩,⟨31,[],.int .i64 ((ξ.1:Nat):Int)⟩])) (HI:=(fun ξ:Nat × SM × Nat=>([(cb1,.cells #[.map (some mb2)] 45 (0,0))]::[(mb2,.map (B5 ξ.2.1) ξ.2.2)]::[(rb6,.map (B5 ([(plB 97,.string (shB (atJ (DA t) [97])),0)])) 1)]::H))) (Φ:=(fun ξ:Nat × SM × Nat=>(ξ.1≤L.length)∧(mget ξ.2.1 ownB=some (.agg #[.string (mB #[112,97,103,101]),.map (some rb6)]))∧(MapOk ξ.2.1 ξ.2.2))) (μ:=(fun ξ:Nat × SM × Nat=>L.length - ξ.1)) (s0:=(0,[((mB #[111,119,110]),.agg #[.string (mB #[112,97,103,101]),.map (some rb6)],0)],1)) [2,7,29,30,31] kr kr ⟨(Nat.zero_le _),(get1 _ _),(one_ok _ _)⟩ ?_))))))))
 rintro ⟨i,ms,mc⟩ ⟨hi,hg,hok⟩
 refine A1 (G_p [0] [2,7,29,30,31,32] (k:=A0 (A1 (C5 (b:=decide (((i:Nat):Int)<((L.length:Nat):Int))) kr (fun hc7=>?_) (fun hc7=>?_)))))
 ·
  have hlt:i<L.length:=by simp only [decide_eq_true_eq] at hc7; omega
  refine A8 (A0 (A1 (C8 (A1 (A2 (A3 (j:=1) [0] (k:=GL_iq L.length ((i:Nat):Int) 1 hrd (by exact ⟨by omega,by omega,strs_neB (l:=L) (i:=i) (by omega)⟩) (GL_lsq (i * 1) (.string (L.getD i default)) hrd (fun y o h=>(At.cons (At.cons (At.cons (hS y o h))))) (fun _=>(by rw [Nat.mul_one]; exact strs_at (by omega))) ?_))))))))
  refine A7 [0,0] [2,7,8,9,29,30,31] (k:=A0 (A1 (G_p [0,0,0,0,0,6,0,0,0,0,6] [2,7,9,29,30,31,46] (k:=A0 (C5 (b:=((decide (((i:Nat):Int)<30))&&(!((L.getD i default).toList==(mB #[111,119,110]).toList)))&&(decide (((L.getD i default).size:Int)<100))) kr (fun hc8=>?_) (fun hc8=>?_))))))
  ·
   have hne:L.getD i default≠ownB:=by
    intro e; rw [e] at hc8; simp [ownB] at hc8
   have hsz:(L.getD i default).size<100:=by simp only [Bool.and_eq_true,decide_eq_true_eq] at hc8; omega
   refine A1 (A2 (A3 (j:=4) [0,0,0,0] (k:=I0 9 1 [.string (mB #[47,97])] (fun b9=>A3 (j:=6) [0] (k:=J6 0 [1,1] (C3 (vs:=[pt cb1,.string (L.getD i default),.agg #[.int .i64 0,.string eB,.slice none 0 0,.slice none 0 0],.agg #[.string (L.getD i default),.slice (some ⟨b9,0,none⟩) 1 1,.int .i64 0]]) Tryz.func6 (putV cb1 mb2 ms mc (L.getD i default) (L.getD i default) b9 0 nul none 0 none 0 97 (fun _ _=>False) jrd_nul gokN _ _ (fun _ _ h=>h.elim) hX) ?_))))))
   rintro _ _ ⟨rb10,rfl,rfl⟩
   refine A7 [] [2,7,9,29,30,31] (k:=A0 (A2 (A3 (j:=2) [0,0] (k:=GL_ccq (mB #[120]) (L.getD i default) (by intro _; first | (show 1+(L.getD i default).size≤_; omega) | (simp only [ByteArray.size_append]; show 1+(L.getD i default).size+1≤_; omega)) (GL_ccq ((mB #[120])++(L.getD i default)) (mB #[121]) (by intro _; first | (show 1+(L.getD i default).size≤_; omega) | (simp only [ByteArray.size_append]; show 1+(L.getD i default).size+1≤_; omega)) (I0 9 1 [.string (((mB #[120])++(L.getD i default))++(mB #[121]))] (fun b11=>J6 0 [2,2] (C3 Tryz.func7 (drop_ cb1 mb2 (mput ms mc (L.getD i default) (.agg #[.string (L.getD i default),.map (some rb10)])) (if mhas ms (L.getD i default) then mc else mc+1) (((mB #[120])++(L.getD i default))++(mB #[121])) b11 _ _) ?_))))))))
   rintro _ _ ⟨rfl,rfl⟩
   refine A7 [] [2,7,29,30,31] (k:=D8 (A0 (A2 (A3 (j:=1) [0] (k:=GL_wi 60 (((i:Nat):Int)+1) (by omega) (by omega) kr (A6 (E':=[⟨2,[],.string t⟩,⟨7,[],pt cb1⟩,⟨29,[],.slice a L.length c⟩,⟨30,[],.int .i64 ((L.length:Nat):Int)⟩,⟨31,[],.int .i64 (((i:Nat):Int)+1)⟩]) [0] [2,7,29,30,31] (k:=N_pk 3 [0,0,3] (J1 (s':=((i+1),(mdel (mput ms mc (L.getD i default) (.agg #[.string (L.getD i default),.map (some rb10)])) (((mB #[120])++(L.getD i default))++(mB #[121]))),(if mhas ms (L.getD i default) then mc else mc+1))) [2,7,29,30,31] kr kr ⟨(by dsimp only; omega),(own_keep hok hne hg),((hok.put _ _).del _)⟩ (by dsimp only; omega)))))))))
  ·
   have hno:=hc8
   refine A8 (D8 (A0 (A2 (A3 (j:=1) [0] (k:=GL_wi 60 (((i:Nat):Int)+1) (by omega) (by omega) kr (A7 [0] [2,7,29,30,31] (k:=J1 (s':=((i+1),ms,mc)) [2,7,29,30,31] kr kr ⟨(by dsimp only; omega),hg,hok⟩ (by dsimp only; omega))))))))
 ·
  have hge:¬ i<L.length:=by simp only [decide_eq_false_iff_not] at hc7; omega
  refine I3 (B3 (B3 (C6 (A0 (A1 (A2 (I0 9 2 [.string (mB #[98]),.string (mB #[97])] (fun b14=>A3 (j:=4) [0,0,0] (k:=?_)))))))))
  refine I0 30 2 [.int .i64 3,.string (mB #[49]),.slice none 0 0,.slice none 0 0,.int .i64 4,.string t,.slice none 0 0,.slice none 0 0] (fun b15=>A3 (j:=6) [0] (k:=I1 (.agg #[.int .i64 0,.string eB,.slice none 0 0,.slice none 0 0]) (fun b16=>D5 0 0 (.agg #[.int .i64 6,.string eB,.slice (some ⟨b14,0,none⟩) 2 2,.slice (some ⟨b15,0,none⟩) 2 2]) rfl (A7 [] [2,7,10] (k:=A0 (A1 (A2 (A3 (j:=1) [0] (k:=?_)))))))))
  refine F1 0 0 4 rfl (J6 0 [3,3,3] (C3 Tryz.func8 (getV true cb1 mb2 ms mc (mB #[111,119,110]) (mB #[112,97,103,101]) rb6 (shB (atJ (DA t) [97])) hg (DB 4 t) (some ⟨b14,0,none⟩) 2 (some ⟨b15,0,none⟩) 2 97 (inG [(b14,.cells #[.string (mB #[98]),.string (mB #[97])] 9 (0,0)),(b15,.cells #[.int .i64 3,.string (mB #[49]),.slice none 0 0,.slice none 0 0,.int .i64 4,.string t,.slice none 0 0,.slice none 0 0] 30 (0,0))]) jrdB (gokB (by omega) (by omega)) (frY t) _ _ (at_two (At.grp 2 0 rfl rfl) (At.grp 1 0 rfl rfl)) hX) ?_))
  rintro _ _ ⟨rfl,rfl⟩
  refine A7 [0,0,0,0,0] [2,7,10,11,12] (k:=A0 (A1 (A2 (A3 (j:=1) [0] (k:=B8 3 3 rfl rfl (GL_iq (a:=(some ⟨b15,0,none⟩)) (S:=(inG [(b15,.cells #[.int .i64 3,.string (mB #[49]),.slice none 0 0,.slice none 0 0,.int .i64 4,.string t,.slice none 0 0,.slice none 0 0] 30 (0,0))])) (cs:=[.int .i64 3,.string (mB #[49]),.slice none 0 0,.slice none 0 0,.int .i64 4,.string t,.slice none 0 0,.slice none 0 0]) 2 1 4 Rd.lit (by exact ⟨by omega,by show (1:Int)<2; omega,List.cons_ne_nil _ _⟩) ?_))))))
  have hw17:Addr.add (eltA (some ⟨b15,0,none⟩) (1 * 4)) 1=eltA (some ⟨b15,0,none⟩) (1 * 4+1):=eltA_add _ _ _
  refine GL_pure (E':=[⟨76,[],.pointer (some (eltA (some ⟨b15,0,none⟩) (1 * 4+1)))⟩,⟨74,[],.slice (some ⟨b15,0,none⟩) 2 2⟩,⟨2,[],.string t⟩,⟨7,[],pt cb1⟩,⟨10,[],pt b16⟩,⟨11,[],.string (mB #[112,97,103,101])⟩,⟨12,[],.bool true⟩]) [0] (Eq.trans (b:=some [⟨76,[],.pointer (some (Addr.add (eltA (some ⟨b15,0,none⟩) (1 * 4)) 1))⟩,⟨74,[],.slice (some ⟨b15,0,none⟩) 2 2⟩,⟨2,[],.string t⟩,⟨7,[],pt cb1⟩,⟨10,[],pt b16⟩,⟨11,[],.string (mB #[112,97,103,101])⟩,⟨12,[],.bool true⟩]) kr (by simp only [hw17])) (j:=4) rfl (GL_env (E':=[⟨76,[],.pointer (some ⟨b15,5,none⟩)⟩,⟨74,[],.slice (some ⟨b15,0,none⟩) 2 2⟩,⟨2,[],.string t⟩,⟨7,[],pt cb1⟩,⟨10,[],pt b16⟩,⟨11,[],.string (mB #[112,97,103,101])⟩,⟨12,[],.bool true⟩]) kr (B8 4 5 rfl rfl (GL_ccq t (mB #[33]) (by intro _; show t.size+1≤_; omega) (GL_iq (a:=(some ⟨b15,0,none⟩)) (S:=(inG [(b15,.cells #[.int .i64 3,.string (mB #[49]),.slice none 0 0,.slice none 0 0,.int .i64 4,.string t,.slice none 0 0,.slice none 0 0] 30 (0,0))])) (cs:=[.int .i64 3,.string (mB #[49]),.slice none 0 0,.slice none 0 0,.int .i64 4,.string t,.slice none 0 0,.slice none 0 0]) 2 1 4 Rd.lit (by exact ⟨by omega,by show (1:Int)<2; omega,List.cons_ne_nil _ _⟩) ?_))))
  have hw18:Addr.add (eltA (some ⟨b15,0,none⟩) (1 * 4)) 1=eltA (some ⟨b15,0,none⟩) (1 * 4+1):=eltA_add _ _ _
  refine GL_pure (E':=[⟨80,[],.pointer (some (eltA (some ⟨b15,0,none⟩) (1 * 4+1)))⟩,⟨78,[],.string (t++(mB #[33]))⟩,⟨2,[],.string t⟩,⟨7,[],pt cb1⟩,⟨10,[],pt b16⟩,⟨11,[],.string (mB #[112,97,103,101])⟩,⟨12,[],.bool true⟩]) [0] (Eq.trans (b:=some [⟨80,[],.pointer (some (Addr.add (eltA (some ⟨b15,0,none⟩) (1 * 4)) 1))⟩,⟨78,[],.string (t++(mB #[33]))⟩,⟨2,[],.string t⟩,⟨7,[],pt cb1⟩,⟨10,[],pt b16⟩,⟨11,[],.string (mB #[112,97,103,101])⟩,⟨12,[],.bool true⟩]) kr (by simp only [hw18])) (j:=8) rfl (GL_env (E':=[⟨80,[],.pointer (some ⟨b15,5,none⟩)⟩,⟨78,[],.string (t++(mB #[33]))⟩,⟨2,[],.string t⟩,⟨7,[],pt cb1⟩,⟨10,[],pt b16⟩,⟨11,[],.string (mB #[112,97,103,101])⟩,⟨12,[],.bool true⟩]) kr (D5 4 5 (.string (t++(mB #[33]))) rfl (A7 [] [2,7,10,11,12] (k:=A0 (A1 (A2 (A3 (j:=1) [0] (k:=F1 3 0 4 rfl ?_))))))))
  refine C3 Tryz.func8 (getV false cb1 mb2 ms mc (mB #[111,119,110]) (mB #[112,97,103,101]) rb6 (shB (atJ (DA t) [97])) hg (DB 4 (t++(mB #[33]))) (some ⟨b14,0,none⟩) 2 (some ⟨b15,0,none⟩) 2 97 (inG [(b14,.cells #[.string (mB #[98]),.string (mB #[97])] 9 (0,0)),(b15,.cells #[.int .i64 3,.string (mB #[49]),.slice none 0 0,.slice none 0 0,.int .i64 4,.string (t++(mB #[33])),.slice none 0 0,.slice none 0 0] 30 (0,0))]) jrdB (gokB (by omega) ht1) (frN1 t) _ _ (at_two (At.grp 2 0 rfl rfl) (At.grp 1 0 rfl rfl)) hX) ?_
  rintro _ _ ⟨rfl,rfl⟩
  refine A7 [0,0,0,0,0] [2,7,10,11,12,14] (k:=A0 (A1 (A2 (A3 (j:=1) [0] (k:=B8 3 3 rfl rfl (GL_iq (a:=(some ⟨b15,0,none⟩)) (S:=(inG [(b15,.cells #[.int .i64 3,.string (mB #[49]),.slice none 0 0,.slice none 0 0,.int .i64 4,.string (t++(mB #[33])),.slice none 0 0,.slice none 0 0] 30 (0,0))])) (cs:=[.int .i64 3,.string (mB #[49]),.slice none 0 0,.slice none 0 0,.int .i64 4,.string (t++(mB #[33])),.slice none 0 0,.slice none 0 0]) 2 1 4 Rd.lit (by exact ⟨by omega,by show (1:Int)<2; omega,List.cons_ne_nil _ _⟩) (GL_pure (E':=[⟨90,[],.pointer (some (eltA (some ⟨b15,0,none⟩) (1 * 4)))⟩,⟨2,[],.string t⟩,⟨7,[],pt cb1⟩,⟨10,[],pt b16⟩,⟨11,[],.string (mB #[112,97,103,101])⟩,⟨12,[],.bool true⟩,⟨14,[],.bool false⟩]) [0] kr (j:=4) rfl (GL_env (E':=[⟨90,[],.pointer (some ⟨b15,4,none⟩)⟩,⟨2,[],.string t⟩,⟨7,[],pt cb1⟩,⟨10,[],pt b16⟩,⟨11,[],.string (mB #[112,97,103,101])⟩,⟨12,[],.bool true⟩,⟨14,[],.bool false⟩]) kr ?_))))))))
  refine D5 4 4 (.int .i64 3) rfl (A6 (E':=[⟨2,[],.string t⟩,⟨7,[],pt cb1⟩,⟨10,[],pt b16⟩,⟨11,[],.string (mB #[112,97,103,101])⟩,⟨12,[],.bool true⟩,⟨14,[],.bool false⟩]) [] [2,7,10,11,12,14] (k:=A0 (A1 (A2 (A3 (j:=1) [0] (k:=B8 3 3 rfl rfl (A3 (j:=3) [0] (k:=GL_iq (a:=(some ⟨b15,0,none⟩)) (S:=(inG [(b15,.cells #[.int .i64 3,.string (mB #[49]),.slice none 0 0,.slice none 0 0,.int .i64 3,.string (t++(mB #[33])),.slice none 0 0,.slice none 0 0] 30 (0,0))])) (cs:=[.int .i64 3,.string (mB #[49]),.slice none 0 0,.slice none 0 0,.int .i64 3,.string (t++(mB #[33])),.slice none 0 0,.slice none 0 0]) 2 1 4 Rd.lit (by exact ⟨by omega,by show (1:Int)<2; omega,List.cons_ne_nil _ _⟩) ?_))))))))
  have hw19:Addr.add (eltA (some ⟨b15,0,none⟩) (1 * 4)) 1=eltA (some ⟨b15,0,none⟩) (1 * 4+1):=eltA_add _ _ _
  refine GL_pure (E':=[⟨95,[],.pointer (some (eltA (some ⟨b15,0,none⟩) (1 * 4+1)))⟩,⟨93,[],.string t⟩,⟨7,[],pt cb1⟩,⟨10,[],pt b16⟩,⟨11,[],.string (mB #[112,97,103,101])⟩,⟨12,[],.bool true⟩,⟨14,[],.bool false⟩]) [0] (Eq.trans (b:=some [⟨95,[],.pointer (some (Addr.add (eltA (some ⟨b15,0,none⟩) (1 * 4)) 1))⟩,⟨93,[],.string t⟩,⟨7,[],pt cb1⟩,⟨10,[],pt b16⟩,⟨11,[],.string (mB #[112,97,103,101])⟩,⟨12,[],.bool true⟩,⟨14,[],.bool false⟩]) kr (by simp only [hw19])) (j:=5) rfl (GL_env (E':=[⟨95,[],.pointer (some ⟨b15,5,none⟩)⟩,⟨93,[],.string t⟩,⟨7,[],pt cb1⟩,⟨10,[],pt b16⟩,⟨11,[],.string (mB #[112,97,103,101])⟩,⟨12,[],.bool true⟩,⟨14,[],.bool false⟩]) kr (GL_st (i:=5) (ch:=[]) (b:=b15) (off:=5) (v:=.string t) (j:=4) ([(cb1,.cells #[.map (some mb2)] 45 (0,0))]::[(mb2,.map (B5 ms) mc)]::[(rb6,.map (B5 ([(plB 97,.string (shB (atJ (DA t) [97])),0)])) 1)]::[(b16,.cells #[.int .i64 6,.string eB,.slice (some ⟨b14,0,none⟩) 2 2,.slice (some ⟨b15,0,none⟩) 2 2] 30 (0,0))]::[(b15,.cells #[.int .i64 3,.string (mB #[49]),.slice none 0 0,.slice none 0 0,.int .i64 3,.string t,.slice none 0 0,.slice none 0 0] 30 (0,0))]::[(b14,.cells #[.string (mB #[98]),.string (mB #[97])] 9 (0,0))]::H) rfl rfl kr kr kr kr kr kr kr rfl rfl (Nat.le_of_ble_eq_true rfl) (fun _ _=>thaw0) kr (A7 [] [7,10,11,12,14] (k:=A0 (A1 (A2 (A3 (j:=1) [0] (k:=F1 3 0 4 rfl ?_))))))))
  refine C3 Tryz.func8 (getV false cb1 mb2 ms mc (mB #[111,119,110]) (mB #[112,97,103,101]) rb6 (shB (atJ (DA t) [97])) hg (DB 3 t) (some ⟨b14,0,none⟩) 2 (some ⟨b15,0,none⟩) 2 97 (inG [(b14,.cells #[.string (mB #[98]),.string (mB #[97])] 9 (0,0)),(b15,.cells #[.int .i64 3,.string (mB #[49]),.slice none 0 0,.slice none 0 0,.int .i64 3,.string t,.slice none 0 0,.slice none 0 0] 30 (0,0))]) jrdB (gokB (by omega) (by omega)) (frN2 t) _ _ (at_two (At.grp 2 0 rfl rfl) (At.grp 1 0 rfl rfl)) hX) ?_
  rintro _ _ ⟨rfl,rfl⟩
  refine A7 [0,0,0,0,0] [11,12,14,16] (k:=A0 (A1 (G_p [0,0,0,0,2,0,0,0,6,0,0,0,6,0] [6] (k:=A0 (B0 (N_pk 6 [] (B6 [.tmp 6] [.bool ((((mB #[112,97,103,101]).toList==(mB #[112,97,103,101]).toList)&&true)&&true)] (k:=?_))))))))
  exact ⟨congrArg Value.bool (by rw [beq_self_eq_true]; rfl),rfl⟩
end Go.Proofs.YtmnihmfifpaaoaaGreatDoor
namespace Go.Proofs.YtmnihmfifpaaoaaGreatDoor
open Go Go.ChangeShapes Go.WideShapes Go.ChangeAt Go.RowKit Go.Sw Go.Lib Go.Shelf Go.Proofs
theorem frozen_below {W W':World} (h:Below W.heap.size W W') {a:Addr} (ha:a.block<W.heap.size):W'.frozen? a=W.frozen? a:=by
  unfold World.frozen?
  rw [h.block _ ha]
theorem post_below {H:Type} {enc:TypeId × Value→H} {P:Program} {f:Func} {s:ChangeSpec} {apart fresh handsOn again:Bool} {W W':World} {args:Array Value} {v:Value} {ds gs:List (DataW H)} {before pa pv:List MemPlace}
    (hW:DataW.Whole enc P f.params.toList s.vars apart W args.toList ds gs before)
    (hres:∀ (b:Nat) (sp:Nat→Bool) (hd:Bool),DataW.TrodAll enc P W' b sp hd f.resultTypes.toList (v.resultList f.resultTypes.size) (s.fn H (ds++gs)).results [])
    (hargs:∀ sp:Nat→Bool,(∀ p∈before,sp p.block=true)→DataW.TrodAll enc P W' 0 sp true f.params.toList args.toList (s.fn H (ds++gs)).args pa)
    (hvars:∀ sp:Nat→Bool,(∀ p∈before,sp p.block=true)→DataW.TrodVars enc P W' sp s.vars (s.fn H (ds++gs)).vars pv)
    (hps:before=pa++pv) (hb:Below W.heap.size W W')
    (hok:∀ (j:Nat) (t:TypeId) (r:Value),f.resultTypes[j]? = some t→(v.resultList f.resultTypes.size)[j]? = some r→Value.okWide P W' .any 0 t r) :
    s.post enc P f apart fresh handsOn again W args v W':=by
  have hold:∀ p∈before,(fun b=>decide (b<W.heap.size)) p.block=true:=fun p hp=>by simpa using hW.lt p hp
  have hlt:=hW.lt
  refine ⟨ds,gs,before,[],pa,pv,hW,hres _ _ _,hargs _ hold,hvars _ hold,hb.frame _,fun _=>?_⟩
  obtain ⟨_,_,_,_,_,hz,hn⟩:=hW
  refine ⟨hok,_,_,([]++pa)++pv,⟨[]++pa,pv,trodAll_append (hargs _ (fun _ _=>rfl)) (hres _ _ _),hvars _ (fun _ _=>rfl),rfl,?_,?_⟩,?_⟩
  · intro b off hp
    have hp':MemPlace.cell b off∈before:=by rw [hps]; simpa using hp
    rw [frozen_below hb (hlt _ hp')]
    exact hz b off hp'
  · intro ha
    have:=hn ha
    rw [hps] at this
    simpa using this
  · intro p hp _
    rw [hps]
    simpa using hp
theorem H5 {P:Program} {x:String × DataW Unit} {r:List (String × DataW Unit)} {W:World} (h:laidMet P (x::r) W):laidMet P r W:=by
  obtain ⟨ps,⟨g,t,cs,fuel,p,q,_,_,_,_,h5,h6⟩,hn,hc⟩:=h
  subst h6
  exact ⟨q,h5,(List.nodup_append.1 hn).2.1,fun b off hm=>hc b off (List.mem_append_right _ hm)⟩
theorem sat_nil (W:World):Sat W [] W:=⟨Below.refl _ _,by simp,by simp,by simp⟩
theorem eStar : "*" ++ "errors.errorString" = "*errors.errorString" := by decide
theorem eRow (u : TypeId) (h : Tryz.prog.typeName? 3 u = some "*errors.errorString") : u = 153 :=
  typeName_ptr_named (nm := "errors.errorString") (by rw [eStar]; kernel_rfl) (by kernel_rfl) (by decide) u (by rw [eStar]; exact h)
theorem eGlob : Tryz.prog.globalNamed "strconv.ErrSyntax" = some 0 := by kernel_rfl
theorem eU8:U8Extra Tryz.prog Tryz.laysValid_ren:={ n3:=by kernel_rfl,n4:=by kernel_rfl,y3:=by kernel_rfl,y4:=by kernel_rfl,c5:=by kernel_rfl,c119:=by kernel_rfl,c138:=by kernel_rfl }
def de64:List Int:=[0,1,56,2,57,49,28,3,61,58,42,50,38,29,17,4,62,47,59,36,45,43,51,22,53,39,33,30,24,18,12,5,63,55,48,27,60,41,37,16,46,35,44,21,52,32,23,11,54,26,40,15,34,20,31,10,25,14,19,9,13,8,7,6]
theorem eTz : Tryz.prog.globalNamed "math/bits.deBruijn64tab" = some 7 := by kernel_rfl
theorem base_of {W : World} (h : laidMet Tryz.prog [("math/bits.deBruijn32tab", Rows.laid_math_bits_deBruijn32tab), ("math/bits.deBruijn64tab", Rows.laid_math_bits_deBruijn64tab), ("internal/strconv.uint64pow10", Rows.laid_internal_strconv_uint64pow10), ("unicode/utf8.acceptRanges", Rows.laid_unicode_utf8_acceptRanges), ("strconv.ErrRange", Rows.laid_strconv_ErrRange), ("strconv.ErrSyntax", Rows.laid_strconv_ErrSyntax), ("unicode/utf8.first", Rows.laid_unicode_utf8_first)] W) : F2 W := by
  have h2:=H5 h
  have h6:=H5 (H5 (H5 (H5 h2)))
  refine ⟨?_,?_,?_⟩
  · obtain ⟨a0,s0,hv0,-,-,-⟩:=laid_sentinel h6 eGlob (ti:=64) (tp:=153) (te:=155) (ts:=9) (by kernel_rfl) Tryz.underlying64 eRow Tryz.underlying153 Tryz.underlying155 rfl rfl Tryz.underlying9 (by kernel_rfl) (by kernel_rfl)
    have hc:W.cell? ⟨0,0,none⟩=some (.iface 153 (.pointer (some a0))):=by
      have h0:=World.var?_cell eGlob hv0 0; simpa using h0
    exact ⟨_,cell_lt hc,hc,.inr ⟨_,_,rfl⟩⟩
  · have hT : Lib.TabIs Tryz.prog W "math/bits.deBruijn64tab" .u8 de64 := by
      rw [show Rows.laid_math_bits_deBruijn64tab=Lib.tabData .u8 de64 from by kernel_rfl] at h2
      exact Lib.tabIs_of_head (t:=175) (e:=5) (n:=64) eTz (by kernel_rfl) (by kernel_rfl) (by kernel_rfl) (by kernel_rfl) (by kernel_rfl) h2
    unfold Lib.TabIs World.var? at hT
    rw [eTz] at hT
    simp only [Option.bind_some] at hT
    cases hb:W.heap[7]? with
    | none=>rw [hb] at hT; cases hT
    | some ob =>
      rw [hb] at hT
      cases ob with
      | cells c e fz =>
        have hlt:7<W.heap.size:=(Array.getElem?_eq_some_iff.1 hb).1
        simp only [Option.some.injEq] at hT
        subst hT
        exact ⟨_,_,_,hlt,rfl,by rfl⟩
      | _=>cases hT
  · have h3 := laidMet.reads h (n := "unicode/utf8.first") (d := Rows.laid_unicode_utf8_first) (by simp)
    have h4 := laidMet.reads h (n := "unicode/utf8.acceptRanges") (d := Rows.laid_unicode_utf8_acceptRanges) (by simp)
    rw [show Rows.laid_unicode_utf8_first=Lib.firstData from by kernel_rfl] at h3
    rw [show Rows.laid_unicode_utf8_acceptRanges=Lib.acceptData from by kernel_rfl] at h4
    exact utf8Tabs_of_readsT (U8Types.of196 Tryz.laysValid) eU8 h3 h4
end Go.Proofs.YtmnihmfifpaaoaaGreatDoor
namespace Go.Proofs.YtmnihmfifpaaoaaGreatDoor
open Go Go.ChangeShapes Go.WideShapes Go.ChangeAt Go.RowKit Go.Sw Go.Sha Go.Esc
theorem laidOut_:laidOutB Tryz.prog=true:=by kernel_rfl
def SW (W:World) (y:Nat) (o:Obj):Prop:=y<W.heap.size∧W.heap[y]? = some o
theorem sw_at {W:World} {y:Nat} {o:Obj} (h:SW W y o):At W [] y o:=.inl h
theorem rd_cells {W:World} {a:Addr} {cs:List Value} (hn:cs≠[]) (h:∀ j u,cs[j]? = some u→W.cell? (a.add j)=some u):(∃ b off,a=⟨b,off,none⟩)∧Rd (SW W) (some a) cs:=by
  obtain ⟨b,off,sp⟩:=a
  cases cs with
  | nil=>exact absurd rfl hn
  | cons v r =>
    have h0:=h 0 v rfl
    unfold World.cell? at h0
    rw [show (Addr.add ⟨b,off,sp⟩ 0)=⟨b,off,sp⟩ from rfl] at h0
    cases hb:W.heap[b]? with
    | none=>rw [show (⟨b,off,sp⟩:Addr).block=b from rfl,hb] at h0; cases h0
    | some o =>
      rw [show (⟨b,off,sp⟩:Addr).block=b from rfl,hb] at h0
      cases o with
      | cells c e fz =>
        cases sp with
        | some s=>simp at h0
        | none =>
          refine ⟨⟨b,off,rfl⟩,.inr ⟨b,off,c,e,fz,rfl,⟨?_,hb⟩,fun j u hu=>?_⟩⟩
          · rcases Nat.lt_or_ge b W.heap.size with h | h
            · exact h
            · rw [Array.getElem?_eq_none h] at hb; cases hb
          · have hj:=h j u hu
            rw [H0] at hj
            unfold World.cell? at hj
            rw [show (⟨b,off+j,none⟩:Addr).block=b from rfl,hb] at hj
            simpa using hj
      | _=>cases h0
end Go.Proofs.YtmnihmfifpaaoaaGreatDoor
namespace Go.Proofs.YtmnihmfifpaaoaaGreatDoor
open Go Go.ChangeShapes Go.WideShapes Go.ChangeAt Go.RowKit Go.Sw Go.Esc Go.Gr
theorem cell_in {W:World} {g:Nat} {v:Value} (h:W.cell? ⟨g,0,none⟩=some v):g<W.heap.size:=by
  rcases Nat.lt_or_ge g W.heap.size with h1 | h1
  · exact h1
  · unfold World.cell? at h
    rw [show (⟨g,0,none⟩:Addr).block=g from rfl,Array.getElem?_eq_none h1] at h; cases h
theorem baseG_of {W:World} (hB:F2 W) (h:W.ShapedOpen Tryz.prog):K6 W:=by
  obtain ⟨m,hm⟩:=cell_of_shapedOpen_int (k:=.i64) h (g:=3) (of_decide_eq_true (by kernel_rfl)) (t:=3) (zero:=#[.int .i64 0]) (by kernel_rfl) rfl (by kernel_rfl) (by kernel_rfl) Tryz.underlying3
  exact ⟨hB,m,cell_in hm,hm⟩
set_option maxRecDepth 100000 in
theorem bytes_str:Tryz.prog.bytesOf 9=16:=congrArg (fun z=>(z.map (·.bytes)).getD 0) (show Tryz.prog.info? 9=some Tryz.t9 from rfl)
theorem cells_str:Tryz.prog.cellsOf 9=1:=by kernel_rfl
set_option maxRecDepth 100000 in
theorem open_strsZ {H:Type} {enc:TypeId × Value→H} {W:World} {v:Value} {d:DataW H} {p:List MemPlace} {r:Reach} {b0:Nat} (hval:Value.okWide Tryz.prog W r b0 22 v) (h0:DataW.Trod enc Tryz.prog W 0 (fun _=>true) true 22 v d p) (hw:(DataW.weights Tryz.prog 22 d).all (·≤reachBytes)=true) :
    ∃ (a:Option Addr) (c:Nat) (L:List ByteArray),v=.slice a L.length c∧Rd (SW W) a (Go.Sw.strs L)∧L.length≤1000000000000000:=by
  obtain ⟨a0,len,cap,rfl⟩:=okWide_slice Tryz.underlying22 hval
  obtain ⟨fuel,hf⟩:=h0
  rcases open_strings Tryz.underlying22 Tryz.underlying9 cells_str hf with ⟨hcs,hx⟩ | ⟨a,len',cap',ss,hcs,_,hl,hm,hz,hx,hcell,_⟩
  · have e:Value.slice a0 len cap=.slice none 0 0:=by simpa [Value.cells] using hcs
    exact ⟨none,0,[],e,.inl rfl,Nat.zero_le _⟩
  · have e:Value.slice a0 len cap=.slice (some a) len' cap':=by simpa [Value.cells] using hcs
    rw [e]
    simp only [if_true] at hz
    have hlen:(ss.take len').length=len':=by rw [List.length_take]; omega
    refine ⟨some a,cap',ss.take len',by rw [hlen],?_,?_⟩
    · by_cases h0:len'=0
      · subst h0; exact .inl (by simp [Go.Sw.strs])
      · exact (rd_cells (W:=W) (a:=a) (cs:=Go.Sw.strs (ss.take len')) (by intro he; unfold Go.Sw.strs at he; rw [List.map_eq_nil_iff] at he; rw [he] at hlen; simp at hlen; omega) (fun j u hu=>by
          unfold Go.Sw.strs at hu
          rw [List.getElem?_map] at hu
          obtain ⟨z,hz1,rfl⟩:=Option.map_eq_some_iff.1 hu
          have hj:j<len':=by
            rcases Nat.lt_or_ge j (ss.take len').length with h | h
            · omega
            · rw [List.getElem?_eq_none h] at hz1; cases hz1
          rw [List.getElem?_take_of_lt hj] at hz1
          rw [hcell j (by omega),List.getD_eq_getElem?_getD,hz1]; rfl)).2
    · have hd:d=.slice (Go.ChangeShapes.strs (ss.take len')) (Go.ChangeShapes.strs (ss.drop len')):=congrArg (·.1) hx
      subst hd
      unfold DataW.weights at hw
      rw [Tryz.underlying22] at hw
      dsimp only at hw
      rw [List.all_cons,Bool.and_eq_true,decide_eq_true_eq,bytes_str] at hw
      have h1:=hw.1
      have h2:(Go.ChangeShapes.strs (H:=H) (ss.take len')).length=(ss.take len').length:=by simp [Go.ChangeShapes.strs]
      rw [h2] at h1
      have h3:reachBytes=140737488351232:=rfl
      omega
set_option maxRecDepth 100000 in
theorem open_strZ {H:Type} {enc:TypeId × Value→H} {W:World} {v:Value} {d:DataW H} {p:List MemPlace} {r:Reach} {b0:Nat} (hval:Value.okWide Tryz.prog W r b0 9 v) (h0:DataW.Trod enc Tryz.prog W 0 (fun _=>true) true 9 v d p) (hw:(DataW.weights Tryz.prog 9 d).all (·≤reachBytes)=true) :
    ∃ s:ByteArray,v=.string s∧s.size≤1000000000000000:=by
  obtain ⟨s,rfl,hd,_,_⟩:=Go.ChangeMaps.open_string Tryz.underlying9 hval h0
  refine ⟨s,rfl,?_⟩
  subst hd
  unfold DataW.weights at hw
  rw [List.all_cons,Bool.and_eq_true,decide_eq_true_eq] at hw
  have h1:s.data.toList.length≤reachBytes:=hw.1
  have h3:reachBytes=140737488351232:=rfl
  rw [Array.length_toList] at h1
  show s.data.size≤_
  omega
variable {H : Type} {enc : TypeId × Value → H}
theorem returnsIn_shapedZ {a:Assume} {C:Checked} {os:Os} {f:FuncId} {fn:Func} {s:ChangeSpec} {conds:List PathCond} {apart fresh handsOn again:Bool} {X:World→Array Value→Prop}
    (hX:∀ (w w':World) (args:Array Value),w.heap=w'.heap→X w args→X w' args)
    (own:ownKnob C.prog.godebug=none) (started:os.Started) (noInit:C.prog.inits.idxOf? f=none) (hfn:C.prog.funcs[f]? = some fn)
    (witness:∃ (w:World) (tape:Tape) (i:Input),w.os=os∧(w.forCall tape i).Shaped C.prog∧i.vars=[]∧Input.okWide C.prog (w.forCall tape i) .any w.heap.size f i ∧
      ((s.pre enc C.prog fn conds apart (w.forCall tape i).memory i.args∧X (w.forCall tape i).memory i.args)∧sizedMet enc C.prog fn (OpenSpec.ofChange s) apart (w.forCall tape i).memory i.args)∧a.holds C.prog (lone (Frame.enter C.prog f i.args .normal) [] (w.forCall tape i)))
    (contract:∀ (W:World) (base:Nat) (args:Array Value) (ds gs:List (DataW H)) (before:List MemPlace),
      (∀ (j:Nat) t v,fn.params[j]? = some t→args[j]? = some v→Value.okWide C.prog W .any base t v) →
      DataW.Whole enc C.prog fn.params.toList s.vars apart W args.toList ds gs before →
      conds.all (PathCond.test C.prog ⟨fn.params.toList,ds,s.plain.varTypes C.prog,gs⟩)=true →
      X W args→W.ShapedOpen C.prog →
      (DataW.weightsEach C.prog (fn.params.toList++(OpenSpec.ofChange s).bare.plain.varTypes C.prog) (ds++gs)).all (·≤reachBytes)=true →
      Calls C.prog f args W fun e W'=>∃ v,e=.returned v∧s.post enc C.prog fn apart fresh handsOn again W args v W') :
    ReturnsInHanded a C os f .any (fun w args=>(s.pre enc C.prog fn conds apart w args∧X w args)∧sizedMet enc C.prog fn (OpenSpec.ofChange s) apart w args) (s.post enc C.prog fn apart fresh handsOn again):=by
  refine returnsInHanded_of_calls own started noInit witness ?_
  intro w tape i _ hsh _ hok hpre _
  obtain ⟨_,_,_,fn',hfn',_,_,_,_,hval⟩:=hok
  have e:fn'=fn:=Option.some.inj (hfn'.symm.trans hfn)
  subst e
  obtain ⟨⟨⟨ds,gs,before,hw,hc⟩,hx⟩,hz⟩:=hpre
  have hw':=DataW.Whole.of_heap (w':=w.forCall tape i) (by rfl) hw
  refine (contract (w.forCall tape i) w.heap.size i.args ds gs before hval hw' hc (hX _ _ _ (by rfl) hx) hsh (hz.weights hw)).mono fun e W' ⟨v,he,hp⟩=>?_
  subst he
  exact ChangeSpec.post_blind hp
end Go.Proofs.YtmnihmfifpaaoaaGreatDoor
namespace Go.Proofs.YtmnihmfifpaaoaaGreatDoor
open Go Go.ChangeShapes Go.WideShapes Go.ChangeAt Go.RowKit Go.Sw
theorem and_tt {a b:Bool} (h:a=true) (h2:b=true):(a&&b)=true:=by rw [h,h2]; rfl
theorem cl_may:Tryz.prog.mayEnter=true:=by kernel_rfl
theorem cl_lift:Tryz.prog.liftsFinal=Rows.graphAloneRow.lifted:=by kernel_rfl
theorem cl_make:Tryz.prog.make=some Rows.graphAloneRow.make:=by kernel_rfl
theorem cl_heard:Tryz.prog.stopsHeard=true:=by kernel_rfl
theorem cl_keys:Tryz.prog.plainKeys=Rows.graphAloneRow.plainKeys:=by kernel_rfl
end Go.Proofs.YtmnihmfifpaaoaaGreatDoor
namespace Go.Proofs.YtmnihmfifpaaoaaGreatDoor
open Go Go.ChangeShapes Go.WideShapes Go.ChangeAt Go.RowKit Go.Sw Go.Esc Go.Json Go.Gr
theorem ownKnobGraphAlone:ownKnob Tryz.prog.godebug=none:=by kernel_rfl
set_option maxRecDepth 100000 in
theorem graphAlone_lifted (os:Os) (started:os.Started) (H:Type) (enc:TypeId × Value→H) :
    ReturnsInHanded {} Tryz.checked os 3 .any (fun w args=>(Rows.graphAloneSpec.pre enc Tryz.prog Tryz.f3 Rows.graphAloneRow.domain false w args∧laidMetH Tryz.prog Rows.graphAloneRow.laid w)∧sizedMet enc Tryz.prog Tryz.f3 (OpenSpec.ofChange Rows.graphAloneSpec) false w args)
      (Rows.graphAloneSpec.post enc Tryz.prog Tryz.f3 false true false false):=by
  refine returnsIn_shapedZ (C:=Tryz.checked) (X:=fun w _=>laidMetH Tryz.prog Rows.graphAloneRow.laid w) (fun _ _ _ hh h=>h.of_heap hh) ownKnobGraphAlone started (by kernel_rfl) Tryz.func3
    (ChangeSpec.witness_shaped (enc:=enc) (C:=Tryz.checked) (os:=os) (X:=fun w _=>laidMetH Tryz.prog Rows.graphAloneRow.laid w) false (World.laidAll Tryz.prog os Rows.graphAloneRow.laid) #[.slice none 0 0,.int .i64 0,.string eB] 8 (World.laidAll_os _ _ _)
      (World.shaped_of_ZipB (by kernel_rfl) (by kernel_rfl)) (by kernel_rfl) (by kernel_rfl) (by kernel_rfl)
      (by rw [MakeChecks.laidMetH_plain _ _ _ (by kernel_rfl)]; exact laidMet_laidAll _ (by kernel_rfl) (by kernel_rfl))) ?_
  intro W base args ds gs before hval0 hW hc hL hsh hz
  have hval:∀ (j:Nat) t v,Tryz.f3.params[j]? = some t→args[j]? = some v→Value.okWide Tryz.prog W .any base t v:=hval0
  have hW':=hW
  obtain ⟨p,q,hA0,hV,rfl,_,_⟩:=hW
  have hA:DataW.TrodAll enc Tryz.prog W 0 (fun _=>true) true Tryz.f3.params.toList args.toList ds p:=hA0
  rw [Tryz.params3] at hA hval
  obtain ⟨v0,v1,v2,d0,d1,d2,q0,q1,q2,rfl,rfl,rfl,h0,h1,h2⟩:=trodAll_three hA
  obtain ⟨rfl,rfl⟩:=trodVars_none hV
  rw [Tryz.params3] at hz
  have hz2:((DataW.weights Tryz.prog 22 d0++(DataW.weights Tryz.prog 3 d1++(DataW.weights Tryz.prog 9 d2++DataW.weightsEach Tryz.prog (DataSpec.varTypes Tryz.checked.prog (OpenSpec.ofChange Rows.graphAloneSpec).bare.plain) []))).all fun x=>decide (x≤reachBytes))=true:=hz
  rw [List.all_append,Bool.and_eq_true,List.all_append,Bool.and_eq_true,List.all_append,Bool.and_eq_true] at hz2
  obtain ⟨a,c,L,rfl,hrd,hLz⟩:=open_strsZ (hval 0 22 v0 rfl rfl) h0 hz2.1
  obtain ⟨n,rfl⟩:=okWide_int Tryz.underlying3 (hval 1 3 v1 rfl rfl)
  obtain ⟨n',en,_,_,wn⟩:=open_int Tryz.underlying3 (hval 1 3 _ rfl rfl) h1
  injection en with _ en; subst en
  obtain ⟨t,rfl,ht⟩:=open_strZ (hval 2 9 v2 rfl rfl) h2 hz2.2.2.1
  simp only [List.append_nil] at hW'
  rw [MakeChecks.laidMetH_plain _ _ _ (by kernel_rfl)] at hL
  have hB:=baseG_of (base_of hL) hsh
  have hlt:∀ x∈q0++q1++q2,x.block<W.heap.size:=fun x hx=>by simpa using hW'.lt x hx
  refine (graphAlone_ a c L (SW W) hrd (by omega) n t ht W [] (fun y o h=>sw_at h) hB W (sat_nil W)).mono fun e W' ⟨v,H',he,⟨hv,hH⟩,hs⟩=>?_
  subst he; subst hv; subst hH
  have hb:=hs.below
  exact ⟨_,rfl,post_below (pv:=[]) hW' (fun _ _ _=>trodAll_mk1 (shut_bool Tryz.underlying4 _)) (fun sp hsp=>by have k:=trodAll_mk3 (WideElems.Trod_stays laidOut_ (by kernel_rfl) (of_decide_eq_true (by kernel_rfl)) h0 (fun x hx=>hb.same (hlt x (by simp [hx]))) (fun x hx=>hsp x (by simp [hx]))) (WideElems.Trod_stays laidOut_ (by kernel_rfl) (of_decide_eq_true (by kernel_rfl)) h1 (fun x hx=>hb.same (hlt x (by simp [hx]))) (fun x hx=>hsp x (by simp [hx]))) (WideElems.Trod_stays laidOut_ (by kernel_rfl) (of_decide_eq_true (by kernel_rfl)) h2 (fun x hx=>hb.same (hlt x (by simp [hx]))) (fun x hx=>hsp x (by simp [hx]))); rw [← List.append_assoc] at k; exact k) (fun _ _=>rfl) (by simp) hb (ok_one (by kernel_rfl) rfl (okWide_bool_mk Tryz.underlying4 _))⟩
set_option maxHeartbeats 4000000 in
theorem graphAlone_closed:joinedFacts Tryz.prog 3 Tryz.f3 Rows.graphAloneSpec Rows.graphAloneRow=true:=by
  unfold joinedFacts
  rw [cl_may,cl_lift,cl_make,cl_heard,cl_keys]
  iterate 31 (refine and_tt ?_ (by as_aux_lemma=>kernel_rfl))
  as_aux_lemma=>kernel_rfl
theorem graphAlone_said:Rows.GraphAloneSaid :=
  OpenClaim.holds_of_wide 3 Tryz.f3 rfl rfl rfl rfl rfl rfl rfl ⟨rfl,rfl,rfl,rfl,rfl⟩ rfl rfl rfl rfl rfl (by as_aux_lemma=>kernel_rfl) Tryz.func3 graphAlone_closed
    (of_decide_eq_true (by kernel_rfl)) (by unfold Func.isWrapper; first | (rw [if_pos (by decide +kernel)]; kernel_rfl) | (rw [if_neg (by decide +kernel)]; exact ⟨rfl,rfl⟩))
    (fun os started H enc _=>graphAlone_lifted os started H enc)
theorem graphAlone_card:Rows.GraphAloneCardSaid :=
  Claim7.holds_tied_plain_at .later [] _ _ _ _ graphAlone_said (fun _ h=>by cases h) (by as_aux_lemma=>kernel_rfl) (fun _ h=>by cases h) graphAlone_row_tie rfl ⟨rfl,rfl⟩ (by as_aux_lemma=>kernel_rfl) rfl
    (fun f fn hf hfn=>by
      obtain rfl : f = 3 := Option.some.inj ((show Tryz.prog.funcNamed "broadsheet/broadsheetlaw21.GraphAlone" = some 3 by as_aux_lemma => kernel_rfl).symm.trans hf) |>.symm
      obtain rfl:fn=Tryz.f3:=(Option.some.inj (Tryz.func3.symm.trans hfn)).symm
      exact ⟨by as_aux_lemma=>kernel_rfl,fun j t ht=>by
        rw [Tryz.params3] at ht
        have hm:t∈[22,3,9]:=by simpa using Array.mem_of_getElem? ht
        have hall:([22,3,9].all fun u=>!Tryz.prog.wantsStandIn u)=true:=by as_aux_lemma=>kernel_rfl
        exact (show Tryz.prog.wantsStandIn t=false by simpa using List.all_eq_true.1 hall t hm)⟩)
    (by as_aux_lemma=>kernel_rfl)
#print axioms graphAlone_card
end Go.Proofs.YtmnihmfifpaaoaaGreatDoor
