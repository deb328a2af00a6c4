/- slices.Sorted(maps.Keys(m)) of a map from texts: a new row, the keys rising. Conditions: the map's entries are apart, its keys are no longer than texts can be. (and what it stands on) -/
import Derived.Test.YtmnihmfifpaaoaaGreatDoorZ1
import Derived.Lib.Builder
import Derived.Lib.UnsafeStr
import Derived.Shelf.Unicode.DecodeSlow
import Derived.RangeFuncNested
import Derived.RangeFuncBound
import Derived.RangeFuncLeaves
import Derived.TacticsIn
import Derived.OrdersIn
import Derived.RangeFuncCalls
import Derived.Shelf.Abstract
import Derived.Shelf.RegionOpen
import Derived.WalkKit
import Derived.OwnWalkIn
import Derived.TacticsInMore
import Derived.LoopNIn
import Derived.LoopIn
import Derived.BigRegionIn
import Derived.Lib.ItoaNum
import Derived.Lib.IndexMore
import Derived.Lib.Split
import Derived.Shelf.Strings.Split
import Derived.Shelf.Strconv.Itoa3
import Derived.Shelf.SlIter.Nil
import Derived.Shelf.Sort.Plain
import Derived.Shelf.Slices.In.SortNone
import Derived.Sort.OwnSorted
namespace Go.Sw
open Go.RowKit
theorem shape_of {w:World} {b:Nat} {c:Array Value} {e:TypeId} {fz:Nat × Nat} (h:w.heap[b]? = some (.cells c e fz)):w.shape? b=some (e,c.size):=by simp [World.shape?,h]
theorem GL_toUnsafe {d:Bool} {P:Program} {ops:Array Oper} {i:Nat} {Q:B1} {n:Fr} {E:Env} {W0:World} {H:List Grp} {o:Oper} {ch:List (Nat × Bool)} {src dst t e:TypeId} {x:Operand} {inf:TypeInfo} {b:Nat} {c:Array Value} {fz:Nat × Nat}
    (ho:ops[i]? = some o) (hop:o.op=.convert src dst x) (hx:evO E ch x=some (.pointer (some ⟨b,0,none⟩))) (hs:P.underlying src=some (.pointer t)) (hdd:P.underlying dst=some .unsafePointer) (ht:P.info? t=some inf) (hj:(inf.size != 0)=true)
    (hch:A9 ops E o.guard=some ch) (hd:C1 n ch o.dst=true) (hk:E2 E ch=true)
    (hA:At W0 H b (.cells c e fz)) (hc:(c.size != 0)=true)
    (k:GL d P ops (i+1) Q n (Env.put E o.dst ch (.pointer (some ⟨b,0,none⟩))) W0 H):GL d P ops i Q n E W0 H:=by
  refine D7 ho hch hd hk (fun r hr _ w hsat=>?_) k
  unfold execOp
  simp only [hop]
  rw [hr _ _ hx]
  have:=Go.Lib.run_to_unsafe (P:=P) w ⟨b,0,none⟩ hs hdd ht (by simpa using hj) (shape_of (hsat.at hA)) (Nat.pos_of_ne_zero (by simpa using hc))
  simp only [Sem.run_bind,this,Result.andThen_ok]
  exact ⟨rfl,rfl⟩
theorem GL_fromUnsafe {d:Bool} {P:Program} {ops:Array Oper} {i:Nat} {Q:B1} {n:Fr} {E:Env} {W0:World} {H:List Grp} {o:Oper} {ch:List (Nat × Bool)} {src dst u e:TypeId} {x:Operand} {inf:TypeInfo} {b:Nat} {c:Array Value} {fz:Nat × Nat}
    (ho:ops[i]? = some o) (hop:o.op=.convert src dst x) (hx:evO E ch x=some (.pointer (some ⟨b,0,none⟩))) (hs:P.underlying src=some .unsafePointer) (hdd:P.underlying dst=some (.pointer u)) (ht:P.info? u=some inf)
    (hch:A9 ops E o.guard=some ch) (hd:C1 n ch o.dst=true) (hk:E2 E ch=true)
    (hA:At W0 H b (.cells c e fz)) (hlies:liesAt P P.depth e (c.size / P.cellsOf e) 0 u 1=true)
    (k:GL d P ops (i+1) Q n (Env.put E o.dst ch (.pointer (some ⟨b,0,none⟩))) W0 H):GL d P ops i Q n E W0 H:=by
  refine D7 ho hch hd hk (fun r hr _ w hsat=>?_) k
  unfold execOp
  simp only [hop]
  rw [hr _ _ hx]
  have:=Go.Lib.run_from_unsafe (P:=P) w ⟨b,0,none⟩ hs hdd ht (shape_of (hsat.at hA)) hlies
  simp only [Sem.run_bind,this,Result.andThen_ok]
  exact ⟨rfl,rfl⟩
theorem GL_neqPtr {d:Bool} {P:Program} {ops:Array Oper} {i:Nat} {Q:B1} {n:Fr} {E:Env} {W0:World} {H:List Grp} {o:Oper} {ch:List (Nat × Bool)} {tp te:TypeId} {x y:Operand} {inf:TypeInfo} {a:Addr}
    (ho:ops[i]? = some o) (hop:o.op=.binOp .neq tp x y tp) (hx:evO E ch x=some (.pointer (some a))) (hy:evO E ch y=some (.pointer (some a))) (hp:P.underlying tp=some (.pointer te)) (ht:P.info? te=some inf)
    (hch:A9 ops E o.guard=some ch) (hd:C1 n ch o.dst=true) (hk:E2 E ch=true)
    (k:GL d P ops (i+1) Q n (Env.put E o.dst ch (.bool false)) W0 H):GL d P ops i Q n E W0 H:=by
  refine D7 ho hch hd hk (fun r hr _ w hsat=>?_) k
  unfold execOp
  simp only [hop]
  rw [hr _ _ hx,hr _ _ hy]
  have:=Go.Lib.run_neq_ptr_same (P:=P) w a hp ht
  have hg:(eqGuard .neq tp x y (.pointer (some a)) (.pointer (some a))).run P w=.ok () w:=rfl
  simp only [Sem.run_bind,hg,this,Result.andThen_ok]
  exact ⟨rfl,rfl⟩
theorem GL_sliceData {d:Bool} {P:Program} {ops:Array Oper} {i:Nat} {Q:B1} {n:Fr} {E:Env} {W0:World} {H:List Grp} {o:Oper} {ch:List (Nat × Bool)} {c:Call} {a:Option Addr} {l cap:Nat}
    (ho:ops[i]? = some o:=by exact rfl) (hop:o.op=.call c:=by exact rfl) (hce:c.callee=.builtin .unsafeSliceData:=by exact rfl) (hargs:evL (evO E ch) c.args.toList=some [.slice a l cap]:=by kernel_rfl) (hc:a=none∨cap≠0)
    (hch:A9 ops E o.guard=some ch:=by kernel_rfl) (hd:C1 n ch o.dst=true:=by kernel_rfl) (hk:E2 E ch=true:=by kernel_rfl)
    (k:GL d P ops (i+1) Q n (Env.put E o.dst ch (.pointer a)) W0 H):GL d P ops i Q n E W0 H:=by
  refine D7 ho hch hd hk (fun r hr _ w hsat=>?_) k
  unfold execOp
  have hrun:(Builtin.unsafeSliceData_ c.argTypes o.type #[.slice a l cap]).run P w=.ok (.pointer a) w:=by
    cases a with
    | none=>exact Go.Lib.run_unsafeSliceData_nil (P:=P) w _ _ l cap
    | some a=>exact Go.Lib.run_unsafeSliceData_row (P:=P) w _ _ a l cap (by simpa using hc)
  simp only [hop,resolve,hce,E9 hr hargs,Sem.run_bind,Sem.run_pure,Result.andThen_ok,invoke,Go.builtin,hrun]
  exact ⟨rfl,rfl⟩
theorem GL_sliceData0 {P:Program} {ops:Array Oper} {i:Nat} {Q:B1} {n:Fr} {E:Env} {W0:World} {H:List Grp} {o:Oper} {ch:List (Nat × Bool)} {c:Call} {b:Nat} {l:Nat} {e:TypeId} {cs:Array Value} {et:TypeId} {fz:Nat × Nat}
    (ho:ops[i]? = some o) (hop:o.op=.call c) (hce:c.callee=.builtin .unsafeSliceData) (hargs:evL (evO E ch) c.args.toList=some [.slice (some ⟨b,0,none⟩) l 0]) (hp:P.underlying o.type=some (.pointer e))
    (hch:A9 ops E o.guard=some ch) (hd:C1 n ch o.dst=true) (hsure:G2 E ch=true) (hA:At W0 H b (.cells cs et fz))
    (k:∀ v,GL false P ops (i+1) Q n (Env.put E o.dst ch (.pointer (some ⟨v,0,none⟩))) W0 ([(v,.view ⟨b,0,none⟩ e)]::H)):GL false P ops i Q n E W0 H:=by
  refine J3 (R:=fun v H1=>∃ q,v=.pointer (some ⟨q,0,none⟩)∧H1=[(q,.view ⟨b,0,none⟩ e)]::H) ho hch hd hsure (fun r hr w hs=>?_) (by rintro v H1 ⟨q,rfl,rfl⟩; exact k q)
  have hrun:=Go.Lib.run_unsafeSliceData_zero (P:=P) w c.argTypes o.type e hp ⟨b,0,none⟩ l _ (shape_of (hs.at hA))
  refine ⟨_,w.alloc (.view ⟨b,0,none⟩ e),_,⟨w.heap.size,rfl,rfl⟩,hs.new rfl rfl rfl rfl,.inl ?_⟩
  unfold execOp
  simp only [hop,resolve,hce,E9 hr hargs,Sem.run_bind,Sem.run_pure,Result.andThen_ok,invoke,Go.builtin,hrun]
theorem L4 {d:Bool} {P:Program} {ops:Array Oper} {i:Nat} {Q:B1} {n:Fr} {E:Env} {W0:World} {H:List Grp} {o:Oper} {ch:List (Nat × Bool)} {c:Call} {p:Option Addr} {pt it:TypeId}
    (ho:ops[i]? = some o:=by exact rfl) (hop:o.op=.call c:=by exact rfl) (hce:c.callee=.builtin .unsafeString:=by exact rfl) (hat:c.argTypes=#[pt,it]:=by exact rfl) (hargs:evL (evO E ch) c.args.toList=some [.pointer p,.int .i64 0]:=by kernel_rfl)
    (hch:A9 ops E o.guard=some ch:=by kernel_rfl) (hd:C1 n ch o.dst=true:=by kernel_rfl) (hk:E2 E ch=true:=by kernel_rfl)
    (k:GL d P ops (i+1) Q n (Env.put E o.dst ch (.string .empty)) W0 H):GL d P ops i Q n E W0 H:=by
  refine D7 ho hch hd hk (fun r hr _ w hsat=>?_) k
  unfold execOp
  simp only [hop,resolve,hce,hat,E9 hr hargs,Sem.run_bind,Sem.run_pure,Result.andThen_ok,invoke,Go.builtin,Go.Lib.run_unsafeString_none]
  exact ⟨rfl,rfl⟩
theorem freeze_wr {w:World} {b n:Nat} {c:Array Value} {e:TypeId} (h:w.heap[b]? = some (.cells c e (0,0))) (hn:n≠0):Wr b (.cells c e (0,n)) w (w.freeze ⟨b,0,none⟩ n):=by
  have hb:b<w.heap.size:=by
    rcases Nat.lt_or_ge b w.heap.size with h' | h'
    · exact h'
    · simp [Array.getElem?_eq_none h'] at h
  unfold World.freeze
  rw [if_neg hn]
  refine ⟨rfl,rfl,rfl,by simp,?_,fun k hk=>?_⟩
  · simp only [Array.getElem?_modify,h]
    simp
  · simp only [Array.getElem?_modify]
    rw [if_neg (Ne.symm hk)]
theorem GL_unsafeStr {P:Program} {ops:Array Oper} {i:Nat} {Q:B1} {n:Fr} {E:Env} {W0:World} {H:List Grp} {o:Oper} {ch:List (Nat × Bool)} {c:Call} {b j:Nat} {pt it e:TypeId} {cs:Array Value} {l:List UInt8}
    (ho:ops[i]? = some o) (hop:o.op=.call c) (hce:c.callee=.builtin .unsafeString) (hat:c.argTypes=#[pt,it]) (hargs:evL (evO E ch) c.args.toList=some [.pointer (some ⟨b,0,none⟩),.int .i64 (l.length:Int)])
    (hp:P.underlying pt=some (.pointer e)) (hc1:(P.cellsOf e==1)=true)
    (hch:A9 ops E o.guard=some ch) (hd:C1 n ch o.dst=true) (hsure:G2 E ch=true)
    (hj:H[j]? = some [(b,.cells cs e (0,0))]) (h0:l≠[]) (hlc:l.length≤cs.size) (hmax:l.length≤9223372036854775807) (hcell:∀ (k:Nat) x,l[k]? = some x→cs[k]? = some (.int .u8 (x.toNat:Int)))
    (k:GL false P ops (i+1) Q n (Env.put E o.dst ch (.string ⟨l.toArray⟩)) W0 (H.set j [(b,.cells cs e (0,l.length))])):GL false P ops i Q n E W0 H:=by
  refine J3 (R:=fun v H1=>v=.string ⟨l.toArray⟩∧H1=H.set j [(b,.cells cs e (0,l.length))]) ho hch hd hsure (fun r hr w hs=>?_) (by rintro v H1 ⟨rfl,rfl⟩; exact k)
  have hi:([(b,Obj.cells cs e (0,0))]:Grp)[0]? = some (b,.cells cs e (0,0)):=rfl
  have hblk:=hs.has _ (List.mem_flatten.2 ⟨_,List.mem_of_getElem? hj,List.mem_of_getElem? hi⟩)
  have hrun:=Go.Lib.run_unsafeString_row (P:=P) w pt it o.type e hp (by simpa using hc1) b cs.size (shape_of hblk) l h0 hlc hmax (fun k x hx=>by
    have:=hcell k x hx
    rw [H0,Nat.zero_add]
    exact J4 hblk this)
  refine ⟨_,_,_,⟨rfl,rfl⟩,hs.wr hj hi (freeze_wr hblk (by simpa using h0)),.inl ?_⟩
  unfold execOp
  simp only [hop,resolve,hce,hat,E9 hr hargs,Sem.run_bind,Sem.run_pure,Result.andThen_ok,invoke,Go.builtin,hrun]
def Bld (b:Nat) (p:Value):Prop:=p=.pointer none∨p=.pointer (some ⟨b,0,none⟩)
theorem bld0 {b:Nat}:Bld b (.pointer none):=.inl rfl
theorem bld1 {b:Nat}:Bld b (.pointer (some ⟨b,0,none⟩)):=.inr rfl
end Go.Sw
namespace Go.Proofs.YtmnihmfifpaaoaaGreatDoor
open Go.Sw Go.Sha
theorem bytes_len (t:ByteArray):(u8s t.data.toList).length=t.size:=by
  rw [show (u8s t.data.toList).length=_ from List.length_map _,Array.length_toList]; rfl
theorem own_text {v:Value} {g:Grp} {n m:Nat} {t s:ByteArray} (h:Go.Sw.Own 5 1 v g n (u8s t.data.toList++u8s s.data.toList)) (hn:n=m) (hm:m=(t++s).size):Go.Sw.Own 5 1 v g (t++s).size (u8s (t++s).data.toList):=by
  have e:u8s (t++s).data.toList=u8s t.data.toList++u8s s.data.toList:=by rw [ByteArray.data_append,Array.toList_append]; exact List.map_append
  rw [← hm,← hn,e]; exact h
def bldG (b:Nat) (p v:Value):Grp:=[(b,.cells #[p,v] 108 (0,0))]
def BOwn (v:Value) (g:Grp) (t:ByteArray):Prop:=Go.Sw.Own 5 1 v g t.size (u8s t.data.toList)
theorem cc0 (b:Nat) (v:Value) (W0:World) (H:List Grp):Tri Tryz.prog 84 #[pt b] W0 ([(b,.cells #[.pointer none,v] 108 (0,0))]::H) (fun r H'=>r=.tuple #[]∧H'=bldG b (.pointer (some ⟨b,0,none⟩)) v::H):=by
 refine D4 20 Tryz.func84 ?_
 refine A1 (A2 (A3 (j:=3) [0,0,0] (k:=B8 0 0 rfl rfl (A6 (E':=[⟨0,[],pt b⟩,⟨6,[],.bool true⟩]) [0] [0,6] (k:=A0 (D3 kr (A2 (A3 (j:=2) [0,0] (k:=?_)))))))))
 refine GL_toUnsafe (i:=2) (ch:=[]) (inf:=Tryz.t108) (t:=108) (e:=108) (b:=b) rfl rfl kr kr kr kr kr kr kr kr (At.grp 0 0 rfl rfl) rfl (GL_extern (i:=3) (ch:=[]) (f:=112) (vs:=[pt b]) (v:=pt b) (e:=Extern.AbiNoEscape.same) rfl rfl rfl kr kr Tryz.func112 kr rfl kr kr kr kr kr (fun w=>Go.Lib.run_noEscape w _) (GL_fromUnsafe (i:=4) (ch:=[]) (inf:=Tryz.t108) (u:=108) (e:=108) (b:=b) rfl rfl kr kr kr kr kr kr kr (At.grp 0 0 rfl rfl) kr (A3 (j:=7) [0,0] (k:=D5 0 0 (pt b) rfl (A6 (E':=[]) [] [] (k:=B6 [] [] (k:=?_)))))))
 exact ⟨rfl,rfl⟩
theorem cc1 (b:Nat) (v:Value) (W0:World) (H:List Grp):Tri Tryz.prog 84 #[pt b] W0 ([(b,.cells #[pt b,v] 108 (0,0))]::H) (fun r H'=>r=.tuple #[]∧H'=bldG b (.pointer (some ⟨b,0,none⟩)) v::H):=by
 refine D4 20 Tryz.func84 ?_
 refine A1 (A2 (A3 (j:=3) [0,0,0] (k:=B8 0 0 rfl rfl (A6 (E':=[⟨0,[],pt b⟩,⟨6,[],.bool false⟩]) [0] [0,6] (k:=A0 (C2 kr (A1 (A2 ?_))))))))
 refine A3 (j:=3) [0,0,0] (k:=B8 0 0 rfl rfl (A3 (j:=5) [0] (k:=GL_neqPtr (i:=5) (ch:=[]) (inf:=Tryz.t108) (te:=108) (a:=⟨b,0,none⟩) rfl rfl kr kr kr kr kr kr kr (A6 (E':=[⟨19,[],.bool false⟩]) [] [19] (k:=A0 (C2 kr (A8 (B6 [] [] (k:=?_)))))))))
 exact ⟨rfl,rfl⟩
theorem copyCheck_ (b:Nat) (p v:Value) (hp:Bld b p) (W0:World) (H:List Grp):Tri Tryz.prog 84 #[pt b] W0 (bldG b p v::H) (fun r H'=>r=.tuple #[]∧H'=bldG b (.pointer (some ⟨b,0,none⟩)) v::H):=by
  rcases hp with rfl | rfl
  · exact cc0 b v W0 H
  · exact cc1 b v W0 H
theorem bStr0 (b:Nat) (p:Value) (W0:World) (H:List Grp):Tri Tryz.prog 66 #[pt b] W0 ([(b,.cells #[p,.slice none 0 0] 108 (0,0))]::H) (fun v H'=>v=.string .empty∧H'=bldG b p (.slice none 0 0)::H):=by
 refine D4 14 Tryz.func66 ?_
 refine A1 (C4 (E':=[⟨0,[],pt b⟩]) [0] [0] (k:=A0 (A1 (G_regionD (k:=A3 (j:=3) [0,0,0] (k:=B8 0 1 rfl rfl (GL_sliceData (ch:=[]) (a:=none) (l:=0) (cap:=0) (hc:=.inl rfl) (k:=A3 (j:=8) [0,0,0] (k:=?_)))))))))
 refine B8 0 1 rfl rfl (A3 (j:=10) [0] (k:=L4 (ch:=[]) (p:=none) (pt:=135) (it:=3) (k:=A6 (E':=[⟨2,[],.string .empty⟩]) [0] [2] (k:=A0 (B0 (B6 [.tmp 2] [.string .empty] (k:=?_)))))))
 exact ⟨rfl,rfl⟩
theorem bStr1 (b:Nat) (p:Value) (a:Nat) (cs:Array Value) (W0:World) (H:List Grp):Tri Tryz.prog 66 #[pt b] W0 ([(b,.cells #[p,.slice (some ⟨a,0,none⟩) 0 0] 108 (0,0))]::[(a,.cells cs 5 (0,0))]::H) (fun v H'=>v=.string .empty∧∃ x,H'=x::bldG b p (.slice (some ⟨a,0,none⟩) 0 0)::[(a,.cells cs 5 (0,0))]::H):=by
 refine D4 14 Tryz.func66 ?_
 refine A1 (C4 (E':=[⟨0,[],pt b⟩]) [0] [0] (k:=A0 (A1 (H9 ([(b,.cells #[p,.slice (some ⟨a,0,none⟩) 0 0] 108 (0,0))]::[(a,.cells cs 5 (0,0))]::H) kr (GH_p (fuel:=11) [(0,0)] (fun w h=>h) (k:=GH_nil (ad:=⟨b,0,none⟩) 1 (hL:=(fun w h=>h)) (k:=GH_p (fuel:=9) [(2,0)] (fun w h=>h) (k:=I7 3 kr (fun w h=>h) (B8 0 1 rfl rfl (J5 kr rfl)) ?_))))))))
 refine GH_p (fuel:=7) [(5,0)] (fun w h=>h) (k:=GH_nil (ad:=⟨b,0,none⟩) 6 (hL:=(fun w h=>h)) (k:=GH_p (fuel:=5) [(7,0)] (fun w h=>h) (k:=I7 8 kr (fun w h=>h) (B8 0 1 rfl rfl (J5 kr rfl)) (GH_pev (v:=.int .i64 0) 9 rfl rfl kr kr kr kr kr (fun w h=>h) (C9 4 (k:=GL_sliceData0 (i:=4) (ch:=[]) (b:=a) (l:=0) (e:=5) rfl rfl rfl kr kr kr kr kr (At.grp 1 0 rfl rfl) (fun b1=>B9 kr (fun w h=>(h.pk 1 [1,1])) (G5 ([(b1,.view ⟨a,0,none⟩ 5)]::[(b,.cells #[p,.slice (some ⟨a,0,none⟩) 0 0] 108 (0,0))]::[(a,.cells cs 5 (0,0))]::H) (fun w h=>(h.pk 1 [1,1])) ?_))))))))
 refine C9 10 (k:=L4 (ch:=[]) (p:=some ⟨b1,0,none⟩) (pt:=135) (it:=3) (k:=B9 kr (fun w h=>h) (GH_p (fuel:=0) [(11,0)] (fun w h=>h) (k:=G6 (E':=[⟨2,[],.string .empty⟩]) [2] (k:=A0 (B0 (B6 [.tmp 2] [.string .empty] (k:=?_))))))))
 exact ⟨rfl,_,rfl⟩
theorem bStr2 (b:Nat) (p:Value) (a:Nat) (cs:Array Value) (c:Nat) (hc:c≠0) (W0:World) (H:List Grp):Tri Tryz.prog 66 #[pt b] W0 ([(b,.cells #[p,.slice (some ⟨a,0,none⟩) 0 c] 108 (0,0))]::[(a,.cells cs 5 (0,0))]::H) (fun v H'=>v=.string .empty∧H'=bldG b p (.slice (some ⟨a,0,none⟩) 0 c)::[(a,.cells cs 5 (0,0))]::H):=by
 refine D4 14 Tryz.func66 ?_
 refine A1 (C4 (E':=[⟨0,[],pt b⟩]) [0] [0] (k:=A0 (A1 (G_regionD (k:=A3 (j:=3) [0,0,0] (k:=B8 0 1 rfl rfl (GL_sliceData (ch:=[]) (a:=(some ⟨a,0,none⟩)) (l:=0) (cap:=c) (hc:=.inr hc) (k:=A3 (j:=8) [0,0,0] (k:=?_)))))))))
 refine B8 0 1 rfl rfl (A3 (j:=10) [0] (k:=L4 (ch:=[]) (p:=some ⟨a,0,none⟩) (pt:=135) (it:=3) (k:=A6 (E':=[⟨2,[],.string .empty⟩]) [0] [2] (k:=A0 (B0 (B6 [.tmp 2] [.string .empty] (k:=?_)))))))
 exact ⟨rfl,rfl⟩
theorem bStr3 (b:Nat) (p:Value) (a:Nat) (cs:Array Value) (c:Nat) (l:List UInt8) (hc:c≠0) (h0:l≠[]) (hlc:l.length≤cs.size) (hmax:l.length≤9223372036854775807) (hcell:∀ (k:Nat) x,l[k]? = some x→cs[k]? = some (.int .u8 (x.toNat:Int))) (W0:World) (H:List Grp):Tri Tryz.prog 66 #[pt b] W0 ([(b,.cells #[p,.slice (some ⟨a,0,none⟩) l.length c] 108 (0,0))]::[(a,.cells cs 5 (0,0))]::H) (fun v H'=>v=.string ⟨l.toArray⟩∧H'=bldG b p (.slice (some ⟨a,0,none⟩) l.length c)::[(a,.cells cs 5 (0,l.length))]::H):=by
 refine D4 14 Tryz.func66 ?_
 refine A1 (C4 (E':=[⟨0,[],pt b⟩]) [0] [0] (k:=A0 (A1 (H9 ([(b,.cells #[p,.slice (some ⟨a,0,none⟩) l.length c] 108 (0,0))]::H) kr (GH_p (fuel:=11) [(0,0)] (fun w h=>(h.pk 1 [0])) (k:=GH_nil (ad:=⟨b,0,none⟩) 1 (hL:=(fun w h=>(h.pk 1 [0]))) (k:=GH_p (fuel:=9) [(2,0)] (fun w h=>(h.pk 1 [0])) (k:=I7 3 kr (fun w h=>(h.pk 1 [0])) (B8 0 1 rfl rfl (J5 kr rfl)) ?_))))))))
 refine GH_p (fuel:=7) [(5,0)] (fun w h=>(h.pk 1 [0])) (k:=GH_nil (ad:=⟨b,0,none⟩) 6 (hL:=(fun w h=>(h.pk 1 [0]))) (k:=GH_p (fuel:=5) [(7,0)] (fun w h=>(h.pk 1 [0])) (k:=I7 8 kr (fun w h=>(h.pk 1 [0])) (B8 0 1 rfl rfl (J5 kr rfl)) (GH_pev (v:=.int .i64 ((l.length:Nat):Int)) 9 rfl rfl kr kr kr kr kr (fun w h=>(h.pk 1 [0])) (C9 4 (k:=GL_sliceData (ch:=[]) (a:=(some ⟨a,0,none⟩)) (l:=l.length) (cap:=c) (hc:=.inr hc) (k:=B9 kr (fun w h=>(h.pk 1 [0])) (C9 10 (k:=?_)))))))))
 refine GL_unsafeStr (i:=10) (ch:=[]) (b:=a) (j:=1) (pt:=135) (it:=3) (e:=5) (cs:=cs) (l:=l) rfl rfl rfl rfl kr kr kr kr kr kr rfl h0 hlc hmax hcell (B9 kr (fun w h=>(h.pk 1 [0])) (GH_p (fuel:=0) [(11,0)] (fun w h=>(h.pk 1 [0])) (k:=G6 (E':=[⟨2,[],.string ⟨l.toArray⟩⟩]) [2] (k:=A0 (B0 (B6 [.tmp 2] [.string ⟨l.toArray⟩] (k:=?_)))))))
 exact ⟨rfl,rfl⟩
theorem u8_at (t:ByteArray) (junk:List Value) (k:Nat) (x:UInt8) (h:t.data.toList[k]? = some x):((u8s t.data.toList++junk).toArray)[k]? = some (.int .u8 (x.toNat:Int)):=by
  obtain ⟨hk,hx⟩:=List.getElem?_eq_some_iff.1 h
  rw [List.getElem?_toArray,List.getElem?_append_left (by simpa [u8s] using hk)]
  simp [u8s,h]
theorem builderString (b:Nat) (p v:Value) (g:Grp) (t:ByteArray) (hv:BOwn v g t) (hs:t.size≤140737488355328) (W0:World) (H:List Grp):Tri Tryz.prog 66 #[pt b] W0 (bldG b p v::g::H) (fun r H'=>r=.string t∧H'=bldG b p v::H):=by
  obtain ⟨hl,⟨rfl,rfl,h0⟩ | ⟨a,cap,junk,rfl,rfl,hcap,hj⟩⟩:=hv
  · have ht:t=.empty:=by cases t with | mk d=>(have:d=#[]:=Array.eq_empty_of_size_eq_zero h0); rw [this]; rfl
    subst ht
    exact Tri.heap (fun _ h=>h.erase 1) (bStr0 b p W0 H)
  · by_cases h0:t.size=0
    · have ht:t=.empty:=by cases t with | mk d=>(have:d=#[]:=Array.eq_empty_of_size_eq_zero h0); rw [this]; rfl
      by_cases hc:cap=0
      · subst hc; subst ht
        exact Tri.post (bStr1 b p a _ W0 H) fun v H' ⟨h1,x,h2⟩=>⟨_,⟨h1,rfl⟩,fun w hw=>by rw [h2] at hw; exact (hw.erase 2).erase 0⟩
      · subst ht
        exact Tri.post (bStr2 b p a _ cap hc W0 H) fun v H' ⟨h1,h2⟩=>⟨_,⟨h1,rfl⟩,fun w hw=>by rw [h2] at hw; exact hw.erase 1⟩
    · have hcap0:cap≠0:=by omega
      have hlen:t.data.toList.length=t.size:=Array.length_toList
      have:=bStr3 b p a (u8s t.data.toList++junk).toArray cap t.data.toList hcap0 (fun h=>h0 (by rw [← hlen,h]; rfl)) (by rw [List.size_toArray,List.length_append,bytes_len,hlen]; omega) (by omega) (u8_at t junk) W0 H
      rw [hlen] at this
      exact Tri.post this fun v H' ⟨h1,h2⟩=>⟨_,⟨by rw [h1],rfl⟩,fun w hw=>by rw [h2] at hw; exact hw.erase 1⟩
end Go.Proofs.YtmnihmfifpaaoaaGreatDoor
namespace Go.Proofs.YtmnihmfifpaaoaaGreatDoor
open Go.Sw Go.Sha Go.Esc
theorem w8m (x:Int):IntKind.wrap .u8 x=x % 256:=by first | rfl | simp [IntKind.wrap,IntKind.bits,IntKind.signed]
theorem w32u {x:Int} (h0:0≤x) (h1:x<4294967296):IntKind.wrap .u32 x=x:=by
  rw [show IntKind.wrap .u32 x=x % 4294967296 from by first | rfl | simp [IntKind.wrap,IntKind.bits,IntKind.signed]]; omega
theorem or192 {y:Int} (h0:0≤y) (h1:y<32):IntKind.wrap .u8 ((BitVec.ofInt (IntKind.bits .u8) 192 ||| BitVec.ofInt (IntKind.bits .u8) y).toNat)=192+y:=by
  have h:∀ n:Fin 32,IntKind.wrap .u8 ((BitVec.ofInt (IntKind.bits .u8) 192 ||| BitVec.ofInt (IntKind.bits .u8) (n.val:Int)).toNat)=192+(n.val:Int):=by decide +kernel
  have:=h ⟨y.toNat,by omega⟩
  simpa [show ((y.toNat:Nat):Int)=y by omega] using this
theorem or224 {y:Int} (h0:0≤y) (h1:y<16):IntKind.wrap .u8 ((BitVec.ofInt (IntKind.bits .u8) 224 ||| BitVec.ofInt (IntKind.bits .u8) y).toNat)=224+y:=by
  have h:∀ n:Fin 16,IntKind.wrap .u8 ((BitVec.ofInt (IntKind.bits .u8) 224 ||| BitVec.ofInt (IntKind.bits .u8) (n.val:Int)).toNat)=224+(n.val:Int):=by decide +kernel
  have:=h ⟨y.toNat,by omega⟩
  simpa [show ((y.toNat:Nat):Int)=y by omega] using this
theorem or240 {y:Int} (h0:0≤y) (h1:y<8):IntKind.wrap .u8 ((BitVec.ofInt (IntKind.bits .u8) 240 ||| BitVec.ofInt (IntKind.bits .u8) y).toNat)=240+y:=by
  have h:∀ n:Fin 8,IntKind.wrap .u8 ((BitVec.ofInt (IntKind.bits .u8) 240 ||| BitVec.ofInt (IntKind.bits .u8) (n.val:Int)).toNat)=240+(n.val:Int):=by decide +kernel
  have:=h ⟨y.toNat,by omega⟩
  simpa [show ((y.toNat:Nat):Int)=y by omega] using this
theorem lo63 {y:Int} (h0:0≤y) (h1:y<256):IntKind.wrap .u8 ((BitVec.ofInt (IntKind.bits .u8) 128 ||| BitVec.ofInt (IntKind.bits .u8) (IntKind.wrap .u8 ((BitVec.ofInt (IntKind.bits .u8) y &&& BitVec.ofInt (IntKind.bits .u8) 63).toNat))).toNat)=128+y % 64:=by
  have h:∀ n:Fin 256,IntKind.wrap .u8 ((BitVec.ofInt (IntKind.bits .u8) 128 ||| BitVec.ofInt (IntKind.bits .u8) (IntKind.wrap .u8 ((BitVec.ofInt (IntKind.bits .u8) (n.val:Int) &&& BitVec.ofInt (IntKind.bits .u8) 63).toNat))).toNat)=128+(n.val:Int) % 64:=by decide +kernel
  have:=h ⟨y.toNat,by omega⟩
  simpa [show ((y.toNat:Nat):Int)=y by omega] using this
theorem hi2 {r:Int} (h0:128≤r) (h1:r≤2047):IntKind.wrap .u8 ((BitVec.ofInt (IntKind.bits .u8) 192 ||| BitVec.ofInt (IntKind.bits .u8) (IntKind.wrap .u8 (Int.fdiv r (2 ^ 6)))).toNat)=192+r / 64:=by
  rw [w8m (Int.fdiv r (2 ^ 6)),Int.fdiv_eq_ediv_of_nonneg _ (by decide),or192 (by omega) (by omega)]; omega
theorem hi3 {r:Int} (h0:2048≤r) (h1:r≤65535):IntKind.wrap .u8 ((BitVec.ofInt (IntKind.bits .u8) 224 ||| BitVec.ofInt (IntKind.bits .u8) (IntKind.wrap .u8 (Int.fdiv r (2 ^ 12)))).toNat)=224+r / 4096:=by
  rw [w8m (Int.fdiv r (2 ^ 12)),Int.fdiv_eq_ediv_of_nonneg _ (by decide),or224 (by omega) (by omega)]; omega
theorem hi4 {r:Int} (h0:65536≤r) (h1:r≤1114111):IntKind.wrap .u8 ((BitVec.ofInt (IntKind.bits .u8) 240 ||| BitVec.ofInt (IntKind.bits .u8) (IntKind.wrap .u8 (Int.fdiv r (2 ^ 18)))).toNat)=240+r / 262144:=by
  rw [w8m (Int.fdiv r (2 ^ 18)),Int.fdiv_eq_ediv_of_nonneg _ (by decide),or240 (by omega) (by omega)]; omega
theorem lo0 {r:Int} (_:0≤r):IntKind.wrap .u8 ((BitVec.ofInt (IntKind.bits .u8) 128 ||| BitVec.ofInt (IntKind.bits .u8) (IntKind.wrap .u8 ((BitVec.ofInt (IntKind.bits .u8) (IntKind.wrap .u8 r) &&& BitVec.ofInt (IntKind.bits .u8) 63).toNat))).toNat)=128+r % 64:=by
  rw [w8m r,lo63 (by omega) (by omega)]; omega
theorem lo6 {r:Int} (_:0≤r):IntKind.wrap .u8 ((BitVec.ofInt (IntKind.bits .u8) 128 ||| BitVec.ofInt (IntKind.bits .u8) (IntKind.wrap .u8 ((BitVec.ofInt (IntKind.bits .u8) (IntKind.wrap .u8 (Int.fdiv r (2 ^ 6))) &&& BitVec.ofInt (IntKind.bits .u8) 63).toNat))).toNat)=128+r / 64 % 64:=by
  rw [w8m (Int.fdiv r (2 ^ 6)),Int.fdiv_eq_ediv_of_nonneg _ (by decide),lo63 (by omega) (by omega)]; omega
theorem lo12 {r:Int} (_:0≤r):IntKind.wrap .u8 ((BitVec.ofInt (IntKind.bits .u8) 128 ||| BitVec.ofInt (IntKind.bits .u8) (IntKind.wrap .u8 ((BitVec.ofInt (IntKind.bits .u8) (IntKind.wrap .u8 (Int.fdiv r (2 ^ 12))) &&& BitVec.ofInt (IntKind.bits .u8) 63).toNat))).toNat)=128+r / 4096 % 64:=by
  rw [w8m (Int.fdiv r (2 ^ 12)),Int.fdiv_eq_ediv_of_nonneg _ (by decide),lo63 (by omega) (by omega)]; omega
def encB (r:Int):ByteArray:=⟨(Lib.encodeRune r).toArray⟩
theorem K0 (r:Int):(encB r).data.toList=Lib.encodeRune r:=by simp [encB]
theorem encB_size (r:Int):1≤(encB r).size∧(encB r).size≤4:=by
  have:=Lib.encodeRuneZ_length r
  have e:(encB r).size=(Lib.encodeRuneZ r).length:=by simp [encB,ByteArray.size,Lib.encodeRune]
  omega
theorem u8s_enc (r:Int):u8s (Lib.encodeRune r)=(Lib.encodeRuneZ r).map (Value.int .u8):=by
  unfold u8s Lib.encodeRune
  rw [List.map_map]
  refine List.map_congr_left fun x hx=>?_
  have:=Lib.encodeRuneZ_byte r x hx
  show Value.int .u8 ((x.toNat.toUInt8.toNat:Nat):Int)=_
  rw [byteZ x this.1 this.2]; congr 1; omega
theorem own_put {v:Value} {g:Grp} {n m:Nat} {t s:ByteArray} {cs:List Value} (h:Go.Sw.Own 5 1 v g (n+m) (u8s t.data.toList++cs)) (hn:n=t.size) (hc:cs=u8s s.data.toList) (hm:m=s.size):BOwn v g (t++s):=by
  subst hc; subst hn; subst hm
  exact own_text h rfl (by simp)
theorem appNon_ (v:Value) (g:Grp) (t:ByteArray) (r:Int) (hv:BOwn v g t) (hr:isR r) (hna:128≤r) (hs:t.size+4≤140737488355328) (W0:World) (H:List Grp):Tri Tryz.prog 114 #[v,.int .i32 r] W0 (g::H) (fun x H'=>∃ v' g',x=v'∧BOwn v' g' (t++encB r)∧H'=g'::H):=by
 obtain ⟨hr0,hr1,hr2⟩:=hr
 refine D4 78 Tryz.func114 ?_
 refine A1 (C4 (E':=[⟨0,[],v⟩,⟨1,[],.int .i32 r⟩]) [0] [0,1] (k:=A0 (A1 ?_)))
 have hw1:IntKind.wrap .u32 r=r:=w32u (by omega) (by omega)
 refine A2 (A3 (j:=3) [0,0,0] (k:=D2 5 (x:=.int .u32 (IntKind.wrap .u32 r)) (y:=.int .u32 r) (by simp only [hw1]) (A7 [] [0,1,5] (k:=A0 (C8 (A1 (G_p [0,0,0] [0,1,5,11] (k:=A0 ?_))))))))
 refine C5 (b:=decide (r≤2047)) kr (fun hc2=>?_) (fun hc2=>?_)
 ·
  simp only [decide_eq_true_eq] at hc2
  refine A1 (A2 (A3 (j:=5) [0,0,0,0,0] (k:=D2 18 (x:=.int .u8 (IntKind.wrap .u8 ((BitVec.ofInt (IntKind.bits .u8) 192 ||| BitVec.ofInt (IntKind.bits .u8) (IntKind.wrap .u8 (Int.fdiv r (2 ^ 6)))).toNat))) (y:=.int .u8 (192+r / 64)) (by rw [hi2 (by omega) (by omega)]) (A3 (j:=9) [0,0,0,0] (k:=D2 22 (x:=.int .u8 (IntKind.wrap .u8 ((BitVec.ofInt (IntKind.bits .u8) 128 ||| BitVec.ofInt (IntKind.bits .u8) (IntKind.wrap .u8 ((BitVec.ofInt (IntKind.bits .u8) (IntKind.wrap .u8 r) &&& BitVec.ofInt (IntKind.bits .u8) 63).toNat))).toNat))) (y:=.int .u8 (128+r % 64)) (by rw [lo0 (by omega)]) (I0 5 2 [.int .u8 (192+r / 64),.int .u8 (128+r % 64)] (fun b3=>GL_ap (inf:=Tryz.t5) 2 0 1 rfl rfl hv (by omega) (by show (t.size+2) * 1≤140737488355328; omega) (fun v4 g5 hO6=>?_))))))))
  obtain ⟨a7,cap8,rfl,hcap9,hrd10⟩:=hO6.shape
  refine A6 (E':=[⟨4,[],.slice a7 (t.size+2) cap8⟩]) [0] [4] (k:=A0 (B0 (B4 (N_pk 1 [1] (B6 [.tmp 4] [.slice a7 (t.size+2) cap8] (k:=?_))))))
  exact ⟨_,_,rfl,own_put hO6 rfl (by rw [K0,u8s_enc,Lib.encodeRuneZ_two (r:=r) (by omega) (by omega)]; rfl) (by simp [encB,ByteArray.size,Lib.encodeRune,Lib.encodeRuneZ_two (r:=r) (by omega) (by omega)]),rfl⟩
 ·
  simp only [decide_eq_false_iff_not] at hc2
  refine A1 (A1 (G_p [0,0,0] [0,1,5,25] (k:=A0 (C5 (b:=decide (r<55296)) kr (fun hc11=>?_) (fun hc11=>?_)))))
  ·
   simp only [decide_eq_true_eq] at hc11
   refine A8 (A0 (C5 (b:=decide (r<55296)) kr (fun hc12=>?_) (fun hc12=>?_)))
   ·
    simp only [decide_eq_true_eq] at hc12
    refine A1 (A2 (A3 (j:=5) [0,0,0,0,0] (k:=D2 38 (x:=.int .u8 (IntKind.wrap .u8 ((BitVec.ofInt (IntKind.bits .u8) 224 ||| BitVec.ofInt (IntKind.bits .u8) (IntKind.wrap .u8 (Int.fdiv r (2 ^ 12)))).toNat))) (y:=.int .u8 (224+r / 4096)) (by rw [hi3 (by omega) (by omega)]) (A3 (j:=10) [0,0,0,0,0] (k:=D2 43 (x:=.int .u8 (IntKind.wrap .u8 ((BitVec.ofInt (IntKind.bits .u8) 128 ||| BitVec.ofInt (IntKind.bits .u8) (IntKind.wrap .u8 ((BitVec.ofInt (IntKind.bits .u8) (IntKind.wrap .u8 (Int.fdiv r (2 ^ 6))) &&& BitVec.ofInt (IntKind.bits .u8) 63).toNat))).toNat))) (y:=.int .u8 (128+r / 64 % 64)) (by rw [lo6 (by omega)]) (A3 (j:=14) [0,0,0,0] (k:=D2 47 (x:=.int .u8 (IntKind.wrap .u8 ((BitVec.ofInt (IntKind.bits .u8) 128 ||| BitVec.ofInt (IntKind.bits .u8) (IntKind.wrap .u8 ((BitVec.ofInt (IntKind.bits .u8) (IntKind.wrap .u8 r) &&& BitVec.ofInt (IntKind.bits .u8) 63).toNat))).toNat))) (y:=.int .u8 (128+r % 64)) (by rw [lo0 (by omega)]) (I0 5 3 [.int .u8 (224+r / 4096),.int .u8 (128+r / 64 % 64),.int .u8 (128+r % 64)] (fun b13=>?_)))))))))
    refine GL_ap (inf:=Tryz.t5) 3 0 1 rfl rfl hv (by omega) (by show (t.size+3) * 1≤140737488355328; omega) (fun v14 g15 hO16=>?_)
    obtain ⟨a17,cap18,rfl,hcap19,hrd20⟩:=hO16.shape
    refine A6 (E':=[⟨4,[],.slice a17 (t.size+3) cap18⟩]) [0] [4] (k:=A0 (B0 (B4 (N_pk 1 [1] (B6 [.tmp 4] [.slice a17 (t.size+3) cap18] (k:=?_))))))
    exact ⟨_,_,rfl,own_put hO16 rfl (by rw [K0,u8s_enc,Lib.encodeRuneZ_three (r:=r) (by omega)]; rfl) (by simp [encB,ByteArray.size,Lib.encodeRune,Lib.encodeRuneZ_three (r:=r) (by omega)]),rfl⟩
   ·
    simp only [decide_eq_false_iff_not] at hc12; omega
  ·
   simp only [decide_eq_false_iff_not] at hc11
   refine G_p [0,0,0,0,0,6,0] [0,1,5,25] (k:=A0 (C5 (b:=(decide (57343<r))&&(decide (r≤65535))) kr (fun hc21=>?_) (fun hc21=>?_)))
   ·
    simp only [Bool.and_eq_true,decide_eq_true_eq] at hc21
    refine A1 (A2 (A3 (j:=5) [0,0,0,0,0] (k:=D2 38 (x:=.int .u8 (IntKind.wrap .u8 ((BitVec.ofInt (IntKind.bits .u8) 224 ||| BitVec.ofInt (IntKind.bits .u8) (IntKind.wrap .u8 (Int.fdiv r (2 ^ 12)))).toNat))) (y:=.int .u8 (224+r / 4096)) (by rw [hi3 (by omega) (by omega)]) (A3 (j:=10) [0,0,0,0,0] (k:=D2 43 (x:=.int .u8 (IntKind.wrap .u8 ((BitVec.ofInt (IntKind.bits .u8) 128 ||| BitVec.ofInt (IntKind.bits .u8) (IntKind.wrap .u8 ((BitVec.ofInt (IntKind.bits .u8) (IntKind.wrap .u8 (Int.fdiv r (2 ^ 6))) &&& BitVec.ofInt (IntKind.bits .u8) 63).toNat))).toNat))) (y:=.int .u8 (128+r / 64 % 64)) (by rw [lo6 (by omega)]) (A3 (j:=14) [0,0,0,0] (k:=D2 47 (x:=.int .u8 (IntKind.wrap .u8 ((BitVec.ofInt (IntKind.bits .u8) 128 ||| BitVec.ofInt (IntKind.bits .u8) (IntKind.wrap .u8 ((BitVec.ofInt (IntKind.bits .u8) (IntKind.wrap .u8 r) &&& BitVec.ofInt (IntKind.bits .u8) 63).toNat))).toNat))) (y:=.int .u8 (128+r % 64)) (by rw [lo0 (by omega)]) (I0 5 3 [.int .u8 (224+r / 4096),.int .u8 (128+r / 64 % 64),.int .u8 (128+r % 64)] (fun b22=>?_)))))))))
    refine GL_ap (inf:=Tryz.t5) 3 0 1 rfl rfl hv (by omega) (by show (t.size+3) * 1≤140737488355328; omega) (fun v23 g24 hO25=>?_)
    obtain ⟨a26,cap27,rfl,hcap28,hrd29⟩:=hO25.shape
    refine A6 (E':=[⟨4,[],.slice a26 (t.size+3) cap27⟩]) [0] [4] (k:=A0 (B0 (B4 (N_pk 1 [1] (B6 [.tmp 4] [.slice a26 (t.size+3) cap27] (k:=?_))))))
    exact ⟨_,_,rfl,own_put hO25 rfl (by rw [K0,u8s_enc,Lib.encodeRuneZ_three (r:=r) (by omega)]; rfl) (by simp [encB,ByteArray.size,Lib.encodeRune,Lib.encodeRuneZ_three (r:=r) (by omega)]),rfl⟩
   ·
    simp only [Bool.and_eq_false_iff,decide_eq_false_iff_not] at hc21
    refine A1 (G_p [0,0,0,0,0,6,0] [0,1,50] (k:=A0 (C5 (b:=(decide (r > 65535))&&(decide (r≤1114111))) kr (fun hc30=>?_) (fun hc30=>?_))))
    ·
     simp only [Bool.and_eq_true,decide_eq_true_eq,gt_iff_lt] at hc30
     refine A1 (A2 (A3 (j:=5) [0,0,0,0,0] (k:=D2 61 (x:=.int .u8 (IntKind.wrap .u8 ((BitVec.ofInt (IntKind.bits .u8) 240 ||| BitVec.ofInt (IntKind.bits .u8) (IntKind.wrap .u8 (Int.fdiv r (2 ^ 18)))).toNat))) (y:=.int .u8 (240+r / 262144)) (by rw [hi4 (by omega) (by omega)]) (A3 (j:=10) [0,0,0,0,0] (k:=D2 66 (x:=.int .u8 (IntKind.wrap .u8 ((BitVec.ofInt (IntKind.bits .u8) 128 ||| BitVec.ofInt (IntKind.bits .u8) (IntKind.wrap .u8 ((BitVec.ofInt (IntKind.bits .u8) (IntKind.wrap .u8 (Int.fdiv r (2 ^ 12))) &&& BitVec.ofInt (IntKind.bits .u8) 63).toNat))).toNat))) (y:=.int .u8 (128+r / 4096 % 64)) (by rw [lo12 (by omega)]) (A3 (j:=15) [0,0,0,0,0] (k:=D2 71 (x:=.int .u8 (IntKind.wrap .u8 ((BitVec.ofInt (IntKind.bits .u8) 128 ||| BitVec.ofInt (IntKind.bits .u8) (IntKind.wrap .u8 ((BitVec.ofInt (IntKind.bits .u8) (IntKind.wrap .u8 (Int.fdiv r (2 ^ 6))) &&& BitVec.ofInt (IntKind.bits .u8) 63).toNat))).toNat))) (y:=.int .u8 (128+r / 64 % 64)) (by rw [lo6 (by omega)]) (A3 (j:=19) [0,0,0,0] (k:=?_)))))))))
     refine D2 75 (x:=.int .u8 (IntKind.wrap .u8 ((BitVec.ofInt (IntKind.bits .u8) 128 ||| BitVec.ofInt (IntKind.bits .u8) (IntKind.wrap .u8 ((BitVec.ofInt (IntKind.bits .u8) (IntKind.wrap .u8 r) &&& BitVec.ofInt (IntKind.bits .u8) 63).toNat))).toNat))) (y:=.int .u8 (128+r % 64)) (by rw [lo0 (by omega)]) (I0 5 4 [.int .u8 (240+r / 262144),.int .u8 (128+r / 4096 % 64),.int .u8 (128+r / 64 % 64),.int .u8 (128+r % 64)] (fun b31=>GL_ap (inf:=Tryz.t5) 4 0 1 rfl rfl hv (by omega) (by show (t.size+4) * 1≤140737488355328; omega) (fun v32 g33 hO34=>?_)))
     obtain ⟨a35,cap36,rfl,hcap37,hrd38⟩:=hO34.shape
     refine A6 (E':=[⟨4,[],.slice a35 (t.size+4) cap36⟩]) [0] [4] (k:=A0 (B0 (B4 (N_pk 1 [1] (B6 [.tmp 4] [.slice a35 (t.size+4) cap36] (k:=?_))))))
     exact ⟨_,_,rfl,own_put hO34 rfl (by rw [K0,u8s_enc,Lib.encodeRuneZ_four (r:=r) (by omega) (by omega)]; rfl) (by simp [encB,ByteArray.size,Lib.encodeRune,Lib.encodeRuneZ_four (r:=r) (by omega) (by omega)]),rfl⟩
    ·
     simp only [Bool.and_eq_false_iff,decide_eq_false_iff_not,gt_iff_lt] at hc30; omega
theorem appRune_ (v:Value) (g:Grp) (t:ByteArray) (r:Int) (hv:BOwn v g t) (hr:isR r) (hs:t.size+4≤140737488355328) (W0:World) (H:List Grp):Tri Tryz.prog 87 #[v,.int .i32 r] W0 (g::H) (fun x H'=>∃ v' g',x=v'∧BOwn v' g' (t++encB r)∧H'=g'::H):=by
 obtain ⟨hr0,hr1,hr2⟩:=hr
 refine D4 16 Tryz.func87 ?_
 refine A1 (C4 (E':=[⟨0,[],v⟩,⟨1,[],.int .i32 r⟩]) [0] [0,1] (k:=A0 (A1 (A1 ?_))))
 have hw1:IntKind.wrap .u32 r=r:=w32u (by omega) (by omega)
 refine A2 (A3 (j:=3) [0,0,0] (k:=D2 7 (x:=.bool (decide ((IntKind.wrap .u32 r)≤127))) (y:=.bool (decide (r≤127))) (by simp only [hw1]) (A7 [] [0,1,7] (k:=A0 (C5 (b:=decide (r≤127)) kr (fun hc2=>?_) (fun hc2=>?_))))))
 ·
  simp only [decide_eq_true_eq] at hc2
  refine A1 ?_
  have hw3:IntKind.wrap .u8 r=r:=(by rw [w8m]; omega)
  refine A2 (A3 (j:=3) [0,0,0] (k:=D2 10 (x:=.int .u8 (IntKind.wrap .u8 r)) (y:=.int .u8 r) (by simp only [hw3]) (I0 5 1 [.int .u8 r] (fun b4=>GL_ap (inf:=Tryz.t5) 1 0 1 rfl rfl hv (by omega) (by show (t.size+1) * 1≤140737488355328; omega) (fun v5 g6 hO7=>?_)))))
  obtain ⟨a8,cap9,rfl,hcap10,hrd11⟩:=hO7.shape
  refine A6 (E':=[⟨4,[],.slice a8 (t.size+1) cap9⟩]) [0] [4] (k:=A0 (B0 (A5 (N_pk 1 [1] (B6 [.tmp 4] [.slice a8 (t.size+1) cap9] (k:=?_))))))
  exact ⟨_,_,rfl,own_put hO7 rfl (by rw [K0,u8s_enc,Lib.encodeRuneZ_one (r:=r) (by omega) (by omega)]; rfl) (by simp [encB,ByteArray.size,Lib.encodeRune,Lib.encodeRuneZ_one (r:=r) (by omega) (by omega)]),rfl⟩
 ·
  simp only [decide_eq_false_iff_not] at hc2
  refine A8 (A0 (A1 (A2 (A3 (j:=2) [0,0] (k:=C3 Tryz.func114 (appNon_ v g t r hv ⟨hr0,hr1,hr2⟩ (by omega) (by omega) _ _) ?_)))))
  rintro v12 _ ⟨_,g13,rfl,hO14,rfl⟩
  refine A6 (E':=[⟨4,[],v12⟩]) [0] [4] (k:=A0 (B0 (B6 [.tmp 4] [v12] (k:=?_))))
  exact ⟨_,_,rfl,hO14,rfl⟩
theorem writeRune_ (b:Nat) (p:Value) (a:Option Addr) (cap:Nat) (g:Grp) (t:ByteArray) (r:Int) (hp:Bld b p) (hv:BOwn (.slice a t.size cap) g t) (hr:isR r) (hs:t.size+4≤140737488355328) (W0:World) (H:List Grp):Tri Tryz.prog 65 #[pt b,.int .i32 r] W0 ([(b,.cells #[p,.slice a t.size cap] 108 (0,0))]::g::H) (fun x H'=>∃ n,x=.tuple #[.int .i64 n,.nilIface]∧∃ v' g',BOwn v' g' (t++encB r)∧H'=bldG b (.pointer (some ⟨b,0,none⟩)) v'::g'::H):=by
 obtain ⟨hr0,hr1,hr2⟩:=hr
 refine D4 30 Tryz.func65 ?_
 refine A1 (C4 (E':=[⟨0,[],pt b⟩,⟨1,[],.int .i32 r⟩]) [0,0] [0,1] (k:=A0 (A1 (A2 (A3 (j:=1) [0] (k:=C3 Tryz.func84 (copyCheck_ b (p) (.slice a t.size cap) hp _ _) ?_))))))
 rintro r H' ⟨rfl,rfl⟩
 refine A6 (E':=[⟨0,[],pt b⟩,⟨1,[],.int .i32 r⟩]) [] [0,1] (k:=A0 (A1 (A2 (A3 (j:=3) [0,0,0] (k:=B8 0 1 rfl rfl (A7 [0,0] [0,1,6] (k:=A0 (A1 ?_))))))))
 refine A2 (A3 (j:=4) [0,0,0,0] (k:=B8 0 1 rfl rfl (A3 (j:=6) [0] (k:=J6 0 [1] (C3 Tryz.func87 (appRune_ (.slice a t.size cap) g t r hv ⟨hr0,hr1,hr2⟩ (by omega) _ _) ?_)))))
 rintro v1 _ ⟨_,g2,rfl,hO3,rfl⟩
 obtain ⟨a4,cap5,rfl,-,-⟩:=hO3.shape
 refine A3 (j:=9) [0,0] (k:=D5 1 1 (.slice a4 ((t++encB r).size) cap5) rfl (A7 [] [0,6] (k:=A0 (A1 (A2 (A3 (j:=3) [0,0,0] (k:=B8 1 1 rfl rfl (A7 [0,0,0,0,0] [4,5] (k:=?_)))))))))
 refine A0 (B0 (N_pk 0 [1,0] (B6 [.tmp 4,.tmp 5] [.int .i64 (IntKind.wrap .i64 ((((t++encB r).size:Nat):Int) - ((t.size:Nat):Int))),.nilIface] (k:=?_))))
 exact ⟨_,rfl,_,_,hO3,rfl⟩
theorem writeRune (b:Nat) (p v:Value) (g:Grp) (t:ByteArray) (r:Int) (hp:Bld b p) (hv:BOwn v g t) (hr:isR r) (hs:t.size+4≤140737488355328) (W0:World) (H:List Grp):Tri Tryz.prog 65 #[pt b,.int .i32 r] W0 (bldG b p v::g::H) (fun _ H'=>∃ v' g',BOwn v' g' (t++encB r)∧H'=bldG b (.pointer (some ⟨b,0,none⟩)) v'::g'::H):=by
  obtain ⟨a,cap,rfl,_,_⟩:=Go.Sw.Own.shape hv
  exact (writeRune_ b p a cap g t r hp hv hr hs W0 H).post fun v H' ⟨_,_,v',g',h1,h2⟩=>⟨H',⟨v',g',h1,h2⟩,fun _ h=>h⟩
theorem writeByte_ (b:Nat) (p v:Value) (g:Grp) (t:ByteArray) (c:UInt8) (hp:Bld b p) (hv:BOwn v g t) (hs:t.size+1≤140737488355328) (W0:World) (H:List Grp):Tri Tryz.prog 63 #[pt b,.int .u8 (c.toNat:Int)] W0 ([(b,.cells #[p,v] 108 (0,0))]::g::H) (fun x H'=>x=.nilIface∧∃ v' g',BOwn v' g' (t++⟨#[c]⟩)∧H'=bldG b (.pointer (some ⟨b,0,none⟩)) v'::g'::H):=by
 refine D4 17 Tryz.func63 ?_
 refine A1 (G_p [0] [0,1] (k:=A0 (A1 (A2 (A3 (j:=1) [0] (k:=C3 Tryz.func84 (copyCheck_ b (p) (v) hp _ _) ?_))))))
 rintro r H' ⟨rfl,rfl⟩
 refine A7 [] [0,1] (k:=A0 (A1 (A2 (A3 (j:=4) [0,0,0,0] (k:=B8 0 1 rfl rfl (A3 (j:=6) [0] (k:=I0 5 1 [.int .u8 (c.toNat:Int)] (fun b1=>GL_ap (inf:=Tryz.t5) 1 0 2 rfl rfl hv (by omega) (by show (t.size+1) * 1≤140737488355328; omega) (fun v2 g3 hO4=>?_)))))))))
 obtain ⟨a5,cap6,rfl,hcap7,hrd8⟩:=hO4.shape
 refine A3 (j:=10) [0,0] (k:=D5 1 1 (.slice a5 (t.size+1) cap6) rfl (A6 (E':=[]) [] [] (k:=A0 (A1 (C4 (E':=[⟨4,[],.nilIface⟩]) [0] [4] (k:=A0 (B0 (N_pk 1 [1,1] ?_))))))))
 refine B6 [.tmp 4] [.nilIface] (k:=?_)
 exact ⟨rfl,_,_,own_put (s:=⟨#[c]⟩) hO4 rfl rfl rfl,rfl⟩
end Go.Proofs.YtmnihmfifpaaoaaGreatDoor
namespace Go.Proofs.YtmnihmfifpaaoaaGreatDoor
open Go.Sw Go.Sha Go.Esc
theorem bown0:BOwn (.slice none 0 0) [] .empty:=by simpa [BOwn,u8s] using Go.Sw.Own.nil
theorem writeByteC (b:Nat) (p v:Value) (g:Grp) (t:ByteArray) (c:UInt8) (hp:Bld b p) (hv:BOwn v g t) (hs:t.size+1≤140737488355328) (W0:World) (H:List Grp):Tri Tryz.prog 63 #[pt b,.int .u8 (c.toNat:Int)] W0 (bldG b p v::g::H) (fun _ H'=>∃ v' g',BOwn v' g' (t++⟨#[c]⟩)∧H'=bldG b (.pointer (some ⟨b,0,none⟩)) v'::g'::H) :=
  (writeByte_ b p v g t c hp hv hs W0 H).post fun _ H' ⟨_,v',g',h1,h2⟩=>⟨H',⟨v',g',h1,h2⟩,fun _ h=>h⟩
theorem sz1 (b:UInt8):(⟨#[b]⟩:ByteArray).size=1:=rfl
theorem data_app (a b:ByteArray):(a++b).data.toList=a.data.toList++b.data.toList:=by rw [ByteArray.data_append,Array.toList_append]
theorem size_app (a b:ByteArray):(a++b).size=a.size+b.size:=by simp
end Go.Proofs.YtmnihmfifpaaoaaGreatDoor
namespace Go.Proofs.YtmnihmfifpaaoaaGreatDoor
open Go.Sw Go.Sha Go.Esc
theorem lowC:∀ n:Fin 256,(digC (n.val:Int)=if 48≤(n.val:Int)∧(n.val:Int)≤57 then (n.val:Int) - 48 else if 97≤IntKind.wrap .u8 ((BitVec.ofInt (IntKind.bits .u8) (n.val:Int) ||| BitVec.ofInt (IntKind.bits .u8) 32).toNat)∧IntKind.wrap .u8 ((BitVec.ofInt (IntKind.bits .u8) (n.val:Int) ||| BitVec.ofInt (IntKind.bits .u8) 32).toNat)≤102 then IntKind.wrap .u8 ((BitVec.ofInt (IntKind.bits .u8) (n.val:Int) ||| BitVec.ofInt (IntKind.bits .u8) 32).toNat) - 87 else -1)∧0≤IntKind.wrap .u8 ((BitVec.ofInt (IntKind.bits .u8) (n.val:Int) ||| BitVec.ofInt (IntKind.bits .u8) 32).toNat)∧IntKind.wrap .u8 ((BitVec.ofInt (IntKind.bits .u8) (n.val:Int) ||| BitVec.ofInt (IntKind.bits .u8) 32).toNat)<256:=by decide +kernel
def lowI (c:Int):Int:=IntKind.wrap .u8 ((BitVec.ofInt (IntKind.bits .u8) c ||| BitVec.ofInt (IntKind.bits .u8) 32).toNat)
theorem low_dig {c:Int} (h0:0≤c) (h1:c<256):(digC c=if 48≤c∧c≤57 then c - 48 else if 97≤lowI c∧lowI c≤102 then lowI c - 87 else -1)∧0≤lowI c∧lowI c<256:=by
  have:=lowC ⟨c.toNat,by omega⟩
  simp only [show ((c.toNat:Nat):Int)=c by omega] at this
  exact this
def dgI (c:Int):Int:=if 48≤c∧c≤57 then c - 48 else lowI c - 87
theorem dgI1 {c:Int} (h:48≤c∧c≤57):IntKind.wrap .u8 (c - 48)=dgI c:=by rw [w8m]; unfold dgI; rw [if_pos h]; omega
theorem dgI2 {c:Int} (h0:¬ (48≤c∧c≤57)) (h:97≤lowI c∧lowI c≤122):IntKind.wrap .u8 (IntKind.wrap .u8 (lowI c - 97)+10)=dgI c:=by rw [w8m,w8m]; unfold dgI; rw [if_neg h0]; omega
theorem dg_ok {c base:Int} (h:(48≤c∧c≤57)∨(97≤lowI c∧lowI c≤122)) (hc:0≤c∧c<256) (hb:10≤base∧base≤16):(dgI c<base→digB c base=dgI c∧0≤dgI c)∧(base≤dgI c→digB c base<0):=by
  have hl:=low_dig hc.1 hc.2
  have h1:=hl.1; have h2:=hl.2
  unfold dgI digB; rw [h1]
  refine ⟨fun h3=>?_,fun h3=>?_⟩ <;> (repeat' split) <;> (try split at h3) <;> omega
theorem dg_no {c base:Int} (h0:¬ (48≤c∧c≤57)) (h:¬ (97≤lowI c∧lowI c≤122)) (hc:0≤c∧c<256) (hb:10≤base):digB c base<0:=by
  have hl:=low_dig hc.1 hc.2
  have h1:=hl.1
  unfold digB; rw [h1]; (repeat' split) <;> omega
theorem byte_rng (b:UInt8):0≤(b.toNat:Int)∧(b.toNat:Int)<256:=⟨Int.natCast_nonneg _,by have:=b.toNat_lt; omega⟩
theorem size0 {s:ByteArray} (h:(s.toList==eB.toList)=true):s.size=0:=by
  rw [beq_iff_eq,Lib.toList_data,Lib.toList_data] at h
  have:=congrArg List.length h
  rw [Array.length_toList] at this; exact this
theorem pow16 {k:Nat} (h:k≤7):(16:Int) ^ k≤268435456:=by
  have:(16:Nat) ^ k≤16 ^ 7:=Nat.pow_le_pow_right (by decide) h
  have e:((16 ^ k:Nat):Int)=(16:Int) ^ k:=by simp
  rw [← e]; omega
theorem w64u {x:Int} (h0:0≤x) (h1:x<18446744073709551616):IntKind.wrap .u64 x=x:=by
  rw [show IntKind.wrap .u64 x=x % 18446744073709551616 from by first | rfl | simp [IntKind.wrap,IntKind.bits,IntKind.signed]]; omega
theorem numV_none {base a n:Int} {l:List UInt8} {k:Nat} (hV:numV base a l=numV base n (l.drop k)) (hk:k<l.length) (h:digB ((l.getD k 0).toNat:Int) base<0):numV base a l=none:=by
  rw [hV,G1 _ hk,numV_cons,if_pos h]
theorem lower_ (c:Int) (W0:World) (H:List Grp):Tri Tryz.prog 109 #[.int .u8 c] W0 H (fun v H'=>v=.int .u8 (lowI c)∧H'=H):=by
 refine D4 5 Tryz.func109 ?_
 refine A1 (C4 (E':=[⟨0,[],.int .u8 c⟩]) [0] [0] (k:=A0 (A1 (G_p [0,0,0] [2] (k:=A0 (B0 (B6 [.tmp 2] [.int .u8 (IntKind.wrap .u8 ((BitVec.ofInt (IntKind.bits .u8) c ||| BitVec.ofInt (IntKind.bits .u8) 32).toNat))] (k:=?_))))))))
 exact ⟨rfl,rfl⟩
theorem inner16_ (s:ByteArray) (h0:0<s.size) (hs:s.size≤7) (W0:World) (H:List Grp):Tri Tryz.prog 80 #[.string s,.int .i64 16,.int .i64 32] W0 H (fun v H'=>((∃ n,numV 16 0 s.data.toList=some n∧0≤n∧n<16 ^ s.size∧v=.tuple #[.int .u64 n,.nilIface])∨(numV 16 0 s.data.toList=none∧v=.tuple #[.int .u64 0,.iface 99 (.int .i64 2)]))∧H'=H):=by
 have hlen:s.data.toList.length=s.size:=Array.length_toList
 refine D4 172 Tryz.func80 ?_
 refine A1 (G_p [0,0] [0,1,2] (k:=A0 (A1 (A1 (G_p [0,0] [0,1,2,19] (k:=A0 (C5 (b:=s.toList==eB.toList) kr (fun hc1=>?_) (fun hc1=>?_))))))))
 ·
  exact absurd (size0 hc1) (by omega)
 ·
  skip
  refine A8 (A0 (A1 (G_p [0,0,0] [0,1,2,8] (k:=A0 (A1 (G_p [0,0] [0,1,2,8,9] (k:=A0 (A1 ?_))))))))
  refine C8 (A1 (G_p [0,0,0,0,0,2,0] [0,1,2,8,9,25] (k:=A0 (D3 kr (A8 (D8 (A0 (A1 ?_))))))))
  refine A1 (C4 (E':=[⟨0,[],.string s⟩,⟨1,[],.int .i64 16⟩,⟨2,[],.int .i64 32⟩,⟨8,[],.bool false⟩,⟨9,[],.string s⟩,⟨77,[],.bool false⟩]) [0,0] [0,1,2,8,9,77] (k:=A0 (C2 kr (A1 (G_p [0,0,0,0,0,3] [0,1,2,8,9,83] (k:=A0 (C2 kr (A8 ?_))))))))
  refine A0 (A1 (G_p [0] [0,1,2,8,9] (k:=A0 (A1 (A1 (G_p [0] [0,1,2,8,9,85] (k:=A0 (C8 ?_))))))))
  refine A1 (G_p [0,0] [0,1,2,8,9,85,90] (k:=A0 (C2 kr (A1 (G_p [0,0] [0,1,2,8,9,92] (k:=A0 (D3 kr (C4 (E':=[⟨0,[],.string s⟩,⟨1,[],.int .i64 16⟩,⟨2,[],.int .i64 32⟩,⟨8,[],.bool false⟩,⟨9,[],.string s⟩,⟨10,[],.int .u64 1152921504606846976⟩]) [0] [0,1,2,8,9,10] (k:=?_)))))))))
  refine D8 (A0 (A1 (G_p [0,0,0,0,0] [0,1,8,9,10,11] (k:=A0 (A1 (G_p [0] [0,1,8,9,10,11,12] (k:=A0 (A1 ?_))))))))
  refine G_p [0] [0,1,8,9,10,11,12,13] (k:=A0 (A1 (A1 (A2 (A3 (j:=1) [0] (k:=GL_strBytes (i:=1) (ch:=[]) (src:=9) (dst:=40) (e:=5) (s:=s) rfl rfl kr kr kr kr kr kr kr (fun b2 cap3 g4 hcap5 hrd6=>?_)))))))
  refine A7 [0,0] [1,8,9,10,11,12,13,99,100,101] (k:=A0 (C8 (G_loop (EI:=(fun ξ:Nat × Int=>[⟨1,[],.int .i64 16⟩,⟨8,[],.bool false⟩,⟨9,[],.string s⟩,⟨10,[],.int .u64 1152921504606846976⟩,⟨11,[],.int .u64 4294967295⟩,⟨12,[],.bool false⟩,⟨13,[],.int .u64 ξ.2⟩,⟨99,[],.slice (some ⟨b2,0,none⟩) s.size cap3⟩,⟨100,[],.int .i64 ((s.size:Nat):Int)⟩,⟨101,[],.int .i64 (ξ.1:Int)⟩])) (HI:=(fun ξ:Nat × Int=>(g4::H))) (Φ:=(fun ξ:Nat × Int=>(ξ.1≤s.size)∧(0≤ξ.2)∧(ξ.2<16 ^ ξ.1)∧(numV 16 0 s.data.toList=numV 16 ξ.2 (s.data.toList.drop ξ.1)))) (μ:=(fun ξ:Nat × Int=>s.size - ξ.1)) (s0:=(0,0)) [1,8,9,10,11,12,13,99,100,101] kr rfl ⟨(by omega),(Int.le_refl _),(by decide),rfl⟩ ?_)))
  rintro ⟨k,n⟩ ⟨hk,hn0,hn1,hV⟩
  dsimp only at hk hn0 hn1 hV
  have hp:=pow16 (show k≤7 by omega)
  have hcr:=byte_rng (s.data.toList.getD k 0)
  refine A1 (G_p [0] [1,8,9,10,11,12,13,99,100,101,102] (k:=A0 (A1 (C5 (b:=decide ((k:Int)<((s.size:Nat):Int))) kr (fun hc7=>?_) (fun hc7=>?_)))))
  ·
   simp only [decide_eq_true_eq] at hc7
   refine A8 (A0 (A1 (C8 (A1 (A2 (GL_iq s.size (k:Int) 1 hrd6 (by exact ⟨by omega,by omega,by intro h; have:=congrArg List.length h; rw [show (Go.Sw.u8s s.data.toList).length=s.size from (List.length_map _).trans hlen] at this; simp only [List.length_nil] at this; omega⟩) (GL_lsq ((Int.toNat (k:Int)) * 1) (.int .u8 ((s.data.toList.getD k 0).toNat:Int)) hrd6 (H7 0 rfl) (fun _=>(by rw [Nat.mul_one,Int.toNat_natCast]; exact Go.Sha.u8s_at (by rw [hlen]; omega))) (A7 [0] [1,8,9,10,11,12,13,15,99,100,101] (k:=?_)))))))))
   refine A0 (A1 (G_p [0] [1,8,9,10,11,12,13,15,99,100,101] (k:=A0 (A1 (C8 (A1 (G_p [0,0,0,0,6,0] [1,8,9,10,11,12,13,15,99,100,101,106] (k:=A0 ?_))))))))
   refine C5 (b:=(((s.data.toList.getD k 0).toNat:Int)==95)&&false) kr (fun hc8=>?_) (fun hc8=>?_)
   ·
    simp at hc8
   ·
    skip
    refine A1 (G_p [0,0,0,0,0,6,0] [1,8,9,10,11,12,13,15,99,100,101,112] (k:=A0 (C5 (b:=(decide (48≤((s.data.toList.getD k 0).toNat:Int)))&&(decide (((s.data.toList.getD k 0).toNat:Int)≤57))) kr (fun hc9=>?_) (fun hc9=>?_))))
    ·
     simp only [Bool.and_eq_true,decide_eq_true_eq] at hc9
     refine A2 (A3 (j:=2) [0,0] (k:=D2 120 (x:=.int .u8 (IntKind.wrap .u8 (((s.data.toList.getD k 0).toNat:Int) - 48))) (y:=.int .u8 (dgI ((s.data.toList.getD k 0).toNat:Int))) (by rw [dgI1 (c:=((s.data.toList.getD k 0).toNat:Int)) (by omega)]) (A6 (E':=[⟨1,[],.int .i64 16⟩,⟨8,[],.bool false⟩,⟨9,[],.string s⟩,⟨10,[],.int .u64 1152921504606846976⟩,⟨11,[],.int .u64 4294967295⟩,⟨12,[],.bool false⟩,⟨13,[],.int .u64 n⟩,⟨16,[],.int .u8 (dgI ((s.data.toList.getD k 0).toNat:Int))⟩,⟨99,[],.slice (some ⟨b2,0,none⟩) s.size cap3⟩,⟨100,[],.int .i64 ((s.size:Nat):Int)⟩,⟨101,[],.int .i64 (k:Int)⟩]) [0] [1,8,9,10,11,12,13,16,99,100,101] (k:=D8 (A0 (A1 (A1 (G_p [0,0,0,0] [1,8,9,10,11,12,13,16,99,100,101,137] (k:=?_)))))))))
     refine A0 (C5 (b:=decide ((dgI ((s.data.toList.getD k 0).toNat:Int)) ≥ 16)) kr (fun hc10=>?_) (fun hc10=>?_))
     ·
      simp only [ge_iff_le,decide_eq_true_eq] at hc10
      have hdg:=(dg_ok (c:=((s.data.toList.getD k 0).toNat:Int)) (base:=16) (by omega) hcr (by omega)).2 (by omega)
      refine A1 (G_p [0,0,0] [6,7] (k:=A0 (B0 (A5 (B4 (A5 (A5 (B4 ?_))))))))
      refine A5 (N_pk 1 [] (B6 [.tmp 6,.tmp 7] [.int .u64 0,.iface 99 (.int .i64 2)] (k:=?_)))
      exact ⟨.inr ⟨numV_none hV (show k<s.data.toList.length by rw [hlen]; omega) hdg,rfl⟩,rfl⟩
     ·
      simp only [ge_iff_le,decide_eq_false_iff_not] at hc10
      have hdg:=(dg_ok (c:=((s.data.toList.getD k 0).toNat:Int)) (base:=16) (by omega) hcr (by omega)).1 (by omega)
      refine A8 (A0 (A1 (A1 (G_p [0,0,0] [1,8,9,10,11,12,13,16,99,100,101,141] (k:=A0 (C5 (b:=decide (n ≥ 1152921504606846976)) kr (fun hc11=>?_) (fun hc11=>?_)))))))
      ·
       simp only [ge_iff_le,decide_eq_true_eq] at hc11; omega
      ·
       simp only [ge_iff_le,decide_eq_false_iff_not] at hc11
       refine A8 (A0 (A1 (A2 (A3 (j:=4) [0,0,0,0] (k:=D2 147 (x:=.int .u64 (IntKind.wrap .u64 (n * 16))) (y:=.int .u64 (n * 16)) (by rw [w64u (x:=n * 16) (by omega) (by omega)]) (A7 [0] [1,8,9,10,11,12,13,16,99,100,101] (k:=A0 (A1 ?_))))))))
       have hw12:IntKind.wrap .u64 (dgI ((s.data.toList.getD k 0).toNat:Int))=(dgI ((s.data.toList.getD k 0).toNat:Int)):=w64u (by omega) (by omega)
       refine A2 (A3 (j:=4) [0,0,0,0] (k:=D2 151 (x:=.int .u64 (IntKind.wrap .u64 ((n * 16)+(IntKind.wrap .u64 (dgI ((s.data.toList.getD k 0).toNat:Int)))))) (y:=.int .u64 (IntKind.wrap .u64 ((n * 16)+(dgI ((s.data.toList.getD k 0).toNat:Int))))) (by simp only [hw12]) (D2 151 (x:=.int .u64 (IntKind.wrap .u64 ((n * 16)+(dgI ((s.data.toList.getD k 0).toNat:Int))))) (y:=.int .u64 (n * 16+dgI ((s.data.toList.getD k 0).toNat:Int))) (by rw [w64u (x:=n * 16+dgI ((s.data.toList.getD k 0).toNat:Int)) (by omega) (by omega)]) (A7 [0] [1,8,9,10,11,12,13,17,99,100,101] (k:=A0 (A1 (A1 (G_p [0,0,0,0,0,0,0,5] [1,8,9,10,11,12,17,99,100,101,159] (k:=?_)))))))))
       refine A0 (C5 (b:=(decide ((n * 16+dgI ((s.data.toList.getD k 0).toNat:Int))<(n * 16)))||(decide ((n * 16+dgI ((s.data.toList.getD k 0).toNat:Int)) > 4294967295))) kr (fun hc13=>?_) (fun hc13=>?_))
       ·
        simp only [gt_iff_lt,Bool.or_eq_true,decide_eq_true_eq] at hc13; omega
       ·
        simp only [gt_iff_lt,Bool.or_eq_false_iff,decide_eq_false_iff_not] at hc13
        refine A8 (A0 (C4 (E':=[⟨1,[],.int .i64 16⟩,⟨8,[],.bool false⟩,⟨9,[],.string s⟩,⟨10,[],.int .u64 1152921504606846976⟩,⟨11,[],.int .u64 4294967295⟩,⟨12,[],.bool false⟩,⟨13,[],.int .u64 (n * 16+dgI ((s.data.toList.getD k 0).toNat:Int))⟩,⟨99,[],.slice (some ⟨b2,0,none⟩) s.size cap3⟩,⟨100,[],.int .i64 ((s.size:Nat):Int)⟩,⟨101,[],.int .i64 (k:Int)⟩]) [0,0] [1,8,9,10,11,12,13,99,100,101] (k:=D8 (A0 (A2 (A3 (j:=1) [0] (k:=GL_wi 163 ((k:Int)+1) (by omega) (by omega) kr (A7 [0] [1,8,9,10,11,12,13,99,100,101] (k:=?_)))))))))
        refine J1 (s':=(k+1,(n * 16+dgI ((s.data.toList.getD k 0).toNat:Int)))) [1,8,9,10,11,12,13,99,100,101] kr rfl ⟨(by dsimp only; omega),(by dsimp only; omega),(by dsimp only; rw [Int.pow_succ]; omega),(by dsimp only; rw [hV,G1 _ (show k<s.data.toList.length by rw [hlen]; omega),numV_cons,hdg.1,if_neg (by omega),Int.mul_comm])⟩ (by dsimp only; omega)
    ·
     simp only [Bool.and_eq_false_iff,decide_eq_false_iff_not] at hc9
     refine A1 (A2 (A3 (j:=1) [0] (k:=K5 Tryz.func109 (lower_ ((s.data.toList.getD k 0).toNat:Int) _ _) (A3 (j:=5) [0,0,0] (k:=GL_cG [(125,true)] Tryz.func109 (fun hc=>lower_ ((s.data.toList.getD k 0).toNat:Int) _ _) (A6 (E':=[⟨1,[],.int .i64 16⟩,⟨8,[],.bool false⟩,⟨9,[],.string s⟩,⟨10,[],.int .u64 1152921504606846976⟩,⟨11,[],.int .u64 4294967295⟩,⟨12,[],.bool false⟩,⟨13,[],.int .u64 n⟩,⟨15,[],.int .u8 ((s.data.toList.getD k 0).toNat:Int)⟩,⟨99,[],.slice (some ⟨b2,0,none⟩) s.size cap3⟩,⟨100,[],.int .i64 ((s.size:Nat):Int)⟩,⟨101,[],.int .i64 (k:Int)⟩,⟨121,[],.bool ((decide (97≤(lowI ((s.data.toList.getD k 0).toNat:Int))))&&(decide ((lowI ((s.data.toList.getD k 0).toNat:Int))≤122)))⟩]) [0,6,0] [1,8,9,10,11,12,13,15,99,100,101,121] (k:=A0 (C5 (b:=(decide (97≤(lowI ((s.data.toList.getD k 0).toNat:Int))))&&(decide ((lowI ((s.data.toList.getD k 0).toNat:Int))≤122))) kr (fun hc15=>?_) (fun hc15=>?_)))))))))
     ·
      simp only [Bool.and_eq_true,decide_eq_true_eq] at hc15
      refine A2 (A3 (j:=1) [0] (k:=K5 Tryz.func109 (lower_ ((s.data.toList.getD k 0).toNat:Int) _ _) (A3 (j:=4) [0,0] (k:=D2 133 (x:=.int .u8 (IntKind.wrap .u8 ((IntKind.wrap .u8 ((lowI ((s.data.toList.getD k 0).toNat:Int)) - 97))+10))) (y:=.int .u8 (dgI ((s.data.toList.getD k 0).toNat:Int))) (by rw [dgI2 (c:=((s.data.toList.getD k 0).toNat:Int)) (by omega) (by omega)]) (A7 [0] [1,8,9,10,11,12,13,16,99,100,101] (k:=D8 (A0 (A1 ?_))))))))
      refine A1 (G_p [0,0,0,0] [1,8,9,10,11,12,13,16,99,100,101,137] (k:=A0 (C5 (b:=decide ((dgI ((s.data.toList.getD k 0).toNat:Int)) ≥ 16)) kr (fun hc16=>?_) (fun hc16=>?_))))
      ·
       simp only [ge_iff_le,decide_eq_true_eq] at hc16
       have hdg:=(dg_ok (c:=((s.data.toList.getD k 0).toNat:Int)) (base:=16) (by omega) hcr (by omega)).2 (by omega)
       refine A1 (G_p [0,0,0] [6,7] (k:=A0 (B0 (A5 (B4 (A5 (A5 (B4 ?_))))))))
       refine A5 (N_pk 1 [] (B6 [.tmp 6,.tmp 7] [.int .u64 0,.iface 99 (.int .i64 2)] (k:=?_)))
       exact ⟨.inr ⟨numV_none hV (show k<s.data.toList.length by rw [hlen]; omega) hdg,rfl⟩,rfl⟩
      ·
       simp only [ge_iff_le,decide_eq_false_iff_not] at hc16
       have hdg:=(dg_ok (c:=((s.data.toList.getD k 0).toNat:Int)) (base:=16) (by omega) hcr (by omega)).1 (by omega)
       refine A8 (A0 (A1 (A1 (G_p [0,0,0] [1,8,9,10,11,12,13,16,99,100,101,141] (k:=A0 (C5 (b:=decide (n ≥ 1152921504606846976)) kr (fun hc17=>?_) (fun hc17=>?_)))))))
       ·
        simp only [ge_iff_le,decide_eq_true_eq] at hc17; omega
       ·
        simp only [ge_iff_le,decide_eq_false_iff_not] at hc17
        refine A8 (A0 (A1 (A2 (A3 (j:=4) [0,0,0,0] (k:=D2 147 (x:=.int .u64 (IntKind.wrap .u64 (n * 16))) (y:=.int .u64 (n * 16)) (by rw [w64u (x:=n * 16) (by omega) (by omega)]) (A7 [0] [1,8,9,10,11,12,13,16,99,100,101] (k:=A0 (A1 ?_))))))))
        have hw18:IntKind.wrap .u64 (dgI ((s.data.toList.getD k 0).toNat:Int))=(dgI ((s.data.toList.getD k 0).toNat:Int)):=w64u (by omega) (by omega)
        refine A2 (A3 (j:=4) [0,0,0,0] (k:=D2 151 (x:=.int .u64 (IntKind.wrap .u64 ((n * 16)+(IntKind.wrap .u64 (dgI ((s.data.toList.getD k 0).toNat:Int)))))) (y:=.int .u64 (IntKind.wrap .u64 ((n * 16)+(dgI ((s.data.toList.getD k 0).toNat:Int))))) (by simp only [hw18]) (D2 151 (x:=.int .u64 (IntKind.wrap .u64 ((n * 16)+(dgI ((s.data.toList.getD k 0).toNat:Int))))) (y:=.int .u64 (n * 16+dgI ((s.data.toList.getD k 0).toNat:Int))) (by rw [w64u (x:=n * 16+dgI ((s.data.toList.getD k 0).toNat:Int)) (by omega) (by omega)]) (A7 [0] [1,8,9,10,11,12,13,17,99,100,101] (k:=A0 (A1 (A1 (C4 (E':=[⟨1,[],.int .i64 16⟩,⟨8,[],.bool false⟩,⟨9,[],.string s⟩,⟨10,[],.int .u64 1152921504606846976⟩,⟨11,[],.int .u64 4294967295⟩,⟨12,[],.bool false⟩,⟨17,[],.int .u64 (n * 16+dgI ((s.data.toList.getD k 0).toNat:Int))⟩,⟨99,[],.slice (some ⟨b2,0,none⟩) s.size cap3⟩,⟨100,[],.int .i64 ((s.size:Nat):Int)⟩,⟨101,[],.int .i64 (k:Int)⟩,⟨159,[],.bool ((decide ((n * 16+dgI ((s.data.toList.getD k 0).toNat:Int))<(n * 16)))||(decide ((n * 16+dgI ((s.data.toList.getD k 0).toNat:Int)) > 4294967295)))⟩]) [0,0,0,0,0,0,0,5] [1,8,9,10,11,12,17,99,100,101,159] (k:=?_)))))))))
        refine A0 (C5 (b:=(decide ((n * 16+dgI ((s.data.toList.getD k 0).toNat:Int))<(n * 16)))||(decide ((n * 16+dgI ((s.data.toList.getD k 0).toNat:Int)) > 4294967295))) kr (fun hc19=>?_) (fun hc19=>?_))
        ·
         simp only [gt_iff_lt,Bool.or_eq_true,decide_eq_true_eq] at hc19; omega
        ·
         simp only [gt_iff_lt,Bool.or_eq_false_iff,decide_eq_false_iff_not] at hc19
         refine A8 (A0 (G_p [0,0] [1,8,9,10,11,12,13,99,100,101] (k:=D8 (A0 (A2 (A3 (j:=1) [0] (k:=GL_wi 163 ((k:Int)+1) (by omega) (by omega) kr (A7 [0] [1,8,9,10,11,12,13,99,100,101] (k:=?_)))))))))
         refine J1 (s':=(k+1,(n * 16+dgI ((s.data.toList.getD k 0).toNat:Int)))) [1,8,9,10,11,12,13,99,100,101] kr rfl ⟨(by dsimp only; omega),(by dsimp only; omega),(by dsimp only; rw [Int.pow_succ]; omega),(by dsimp only; rw [hV,G1 _ (show k<s.data.toList.length by rw [hlen]; omega),numV_cons,hdg.1,if_neg (by omega),Int.mul_comm])⟩ (by dsimp only; omega)
     ·
      simp only [Bool.and_eq_false_iff,decide_eq_false_iff_not] at hc15
      refine A1 (G_p [0,0,0] [6,7] (k:=A0 (B0 (B4 (A5 (B4 (A5 (A5 ?_))))))))
      refine B4 (A5 (N_pk 1 [] (B6 [.tmp 6,.tmp 7] [.int .u64 0,.iface 99 (.int .i64 2)] (k:=?_))))
      exact ⟨.inr ⟨numV_none hV (show k<s.data.toList.length by rw [hlen]; omega) (dg_no (by omega) (by omega) hcr (by decide)),rfl⟩,rfl⟩
  ·
   simp only [decide_eq_false_iff_not] at hc7
   refine I3 (B3 (B3 (C6 (A0 (A1 (A1 (G_p [0,0,1,1,1,3] [13,169] (k:=A0 ?_))))))))
   refine C2 kr (A8 (A0 (A1 (G_p [0,0,0] [6,7] (k:=A0 (B0 (N_pk 1 [] (B6 [.tmp 6,.tmp 7] [.int .u64 n,.nilIface] (k:=?_)))))))))
   exact ⟨.inl ⟨n,by rw [hV,List.drop_eq_nil_of_le (by rw [hlen]; omega),numV_nil],hn0,by rw [show s.size=k by omega]; exact hn1,rfl⟩,rfl⟩
end Go.Proofs.YtmnihmfifpaaoaaGreatDoor
namespace Go.Sw
def isIfT (P:Program) (t:TypeId):Bool:=match P.underlying t with | some (.interface _)=>true | _=>false
theorem isIfT_ms {P:Program} {t:TypeId} (h:isIfT P t=true):∃ ms,P.underlying t=some (.interface ms):=by
  unfold isIfT at h; split at h
  · rename_i ms he; exact ⟨ms,he⟩
  · cases h
def isIntT (P:Program) (t:TypeId):Bool:=match P.underlying t with | some (.int _)=>true | _=>false
theorem isIntT_k {P:Program} {t:TypeId} (h:isIntT P t=true):∃ k,P.underlying t=some (.int k):=by
  unfold isIntT at h; split at h
  · rename_i k he; exact ⟨k,he⟩
  · cases h
theorem run_ifNil {P:Program} (w:World) {t:TypeId} {ms:Array (String × TypeId)} {v:Value} {e ne:Bool} (ht:P.underlying t=some (.interface ms)) (hv:(v=.nilIface∧e=true)∨((∃ a b,v=.iface a b)∧e=false)) :
    (binOp (if ne then .neq else .eql) t v .nilIface).run P w=.ok (.bool (ne ^^ e)) w:=by
  have h:∀ d:Nat,(Op.equalIn (d+1) t v .nilIface).run P w=.ok e w:=fun d=>by
    rcases hv with ⟨rfl,rfl⟩ | ⟨⟨a,b,rfl⟩,rfl⟩ <;> simp [Op.equalIn,run_underlying ht]
  cases ne
  · show (binOp .eql t v .nilIface).run P w=_
    rcases hv with ⟨rfl,rfl⟩ | ⟨⟨a,b,rfl⟩,rfl⟩ <;> (simp only [binOp]; simp [Op.equal,Op.maxDepth,h 9999])
  · show (binOp .neq t v .nilIface).run P w=_
    rcases hv with ⟨rfl,rfl⟩ | ⟨⟨a,b,rfl⟩,rfl⟩ <;> (simp only [binOp]; simp [Op.equal,Op.maxDepth,h 9999])
theorem GL_ifNil {d:Bool} {P:Program} {ops:Array Oper} {i:Nat} {Q:B1} {n:Fr} {E:Env} {W0:World} {H:List Grp} {o:Oper} {ch:List (Nat × Bool)} {t t2:TypeId} {x:Operand} {v:Value} {e:Bool} (ne:Bool)
    (ho:ops[i]? = some o:=by exact rfl) (hop:o.op=.binOp (if ne then .neq else .eql) t x (.const .nilIface) t2:=by exact rfl) (hx:evO E ch x=some v:=by kernel_rfl) (ht:isIfT P t=true:=by kernel_rfl) (hv:(v=.nilIface∧e=true)∨((∃ a b,v=.iface a b)∧e=false))
    (hch:A9 ops E o.guard=some ch:=by kernel_rfl) (hd:C1 n ch o.dst=true:=by kernel_rfl) (hk:E2 E ch=true:=by kernel_rfl)
    (k:GL d P ops (i+1) Q n (Env.put E o.dst ch (.bool (ne ^^ e))) W0 H):GL d P ops i Q n E W0 H:=by
  refine D7 ho hch hd hk (fun r hr _ w hsat=>?_) k
  unfold execOp
  simp only [hop]
  rw [hr _ _ hx,hr (.const .nilIface) .nilIface rfl]
  obtain ⟨ms,ht⟩:=isIfT_ms ht
  have:=run_ifNil (P:=P) w (ne:=ne) ht hv
  have hg:(eqGuard (if ne then .neq else .eql) t x (.const .nilIface) v .nilIface).run P w=.ok () w:=by
    rcases hv with ⟨rfl,rfl⟩ | ⟨⟨a,b,rfl⟩,rfl⟩ <;> cases ne <;> cases x <;> rfl
  simp only [Sem.run_bind,hg,this,Result.andThen_ok]
  exact ⟨rfl,rfl⟩
theorem run_ifInt {P:Program} (w:World) {t tx:TypeId} {ms:Array (String × TypeId)} {k q:IntKind} (a b:Int)
    (ht:P.underlying t=some (.interface ms)) (hc:(P.info? tx).map (·.comparable)=some true) (hx:P.underlying tx=some (.int q)) :
    (binOp .eql t (.iface tx (.int k a)) (.iface tx (.int k b))).run P w=.ok (.bool (a==b)) w:=by
  cases hi:P.info? tx with
  | none=>simp [hi] at hc
  | some i =>
    have hcc:i.comparable=true:=by simpa [hi] using hc
    have h:∀ d:Nat,(Op.equalIn (d+2) t (.iface tx (.int k a)) (.iface tx (.int k b))).run P w=.ok (a==b) w:=fun d=>by
      simp [Op.equalIn,run_underlying ht,run_underlying hx,typeInfo,hi,hcc]
    simp only [binOp]
    simp [Op.equal,Op.maxDepth,h 9998]
theorem GL_ifInt {d:Bool} {P:Program} {ops:Array Oper} {i:Nat} {Q:B1} {n:Fr} {E:Env} {W0:World} {H:List Grp} {o:Oper} {ch:List (Nat × Bool)} {t t2 tx:TypeId} {x y:Operand} {kd:IntKind} {a b:Int}
    (ho:ops[i]? = some o) (hop:o.op=.binOp .eql t x y t2) (hx:evO E ch x=some (.iface tx (.int kd a))) (hy:evO E ch y=some (.iface tx (.int kd b))) (ht:isIfT P t=true) (hc:(P.info? tx).map (·.comparable)=some true) (hq:isIntT P tx=true)
    (hch:A9 ops E o.guard=some ch) (hd:C1 n ch o.dst=true) (hk:E2 E ch=true)
    (k:GL d P ops (i+1) Q n (Env.put E o.dst ch (.bool (a==b))) W0 H):GL d P ops i Q n E W0 H:=by
  refine D7 ho hch hd hk (fun r hr _ w hsat=>?_) k
  unfold execOp
  simp only [hop]
  rw [hr _ _ hx,hr _ _ hy]
  obtain ⟨ms,ht⟩:=isIfT_ms ht
  obtain ⟨q,hq⟩:=isIntT_k hq
  have:=run_ifInt (P:=P) w a b ht hc hq (k:=kd)
  have hg:(eqGuard .eql t x y (.iface tx (.int kd a)) (.iface tx (.int kd b))).run P w=.ok () w:=rfl
  simp only [Sem.run_bind,hg,this,Result.andThen_ok]
  exact ⟨rfl,rfl⟩
end Go.Sw
namespace Go.Proofs.YtmnihmfifpaaoaaGreatDoor
open Go.Sw Go.Sha Go.Esc Go.RowKit
theorem Tri_ex {P:Program} {f:FuncId} {args:Array Value} {W0:World} {H:List Grp} {K:Value→Prop}
    (h:∀ w,Sat W0 H w→Calls P f args w fun e w'=>(∃ v,e=.returned v∧K v)∧Below w.heap.size w w'):Tri P f args W0 H (fun u H'=>K u∧H'=H) :=
  fun w hs=>(h w hs).mono fun e w' ⟨⟨v,he,hk⟩,hb⟩=>⟨v,H,he,⟨hk,rfl⟩,by
    have hlt:∀ p,p∈H.flatten→p.1<w.heap.size:=fun p hp=>by
      have:=hs.has p hp
      rcases Nat.lt_or_ge p.1 w.heap.size with h' | h'
      · exact h'
      · simp [Array.getElem?_eq_none h'] at this
    exact ⟨hs.below.trans (hb.mono hs.below.size),hs.nodup,fun p hp=>by rw [hb.block _ (hlt p hp)]; exact hs.has p hp,hs.high⟩⟩
structure F2 (W0:World):Prop where
  err:∃ ev,0<W0.heap.size∧W0.cell? ⟨0,0,none⟩=some ev∧(ev=.nilIface∨∃ te pe,ev=.iface te pe)
  tz:∃ c e fz,7<W0.heap.size∧W0.heap[7]? = some (.cells c e fz)∧c[15]? = some (.int .u8 4)
  utf:Lib.Utf8Tabs 4 5 W0
theorem cell_base {W0:World} {H:List Grp} {w:World} (hs:Sat W0 H w) {b off:Nat} {v:Value} (hb:b<W0.heap.size) (h:W0.cell? ⟨b,off,none⟩=some v):w.cell? ⟨b,off,none⟩=some v:=by
  rw [← h]; unfold World.cell?; simp only [hs.below.block b hb]
theorem synErr (fn s:ByteArray) (hs:s.size≤281474976710656) (W0:World) (H:List Grp) (hW:F2 W0):Tri Tryz.prog 56 #[.string fn,.string s] W0 H (fun v H'=>(∃ N,v=pt N)∧H'=H) :=
  Tri_ex (fun w hw=>by
    obtain ⟨ev,h1,h2,h3⟩:=hW.err
    exact (Tryz.strconv_syntaxError fn s ev w hs (cell_base hw h1 h2) h3).mono fun e w' ⟨N,h1,_,_,h4⟩=>⟨⟨_,h1,N,rfl⟩,h4⟩)
theorem toErr_ (fn s:ByteArray) (hs:s.size≤1000000000000) (b c:Int) (W0:World) (H:List Grp) (hW:F2 W0):Tri Tryz.prog 37 #[.string fn,.string s,.int .i64 b,.int .i64 c,.iface 99 (.int .i64 2)] W0 H (fun v H'=>(∃ N,v=.iface 102 (pt N))∧H'=H):=by
 refine D4 43 Tryz.func37 ?_
 refine A1 (G_p [0] [0,1,2,3,4] (k:=A0 (A1 (A1 (G_p [0] [0,1,2,3,4,11] (k:=A0 (C8 (A1 ?_))))))))
 refine A2 (A3 (j:=1) [0] (k:=GL_ifInt (i:=1) (ch:=[]) (tx:=99) (kd:=.i64) (a:=2) (b:=2) rfl rfl kr kr kr kr kr kr kr kr (A7 [0] [0,1,2,3,4,11,12] (k:=A0 (D3 kr (A1 (A2 (A3 (j:=2) [0,0] (k:=?_)))))))))
 refine C3 Tryz.func56 (synErr fn s (by omega) _ _ hW) ?_
 rintro _ _ ⟨⟨N,rfl⟩,rfl⟩
 refine A6 (E':=[⟨10,[],.iface 102 (pt N)⟩]) [0,0] [10] (k:=A0 (B0 (B4 (A5 (B6 [.tmp 10] [.iface 102 (pt N)] (k:=?_))))))
 exact ⟨⟨N,rfl⟩,rfl⟩
theorem parse16_ (s:ByteArray) (h0:0<s.size) (hs:s.size≤7) (W0:World) (H:List Grp) (hW:F2 W0):Tri Tryz.prog 113 #[.string s,.int .i64 16,.int .i64 32] W0 H (fun v H'=>((∃ n,numV 16 0 s.data.toList=some n∧0≤n∧n<16 ^ s.size∧v=.tuple #[.int .u64 n,.nilIface])∨(numV 16 0 s.data.toList=none∧∃ N,v=.tuple #[.int .u64 0,.iface 102 (pt N)]))∧H'=H):=by
 refine D4 26 Tryz.func113 ?_
 refine A1 (G_p [0,0] [0,1,2] (k:=A0 (A1 (A2 (A3 (j:=3) [0,0,0] (k:=C3 Tryz.func80 (inner16_ s h0 hs _ _) ?_))))))
 rintro _ _ ⟨⟨n,hV,hn0,hn1,rfl⟩ | ⟨hV,rfl⟩,rfl⟩
 ·
  refine A7 [0,0,0,0,0] [0,1,2,8,9] (k:=A0 (A1 (A1 (A2 (A3 (j:=1) [0] (k:=GL_ifNil (ch:=[]) (v:=.nilIface) (e:=true) true (hv:=.inl ⟨rfl,rfl⟩) (k:=A7 [] [0,1,2,8,9,18] (k:=A0 ?_))))))))
  refine C2 kr (A8 (A0 (A1 (G_p [0,0,0] [6,7] (k:=A0 (B0 (B6 [.tmp 6,.tmp 7] [.int .u64 n,.nilIface] (k:=?_))))))))
  exact ⟨.inl ⟨n,hV,hn0,hn1,rfl⟩,rfl⟩
 ·
  refine A7 [0,0,0,0,0] [0,1,2,8,9] (k:=A0 (A1 (A1 (A2 (A3 (j:=1) [0] (k:=GL_ifNil (ch:=[]) (v:=.iface 99 (.int .i64 2)) (e:=false) true (hv:=.inr ⟨⟨_,_,rfl⟩,rfl⟩) (k:=A7 [] [0,1,2,8,9,18] (k:=A0 ?_))))))))
  refine D3 kr (A1 (A2 (A3 (j:=5) [0,0,0,0,0] (k:=C3 Tryz.func37 (toErr_ (mB #[80,97,114,115,101,85,105,110,116]) s (by omega) 16 32 _ _ hW) ?_))))
  rintro _ _ ⟨⟨N,rfl⟩,rfl⟩
  refine A7 [0,0] [6,7] (k:=A0 (B0 (A5 (B6 [.tmp 6,.tmp 7] [.int .u64 0,.iface 102 (pt N)] (k:=?_)))))
  exact ⟨.inr ⟨hV,N,rfl⟩,rfl⟩
theorem idx0_ (s:ByteArray) (c:Int) (W0:World) (H:List Grp):Tri Tryz.prog 105 #[.string s,.int .u8 c] W0 H (fun v H'=>v=.int .i64 (bIdx s c)∧H'=H):=by
 refine D4 8 Tryz.func105 ?_
 refine A1 (G_p [0] [0,1] (k:=A0 (A1 (A2 (A3 (j:=2) [0,0] (k:=GL_extern (i:=2) (ch:=[]) (f:=124) (vs:=[.string s,.int .u8 c]) (v:=.int .i64 (bIdx s c)) (e:=Extern.BytealgIndexByte.indexByte) rfl rfl rfl kr kr Tryz.func124 kr rfl kr kr kr kr kr (fun w=>run_indexByte_string s c w) (A6 (E':=[⟨4,[],.int .i64 (bIdx s c)⟩]) [0] [4] (k:=A0 ?_))))))))
 refine B0 (B6 [.tmp 4] [.int .i64 (bIdx s c)] (k:=?_))
 exact ⟨rfl,rfl⟩
theorem idx_ (s:ByteArray) (c:Int) (W0:World) (H:List Grp):Tri Tryz.prog 85 #[.string s,.int .u8 c] W0 H (fun v H'=>v=.int .i64 (bIdx s c)∧H'=H):=by
 refine D4 8 Tryz.func85 ?_
 refine A1 (G_p [0] [0,1] (k:=A0 (A1 (A2 (A3 (j:=2) [0,0] (k:=K5 Tryz.func105 (idx0_ s c _ _) (A6 (E':=[⟨4,[],.int .i64 (bIdx s c)⟩]) [0] [4] (k:=A0 ?_))))))))
 refine B0 (B6 [.tmp 4] [.int .i64 (bIdx s c)] (k:=?_))
 exact ⟨rfl,rfl⟩
end Go.Proofs.YtmnihmfifpaaoaaGreatDoor
namespace Go.Proofs.YtmnihmfifpaaoaaGreatDoor
open Go.Sw Go.Esc Go.RowKit
theorem cell_lt {w:World} {b off:Nat} {v:Value} (h:w.cell? ⟨b,off,none⟩=some v):b<w.heap.size:=by
  rcases Nat.lt_or_ge b w.heap.size with h' | h'
  · exact h'
  · unfold World.cell? at h
    simp only [Array.getElem?_eq_none h'] at h
    cases h
theorem tabs_sat {W0:World} {H:List Grp} {w:World} {g3 g4:Nat} (h:Lib.Utf8Tabs g3 g4 W0) (hs:Sat W0 H w):Lib.Utf8Tabs g3 g4 w:=by
  have c:∀ {b off:Nat} {v:Value},W0.cell? ⟨b,off,none⟩=some v→w.cell? ⟨b,off,none⟩=some v:=fun h=>cell_base hs (cell_lt h) h
  exact ⟨fun q hq=>c (h.1 q hq),fun i hi=>⟨c (h.2 i hi).1,c (h.2 i hi).2⟩⟩
theorem validStr (s:ByteArray) (hs:s.size≤1000000000000) (W0:World) (H:List Grp) (hW:F2 W0):Tri Tryz.prog 83 #[.string s] W0 H (fun v H'=>v=.bool (validP s.data.toList)∧H'=H):=by
  rw [validP_D]
  exact Tri_below (fun w hw=>Any.utf8_ValidString Tryz.laysValid s w (by omega) (tabs_sat hW.utf hw))
end Go.Proofs.YtmnihmfifpaaoaaGreatDoor
namespace Go.Proofs.YtmnihmfifpaaoaaGreatDoor
open Go.Sw Go.Sha Go.Esc Go.RowKit
theorem sz_drop (s:ByteArray) (k:Nat):(s.extract k s.size).size=s.size - k:=by rw [ByteArray.size_extract,Nat.min_self]
theorem w32i {x:Int} (h0:0≤x) (h1:x≤2147483647):IntKind.wrap .i32 x=x:=by
  have e:∀ y,IntKind.wrap .i32 y=if y % 4294967296<2147483648 then y % 4294967296 else y % 4294967296 - 4294967296:=by intro y; first | rfl | (simp [IntKind.wrap,IntKind.bits,IntKind.signed]; split <;> split <;> omega)
  rw [e]; split <;> omega
end Go.Proofs.YtmnihmfifpaaoaaGreatDoor
namespace Go.Proofs.YtmnihmfifpaaoaaGreatDoor
open Go.Sw Go.Sha Go.Esc Go.RowKit
theorem shl10 {x:Int} (h0:0≤x) (h1:x≤1000000):IntKind.wrap .i64 (x * 2 ^ 10)=x * 1024:=by
  rw [show (2:Int) ^ 10=1024 by decide]; exact w64 (by omega) (by omega)
theorem unit_ (s:ByteArray) (hs:s.size≤1000000000000) (W0:World) (H:List Grp) (hW:F2 W0):Tri Tryz.prog 86 #[.string s] W0 H (fun v H'=>v=.int .i64 (D9 s.data.toList)∧H'=H):=by
 refine D4 28 Tryz.func86 ?_
 refine A1 (C4 (E':=[⟨0,[],.string s⟩]) [0] [0] (k:=A0 (A1 (A1 (A2 (A3 (j:=5) [0,0,0,0,0] (k:=F4 (ch:=[(8,false)]) (s:=s) (kd:=.i64) (j:=0) (hb:=(fun hc=>by have hg0:=I9 (t:=8) (c:=[]) (b:=decide ((s.size:Int)<6)) hc kr; (try simp at hg0); omega)) (k:=?_))))))))
 have hb1:=D0 s 0
 refine A3 (j:=10) [0,5,0,0] (k:=F4 (ch:=[(13,false)]) (s:=s) (kd:=.i64) (j:=1) (hb:=(fun hc=>by have hg0:=I9 (t:=13) (c:=[]) (b:=(decide ((s.size:Int)<6))||((C7 s 0) != 92)) hc kr; (try simp at hg0); omega)) (k:=?_))
 have hb2:=D0 s 1
 refine A7 [0,5] [0,17] (k:=A0 (C5 (b:=((decide ((s.size:Int)<6))||((C7 s 0) != 92))||((C7 s 1) != 117)) kr (fun hc3=>?_) (fun hc3=>?_)))
 ·
  simp only [Bool.or_eq_true,decide_eq_true_eq,bne_iff_ne,ne_eq] at hc3
  refine A1 (C4 (E':=[⟨2,[],.int .i64 (-1)⟩]) [0] [2] (k:=A0 (B0 (A5 (B6 [.tmp 2] [.int .i64 (-1)] (k:=?_))))))
  exact ⟨congrArg (Value.int .i64) (unit_no (by omega)).symm,rfl⟩
 ·
  simp only [Bool.or_eq_false_iff,decide_eq_false_iff_not,bne_eq_false_iff_eq] at hc3
  obtain ⟨⟨hc1,hc2⟩,hc3⟩:=hc3
  refine A8 (A0 (A1 (A2 (A3 (j:=1) [0] (k:=I4 s 2 6 (by omega) ?_)))))
  have hz:(s.extract 2 6).size=4:=by rw [ByteArray.size_extract]; omega
  refine C3 Tryz.func113 (parse16_ (s.extract 2 6) (by omega) (by omega) _ _ hW) ?_
  rintro _ _ ⟨⟨n,hV,hn0,hn1,rfl⟩ | ⟨hV,N,rfl⟩,rfl⟩
  ·
   have hp:=pow16 (show (s.extract 2 6).size≤7 by omega)
   refine A7 [0,0,0,0,0] [3,4] (k:=A0 (A1 (A1 (A2 (A3 (j:=1) [0] (k:=GL_ifNil (ch:=[]) (v:=.nilIface) (e:=true) true (hv:=.inl ⟨rfl,rfl⟩) (k:=A7 [] [3,25] (k:=A0 ?_))))))))
   refine C2 kr (A8 (A0 (A1 (A2 (A3 (j:=2) [0,0] (k:=GL_wi 27 n (by omega) (by omega) kr (A6 (E':=[⟨2,[],.int .i64 n⟩]) [0] [2] (k:=A0 ?_))))))))
   refine B0 (B6 [.tmp 2] [.int .i64 n] (k:=?_))
   exact ⟨congrArg (Value.int .i64) (by rw [unit_yes (by omega) hc2 hc3,hV]; rfl),rfl⟩
  ·
   refine A7 [0,0,0,0,0] [3,4] (k:=A0 (A1 (A1 (A2 (A3 (j:=1) [0] (k:=GL_ifNil (ch:=[]) (v:=.iface 102 (pt N)) (e:=false) true (hv:=.inr ⟨⟨_,_,rfl⟩,rfl⟩) (k:=A7 [] [3,25] (k:=A0 ?_))))))))
   refine D3 kr (A1 (C4 (E':=[⟨2,[],.int .i64 (-1)⟩]) [0] [2] (k:=A0 (B0 (A5 (B6 [.tmp 2] [.int .i64 (-1)] (k:=?_)))))))
   exact ⟨congrArg (Value.int .i64) (by rw [unit_yes (by omega) hc2 hc3,hV]; rfl),rfl⟩
theorem escape_ (s:ByteArray) (hs:s.size≤1000000000000) (W0:World) (H:List Grp) (hW:F2 W0):Tri Tryz.prog 64 #[.string s] W0 H (fun v H'=>v=.tuple #[.int .i64 (I8 s.data.toList).1,.int .i64 ((I8 s.data.toList).2:Int)]∧H'=H):=by
 refine D4 51 Tryz.func64 ?_
 refine A1 (C4 (E':=[⟨0,[],.string s⟩]) [0,0] [0] (k:=A0 (A1 (A1 (G_p [0,0,0] [0,9] (k:=A0 (C5 (b:=decide ((s.size:Int)<2)) kr (fun hc1=>?_) (fun hc1=>?_))))))))
 ·
  simp only [decide_eq_true_eq] at hc1
  refine A1 (G_p [0,0] [2,3] (k:=A0 (B0 (A5 (B6 [.tmp 2,.tmp 3] [.int .i64 (-1),.int .i64 0] (k:=?_))))))
  exact ⟨by rw [show I8 s.data.toList=(-1,0) from by unfold I8; rw [if_pos (by rw [D6]; omega)]]; rfl,rfl⟩
 ·
  simp only [decide_eq_false_iff_not] at hc1
  obtain ⟨b,hb⟩:∃ b:UInt8,b=s.data.toList.getD 1 0:=⟨_,rfl⟩
  have hbyte:C7 s 1=(b.toNat:Int):=by rw [byte1,hb]
  have h8:=one_at b
  refine A8 (A0 (A1 (A1 (A2 (A3 (j:=1) [0] (k:=GL_ixq s 1 (fun _=>by omega) ?_))))))
  have hb2:=D0 s 1
  refine D2 11 (x:=.int .u8 (C7 s 1)) (y:=.int .u8 (b.toNat:Int)) (by rw [hbyte]) (K5 Tryz.func85 (idx_ (mB #[34,92,47,98,102,110,114,116]) (b.toNat:Int) _ _) (A7 [0] [0,4] (k:=A0 (A1 (G_p [0,0] [0,4,14] (k:=A0 (C5 (b:=decide ((bIdx (mB #[34,92,47,98,102,110,114,116]) (b.toNat:Int)) ≥ 0)) kr (fun hc3=>?_) (fun hc3=>?_))))))))
  ·
   simp only [decide_eq_true_eq,ge_iff_le] at hc3
   have h9:=h8.2.1 hc3
   refine A1 (A2 (A3 (j:=1) [0] (k:=GL_ixq (mB #[34,92,47,8,12,10,13,9]) (bIdx (mB #[34,92,47,98,102,110,114,116]) (b.toNat:Int)) (by intro _; exact ⟨by omega,by show _<(8:Int); omega⟩) ?_)))
   have hb4:=D0 (mB #[34,92,47,8,12,10,13,9]) (bIdx (mB #[34,92,47,98,102,110,114,116]) (b.toNat:Int))
   refine A3 (j:=3) [0] (k:=GL_wi 17 (C7 (mB #[34,92,47,8,12,10,13,9]) (bIdx (mB #[34,92,47,98,102,110,114,116]) (b.toNat:Int))) (by omega) (by omega) kr (A7 [0,0] [2,3] (k:=A0 (B0 (A5 (B6 [.tmp 2,.tmp 3] [.int .i64 (C7 (mB #[34,92,47,8,12,10,13,9]) (bIdx (mB #[34,92,47,98,102,110,114,116]) (b.toNat:Int))),.int .i64 2] (k:=?_)))))))
   exact ⟨by rw [show I8 s.data.toList=(J8 b,2) from by unfold I8; rw [if_neg (by rw [D6]; omega),← hb,if_pos h9.2],h9.1]; rfl,rfl⟩
  ·
   simp only [decide_eq_false_iff_not,ge_iff_le] at hc3
   have h9:=h8.2.2 hc3
   refine A8 (A0 (A1 (A2 (A3 (j:=1) [0] (k:=C3 Tryz.func86 (unit_ s (by (try simp only [ByteArray.size_extract]); omega) _ _ hW) ?_)))))
   rintro _ _ ⟨rfl,rfl⟩
   have hu133:=unitM_rng s.data.toList
   refine A7 [0] [0,5] (k:=A0 (A1 (C8 (A1 (G_p [0,0,0,0,0,6,0] [0,5,20] (k:=A0 (C5 (b:=(decide ((D9 s.data.toList) ≥ 55296))&&(decide ((D9 s.data.toList)<56320))) kr (fun hc6=>?_) (fun hc6=>?_))))))))
   ·
    simp only [Bool.and_eq_true,decide_eq_true_eq,ge_iff_le] at hc6
    have hl6:=unitM_len (l:=s.data.toList) (by omega)
    rw [D6] at hl6
    refine A1 (A2 (A3 (j:=1) [0] (k:=I4 s 6 (s.size:Int) (fun _=>by omega) (C3 Tryz.func86 (unit_ (s.extract 6 s.size) (by (try simp only [ByteArray.size_extract]); omega) _ _ hW) ?_))))
    rintro _ _ ⟨rfl,rfl⟩
    have hu136:=unitM_rng (s.extract 6 s.size).data.toList
    refine A6 (E':=[⟨5,[],.int .i64 (D9 s.data.toList)⟩,⟨6,[],.int .i64 (D9 (s.extract 6 s.size).data.toList)⟩]) [0] [5,6] (k:=A0 (A1 (A1 (G_p [0,0,0,0,0,5] [5,6,35] (k:=A0 (C5 (b:=(decide ((D9 (s.extract 6 s.size).data.toList)<56320))||(decide ((D9 (s.extract 6 s.size).data.toList) > 57343))) kr (fun hc7=>?_) (fun hc7=>?_)))))))
    ·
     simp only [Bool.or_eq_true,decide_eq_true_eq,gt_iff_lt] at hc7
     refine A1 (G_p [0,0] [2,3] (k:=A0 (B0 (A5 (B4 (A5 (B6 [.tmp 2,.tmp 3] [.int .i64 (-1),.int .i64 0] (k:=?_))))))))
     exact ⟨by rw [show I8 s.data.toList=(-1,0) from by unfold I8; rw [if_neg (by rw [D6]; omega),← hb,if_neg (by omega),if_pos (by omega),← J2,if_pos (by omega)]]; rfl,rfl⟩
    ·
     simp only [Bool.or_eq_false_iff,decide_eq_false_iff_not,gt_iff_lt] at hc7
     refine A8 (A0 (A1 (A2 (A3 (j:=2) [0,0] (k:=GL_wi 37 ((D9 s.data.toList) - 55296) (by omega) (by omega) kr (A3 (j:=3) [0] (k:=D2 38 (x:=.int .i64 (IntKind.wrap .i64 (((D9 s.data.toList) - 55296) * 2 ^ 10))) (y:=.int .i64 (((D9 s.data.toList) - 55296) * 1024)) (by rw [shl10 (by omega) (by omega)]) (A3 (j:=4) [0] (k:=?_)))))))))
     refine GL_wi 39 (65536+(((D9 s.data.toList) - 55296) * 1024)) (by omega) (by omega) kr (A3 (j:=6) [0,0] (k:=GL_wi 41 ((65536+(((D9 s.data.toList) - 55296) * 1024))+(D9 (s.extract 6 s.size).data.toList)) (by omega) (by omega) kr (A3 (j:=7) [0] (k:=GL_wi 42 (((65536+(((D9 s.data.toList) - 55296) * 1024))+(D9 (s.extract 6 s.size).data.toList)) - 56320) (by omega) (by omega) kr (A7 [0,0] [2,3] (k:=A0 (B0 (B4 ?_))))))))
     refine A5 (B6 [.tmp 2,.tmp 3] [.int .i64 (((65536+(((D9 s.data.toList) - 55296) * 1024))+(D9 (s.extract 6 s.size).data.toList)) - 56320),.int .i64 12] (k:=?_))
     exact ⟨by rw [show I8 s.data.toList=(65536+((D9 s.data.toList) - 55296) * 1024+D9 (s.extract 6 s.size).data.toList - 56320,12) from by unfold I8; rw [if_neg (by rw [D6]; omega),← hb,if_neg (by omega),if_pos (by omega),← J2,if_neg (by omega)]]; rfl,rfl⟩
   ·
    simp only [Bool.and_eq_false_iff,decide_eq_false_iff_not,ge_iff_le] at hc6
    refine A1 (C4 (E':=[⟨5,[],.int .i64 (D9 s.data.toList)⟩,⟨43,[],.bool ((decide ((D9 s.data.toList) ≥ 56320))&&(decide ((D9 s.data.toList)<57344)))⟩]) [0,0,0,0,0,6,0] [5,43] (k:=A0 (C5 (b:=(decide ((D9 s.data.toList) ≥ 56320))&&(decide ((D9 s.data.toList)<57344))) kr (fun hc12=>?_) (fun hc12=>?_))))
    ·
     simp only [Bool.and_eq_true,decide_eq_true_eq,ge_iff_le] at hc12
     refine A1 (G_p [0,0] [2,3] (k:=A0 (B0 (B4 (A5 (B6 [.tmp 2,.tmp 3] [.int .i64 (-1),.int .i64 0] (k:=?_)))))))
     exact ⟨by rw [show I8 s.data.toList=(-1,0) from by unfold I8; rw [if_neg (by rw [D6]; omega),← hb,if_neg (by omega),if_neg (by omega),if_pos (by omega)]]; rfl,rfl⟩
    ·
     simp only [Bool.and_eq_false_iff,decide_eq_false_iff_not,ge_iff_le] at hc12
     refine A8 (D8 (A0 (A1 (G_p [0,0,0] [2,3] (k:=A0 (B0 (B6 [.tmp 2,.tmp 3] [.int .i64 (D9 s.data.toList),.int .i64 6] (k:=?_))))))))
     exact ⟨by rw [show I8 s.data.toList=((D9 s.data.toList),6) from by unfold I8; rw [if_neg (by rw [D6]; omega),← hb,if_neg (by omega),if_neg (by omega),if_neg (by omega)]]; rfl,rfl⟩
theorem valid_ (s:ByteArray) (hs:s.size≤1000000000000) (W0:World) (H:List Grp) (hW:F2 W0):Tri Tryz.prog 62 #[.string s] W0 H (fun v H'=>v=.bool (validP s.data.toList)∧H'=H):=by
 refine D4 5 Tryz.func62 ?_
 refine A1 (C4 (E':=[⟨0,[],.string s⟩]) [0] [0] (k:=A0 (A1 (A2 (A3 (j:=1) [0] (k:=C3 Tryz.func83 (validStr s (by omega) _ _ hW) ?_))))))
 rintro _ _ ⟨rfl,rfl⟩
 refine A6 (E':=[⟨2,[],.bool (validP s.data.toList)⟩]) [0] [2] (k:=A0 (B0 (B6 [.tmp 2] [.bool (validP s.data.toList)] (k:=?_))))
 exact ⟨rfl,rfl⟩
theorem unjson_ (s:ByteArray) (hs:s.size≤10000000000) (W0:World) (H:List Grp) (hW:F2 W0):Tri Tryz.prog 42 #[.string s] W0 H (fun v H'=>v=unjV (unjM s.data.toList)∧H'=H):=by
 refine D4 67 Tryz.func42 ?_
 refine A1 (C4 (E':=[⟨0,[],.string s⟩]) [0,0] [0] (k:=A0 (A1 (A1 (A2 (A3 (j:=5) [0,0,0,0,0] (k:=F4 (ch:=[(11,false)]) (s:=s) (kd:=.i64) (j:=0) (hb:=(fun hc=>by have hg0:=I9 (t:=11) (c:=[]) (b:=decide ((s.size:Int)<2)) hc kr; (try simp at hg0); omega)) (k:=?_))))))))
 have hb1:=D0 s 0
 have hw2:IntKind.wrap .i64 ((s.size:Int) - 1)=(s.size:Int) - 1:=w64 (by omega) (by omega)
 refine A3 (j:=13) [0,5,0,0,0,0,0] (k:=GL_evG 20 [(16,false)] (x:=.int .i64 (IntKind.wrap .i64 ((s.size:Int) - 1))) (y:=.int .i64 ((s.size:Int) - 1)) (by simp only [hw2]) (F4 (ch:=[(16,false)]) (s:=s) (kd:=.i64) (j:=(s.size:Int) - 1) (hb:=(fun hc=>by have hg0:=I9 (t:=16) (c:=[]) (b:=(decide ((s.size:Int)<2))||((C7 s 0) != 34)) hc kr; (try simp at hg0); omega)) (k:=?_)))
 have hb3:=D0 s ((s.size:Int) - 1)
 refine A3 (j:=18) [0,5,0,0] (k:=GL_cG [(24,false)] Tryz.func62 (fun hc=>valid_ s (by omega) _ _ hW) (A7 [0,5] [0,28] (k:=A0 (C5 (b:=(((decide ((s.size:Int)<2))||((C7 s 0) != 34))||((C7 s ((s.size:Int) - 1)) != 34))||(!(validP s.data.toList))) kr (fun hc4=>?_) (fun hc4=>?_)))))
 ·
  simp only [Bool.or_eq_true,Bool.not_eq_true',decide_eq_true_eq,bne_iff_ne,ne_eq] at hc4
  refine A1 (G_p [0,0] [2,3] (k:=A0 (B0 (A5 (B6 [.tmp 2,.tmp 3] [.string eB,.int .i64 20] (k:=?_))))))
  exact ⟨by rw [unj_no (by assumption)]; rfl,rfl⟩
 ·
  simp only [Bool.or_eq_false_iff,Bool.not_eq_false',decide_eq_false_iff_not,bne_eq_false_iff_eq] at hc4
  obtain ⟨⟨⟨hq1,hq2⟩,hq3⟩,hq4⟩:=hc4
  have hU0:=unj_yes hq1 hq2 hq3 hq4
  refine A8 (A0 (A1 (A2 (A3 (j:=4) [0,0,0,0] (k:=GL_wi 32 ((s.size:Int) - 1) (by omega) (by omega) kr (I4 s 1 ((s.size:Int) - 1) (fun _=>by omega) (A7 [0] [0] (k:=A0 ?_))))))))
  refine A1 (A2 (I1 (.agg #[.pointer none,.slice none 0 0]) (fun b6=>GL_heap rfl (H':=([(b6,.cells #[.pointer none,.slice none 0 0] 108 (0,0))]::[]::H)) (fun w h=>h.flat (List.Perm.refl _)) (A7 [] [0,4] (k:=A0 (A1 (C8 (G_loop (EI:=(fun ξ:Value × Value × Grp × ByteArray × ByteArray=>[⟨0,[],.string ξ.2.2.2.2⟩,⟨4,[],pt b6⟩])) (HI:=(fun ξ:Value × Value × Grp × ByteArray × ByteArray=>([(b6,.cells #[ξ.1,ξ.2.1] 108 (0,0))]::ξ.2.2.1::H))) (Φ:=(fun ξ:Value × Value × Grp × ByteArray × ByteArray=>(Bld b6 ξ.1)∧(BOwn ξ.2.1 ξ.2.2.1 ξ.2.2.2.1)∧(ξ.2.2.2.2.size≤s.size)∧(ξ.2.2.2.1.size+4 * ξ.2.2.2.2.size≤4 * s.size)∧(unjM s.data.toList=(ujL ξ.2.2.2.2.data.toList).map (ξ.2.2.2.1.data.toList++·)))) (μ:=(fun ξ:Value × Value × Grp × ByteArray × ByteArray=>ξ.2.2.2.2.size)) (s0:=(.pointer none,.slice none 0 0,[],.empty,(s.extract 1 (Int.toNat (((s.size:Nat):Int) - 1))))) [0,4] kr rfl ⟨bld0,bown0,(by show (s.extract 1 _).size≤_; rw [ByteArray.size_extract]; omega),(by show 0+4 * (s.extract 1 _).size≤_; rw [ByteArray.size_extract]; omega),(by exact hU0)⟩ ?_))))))))
  rintro ⟨p,v,g,t,sv⟩ ⟨hbp,hB,hz,hts,hT⟩
  dsimp only at hbp hB hz hts hT
  refine A1 (A1 (G_p [0,0,0] [0,4,36] (k:=A0 (C5 (b:=decide ((sv.size:Int) > 0)) kr (fun hc7=>?_) (fun hc7=>?_)))))
  ·
   simp only [decide_eq_true_eq,gt_iff_lt] at hc7
   have hpos:0<sv.size:=by omega
   obtain ⟨b,hb⟩:∃ b:UInt8,b=sv.data.toList.getD 0 0:=⟨_,rfl⟩
   have hbyte:C7 sv 0=(b.toNat:Int):=by rw [byte0,hb]
   refine A8 (A0 (C8 (A1 (A2 (A3 (j:=1) [0] (k:=GL_ixq sv 0 (fun _=>by omega) ?_))))))
   have hb8:=D0 sv 0
   refine D2 38 (x:=.int .u8 (C7 sv 0)) (y:=.int .u8 (b.toNat:Int)) (by rw [hbyte]) (A7 [0] [0,4,5] (k:=A0 (C8 (A1 (G_p [0,0,0,0,0,5,0] [0,4,5,52] (k:=A0 (C5 (b:=(decide ((b.toNat:Int)<32))||((b.toNat:Int)==34)) kr (fun hc9=>?_) (fun hc9=>?_))))))))
   ·
    simp only [Bool.or_eq_true,decide_eq_true_eq,beq_iff_eq] at hc9
    refine A1 (G_p [0,0] [2,3] (k:=A0 (B0 (B4 (B4 (A5 (B4 (A5 ?_))))))))
    refine N_pk 2 [] (B6 [.tmp 2,.tmp 3] [.string eB,.int .i64 20] (k:=?_))
    exact ⟨by rw [hT,ujA hpos hb (by omega)]; rfl,rfl⟩
   ·
    simp only [Bool.or_eq_false_iff,decide_eq_false_iff_not,beq_eq_false_iff_ne,ne_eq] at hc9
    have hno:¬ ((b.toNat:Int)<32∨(b.toNat:Int)=34):=by omega
    refine A1 (G_p [0,0,0] [0,4,5,59] (k:=A0 (C5 (b:=(b.toNat:Int) != 92) kr (fun hc10=>?_) (fun hc10=>?_))))
    ·
     simp only [bne_iff_ne,ne_eq] at hc10
     have hne:=hc10
     refine A1 (A2 (A3 (j:=1) [0] (k:=C3 Tryz.func63 (writeByteC b6 (p) (v) g t b hbp hB (by omega) _ _) ?_)))
     rintro _ _ ⟨v11,g12,hB13,rfl⟩
     refine A6 (E':=[⟨0,[],.string sv⟩,⟨4,[],pt b6⟩]) [] [0,4] (k:=A0 (A2 (A3 (j:=1) [0] (k:=I4 sv 1 (sv.size:Int) (fun _=>by omega) (A7 [0] [0,4] (k:=D8 (D8 (J1 (s':=(pt b6,v11,g12,(t++⟨#[b]⟩),sv.extract 1 sv.size)) [0,4] kr rfl ⟨bld1,hB13,(by dsimp only; rw [sz_drop]; omega),(by dsimp only; simp only [size_app,sz1]; have h3:=sz_drop sv 1; omega),(by dsimp only; rw [hT,ujB hpos hb hno hne,map_one (c:=(t++⟨#[b]⟩).data.toList) (data_app _ _)])⟩ (by dsimp only; rw [sz_drop]; omega)))))))))
    ·
     simp only [bne_eq_false_iff_eq] at hc10
     have he92:=hc10
     refine A1 (A2 (A3 (j:=1) [0] (k:=C3 Tryz.func64 (escape_ sv (by omega) _ _ hW) ?_)))
     rintro _ _ ⟨rfl,rfl⟩
     refine A7 [0,0,0,0,0] [0,4,6,7] (k:=A0 (A1 (A1 (C4 (E':=[⟨0,[],.string sv⟩,⟨4,[],pt b6⟩,⟨6,[],.int .i64 ((I8 sv.data.toList).1)⟩,⟨7,[],.int .i64 ((I8 sv.data.toList).2:Int)⟩,⟨45,[],.bool (decide (((I8 sv.data.toList).1)<0))⟩]) [0,0] [0,4,6,7,45] (k:=A0 (C5 (b:=decide (((I8 sv.data.toList).1)<0)) kr (fun hc14=>?_) (fun hc14=>?_)))))))
     ·
      simp only [decide_eq_true_eq] at hc14
      refine A1 (G_p [0,0] [2,3] (k:=A0 (B0 (A5 (B4 (B4 (A5 (B4 ?_))))))))
      refine A5 (N_pk 2 [] (B6 [.tmp 2,.tmp 3] [.string eB,.int .i64 20] (k:=?_)))
      exact ⟨by rw [hT,(ujC hpos hb he92).1 (by omega)]; rfl,rfl⟩
     ·
      simp only [decide_eq_false_iff_not] at hc14
      have hep:=escM_pos (l:=sv.data.toList) (by omega)
      have hep2:=hep.2.1
      rw [D6] at hep2
      have hri:=hep.2.2
      unfold isR at hri
      refine A8 (A0 (A1 (A2 (A3 (j:=2) [0,0] (k:=D2 47 (x:=.int .i32 (IntKind.wrap .i32 ((I8 sv.data.toList).1))) (y:=.int .i32 ((I8 sv.data.toList).1)) (by rw [w32i (by omega) (by omega)]) (C3 Tryz.func65 (writeRune b6 (p) (v) g t ((I8 sv.data.toList).1) hbp hB hep.2.2 (by omega) _ _) ?_))))))
      rintro _ _ ⟨v15,g16,hB17,rfl⟩
      refine A7 [] [0,4,7] (k:=A0 (A2 (A3 (j:=2) [0,0] (k:=I4 sv ((I8 sv.data.toList).2:Int) (sv.size:Int) (fun _=>by omega) (D2 51 (x:=.string (sv.extract (Int.toNat ((I8 sv.data.toList).2:Int)) sv.size)) (y:=.string (sv.extract (I8 sv.data.toList).2 sv.size)) (by rw [Int.toNat_natCast]) (A7 [0] [0,4] (k:=D8 (D8 ?_))))))))
      refine J1 (s':=(pt b6,v15,g16,(t++encB ((I8 sv.data.toList).1)),sv.extract (I8 sv.data.toList).2 sv.size)) [0,4] kr rfl ⟨bld1,hB17,(by dsimp only; rw [sz_drop]; omega),(by dsimp only; simp only [size_app]; have h3:=sz_drop sv (I8 sv.data.toList).2; have h4:=encB_size (I8 sv.data.toList).1; omega),(by dsimp only; rw [hT,(ujC hpos hb he92).2 (by omega),map_app (c:=(t++encB (I8 sv.data.toList).1).data.toList) (by rw [data_app,K0])])⟩ (by dsimp only; rw [sz_drop]; omega)
  ·
   simp only [decide_eq_false_iff_not,gt_iff_lt] at hc7
   refine I3 (B3 (B3 (C6 (A0 (A1 (A2 (C3 Tryz.func66 (builderString b6 (p) (v) g t hB (by omega) _ _) ?_)))))))
   rintro _ _ ⟨rfl,rfl⟩
   refine A7 [0,0] [2,3] (k:=A0 (B0 (N_pk 1 [] (B6 [.tmp 2,.tmp 3] [.string t,.int .i64 0] (k:=?_)))))
   exact ⟨by rw [hT,List.eq_nil_of_length_eq_zero (show sv.data.toList.length=0 by rw [D6]; omega),ujL_nil]; show _=unjV (some (t.data.toList++[])); rw [List.append_nil]; rfl,rfl⟩
end Go.Proofs.YtmnihmfifpaaoaaGreatDoor
namespace Go.Proofs.YtmnihmfifpaaoaaGreatDoor
open Go.Sw Go.Sha Go.Esc Go.RowKit Go.Json
theorem unj_cases {l:List UInt8} {v:Value} {H1 H:List Grp} (h:v=unjV (unjM l)∧H1=H):((∃ t,unjM l=some t∧v=.tuple #[.string (bk t),.int .i64 0])∨(unjM l=none∧v=.tuple #[.string eB,.int .i64 20]))∧H1=H:=by
  refine ⟨?_,h.2⟩
  have h1:=h.1
  cases hq:unjM l with
  | none=>rw [hq] at h1; exact .inr ⟨rfl,h1⟩
  | some t=>rw [hq] at h1; exact .inl ⟨t,rfl,h1⟩
theorem rdG_flt (r:Nat) (n:Int) (l l2:List UInt8) (e:Int):rdG r (l2,(fltR n (l,e)).2)=rdG r (fltR n (l2,e)):=rfl
theorem jtext_ (r:Nat) (q:RdS) (hl:q.1.length≤1000000) (W0:World) (H:List Grp) (hW:F2 W0):Tri Tryz.prog 28 #[pt r] W0 ([(r,.cells #[.string (bk q.1),.int .i64 q.2] 55 (0,0))]::H) (fun v H'=>v=.string (bk (B7 q).1)∧H'=rdG r (B7 q).2::H):=by
  have hbz:=bk_size q.1
  refine D4 76 Tryz.func28 ?_
  refine A1 (C4 (E':=[⟨0,[],pt r⟩]) [0] [0] (k:=A0 (A1 (C4 (E':=[⟨0,[],pt r⟩,⟨3,[],.int .i64 1⟩]) [0] [0,3] (k:=A0 (A1 (C8 (G_loop (EI:=(fun ξ:Nat=>[⟨0,[],pt r⟩,⟨3,[],.int .i64 ((ξ:Nat):Int)⟩])) (HI:=(fun ξ:Nat=>([(r,.cells #[.string (bk q.1),.int .i64 q.2] 55 (0,0))]::H))) (Φ:=(fun ξ:Nat=>(1≤ξ)∧(ξ≤q.1.length+2)∧(1+qL (q.1.drop 1)=ξ+qL (q.1.drop ξ)))) (μ:=(fun ξ:Nat=>q.1.length+2 - ξ)) (s0:=(1)) [0,3] kr rfl ⟨(Nat.le_refl _),(Nat.le_add_left _ _),rfl⟩ ?_))))))))
  rintro e ⟨he1,hel,hT⟩
  refine A1 (A1 (A2 (A3 (j:=4) [0,0,0,0] (k:=B8 0 0 rfl rfl (A3 (j:=11) [0,0,0,0,0,0] (k:=GL_load (ch:=[(13,true)]) (b:=r) (off:=0) (v:=.string (bk q.1)) (hA:=At.grp 0 0 rfl rfl) (k:=A3 (j:=13) [0] (k:=F4 (ch:=[(13,true)]) (s:=(bk q.1)) (kd:=.i64) (j:=((e:Nat):Int)) (hb:=(fun hc=>by have hg0:=I9 (t:=13) (c:=[]) (b:=decide (((e:Nat):Int)<((bk q.1).size:Int))) hc kr; (try simp at hg0); omega)) (k:=?_)))))))))
  have hb1:=D0 (bk q.1) ((e:Nat):Int)
  refine A7 [0,6] [0,3,21] (k:=A0 (C5 (b:=(decide (((e:Nat):Int)<((bk q.1).size:Int)))&&((C7 (bk q.1) ((e:Nat):Int)) != 34)) kr (fun hc2=>?_) (fun hc2=>?_)))
  ·
    simp only [Bool.and_eq_true,decide_eq_true_eq,bne_iff_ne,ne_eq,byteJ,u34] at hc2
    have h1:=hc2
    refine A8 (A0 (C8 (A1 (A1 (A2 (A3 (j:=3) [0,0,0] (k:=B8 0 0 rfl rfl (A3 (j:=5) [0] (k:=?_)))))))))
    refine GL_ixq (bk q.1) ((e:Nat):Int) (fun _=>by omega) ?_
    have hb3:=D0 (bk q.1) ((e:Nat):Int)
    refine A7 [0] [0,3,28] (k:=A0 (C5 (b:=(C7 (bk q.1) ((e:Nat):Int))==92) kr (fun hc4=>?_) (fun hc4=>?_)))
    ·
      simp only [beq_iff_eq,byteJ,u92] at hc4
      have h2:=hc4
      have hw5:IntKind.wrap .i64 (((e:Nat):Int)+1)=((e:Nat):Int)+1:=w64 (by omega) (by omega)
      refine A2 (A3 (j:=2) [0,0] (k:=D2 30 (x:=.int .i64 (IntKind.wrap .i64 (((e:Nat):Int)+1))) (y:=.int .i64 (((e:Nat):Int)+1)) (by simp only [hw5]) (D2 30 (x:=.int .i64 (((e:Nat):Int)+1)) (y:=.int .i64 ((e+1:Nat):Int)) (by rw [show ((e:Nat):Int)+1=((e+1:Nat):Int) by omega]) (A7 [0] [0,3] (k:=A0 ?_)))))
      have hw6:IntKind.wrap .i64 (((e+1:Nat):Int)+1)=((e+1:Nat):Int)+1:=w64 (by omega) (by omega)
      refine A2 (A3 (j:=2) [0,0] (k:=D2 32 (x:=.int .i64 (IntKind.wrap .i64 (((e+1:Nat):Int)+1))) (y:=.int .i64 (((e+1:Nat):Int)+1)) (by simp only [hw6]) (D2 32 (x:=.int .i64 (((e+1:Nat):Int)+1)) (y:=.int .i64 ((e+2:Nat):Int)) (by rw [show ((e+1:Nat):Int)+1=((e+2:Nat):Int) by omega]) (A7 [0] [0,3] (k:=D8 (J1 (s':=(e+2)) [0,3] kr rfl ⟨(by (try dsimp only); omega),(by (try dsimp only); omega),(by (try dsimp only); first | (rw [hT,qL_two (by omega) h2]; omega) | (rw [hT,qL_one (by omega) (by first | exact h1.2 | (rcases h1 with ⟨h1,h1b⟩; exact h1b)) h2]; omega))⟩ (by (try dsimp only); omega)))))))
    ·
      simp only [beq_eq_false_iff_ne,ne_eq,byteJ,u92] at hc4
      have h2:=hc4
      refine A8 (A0 ?_)
      have hw7:IntKind.wrap .i64 (((e:Nat):Int)+1)=((e:Nat):Int)+1:=w64 (by omega) (by omega)
      refine A2 (A3 (j:=2) [0,0] (k:=D2 32 (x:=.int .i64 (IntKind.wrap .i64 (((e:Nat):Int)+1))) (y:=.int .i64 (((e:Nat):Int)+1)) (by simp only [hw7]) (D2 32 (x:=.int .i64 (((e:Nat):Int)+1)) (y:=.int .i64 ((e+1:Nat):Int)) (by rw [show ((e:Nat):Int)+1=((e+1:Nat):Int) by omega]) (A7 [0] [0,3] (k:=D8 (J1 (s':=(e+1)) [0,3] kr rfl ⟨(by (try dsimp only); omega),(by (try dsimp only); omega),(by (try dsimp only); first | (rw [hT,qL_two (by omega) h2]; omega) | (rw [hT,qL_one (by omega) (by first | exact h1.2 | (rcases h1 with ⟨h1,h1b⟩; exact h1b)) h2]; omega))⟩ (by (try dsimp only); omega)))))))
  ·
    simp only [Bool.and_eq_false_iff,decide_eq_false_iff_not,bne_eq_false_iff_eq,byteJ,u34] at hc2
    have h1:=hc2
    have hE:1+qL (q.1.drop 1)=e:=by
      rw [hT]
      rcases h1 with h | h
      · rw [qL_out (by omega)]; omega
      · rcases Nat.lt_or_ge e q.1.length with h3 | h3
        · rw [qL_quote h3 h]; omega
        · rw [qL_out h3]; omega
    refine I3 (B3 (B3 (C6 (A0 (A1 (A1 (A2 (A3 (j:=4) [0,0,0,0] (k:=?_)))))))))
    refine B8 0 0 rfl rfl (A3 (j:=11) [0,0,0,0,0,0] (k:=GL_load (ch:=[(40,false)]) (b:=r) (off:=0) (v:=.string (bk q.1)) (hA:=At.grp 0 0 rfl rfl) (k:=F4 (ch:=[(40,false)]) (s:=(bk q.1)) (kd:=.i64) (j:=0) (hb:=(fun hc=>by have hg0:=I9 (t:=40) (c:=[]) (b:=decide (((e:Nat):Int) ≥ ((bk q.1).size:Int))) hc kr; (try simp at hg0); omega)) (k:=?_))))
    have hb8:=D0 (bk q.1) 0
    refine A7 [0,5] [0,3,47] (k:=A0 (C5 (b:=(decide (((e:Nat):Int) ≥ ((bk q.1).size:Int)))||((C7 (bk q.1) 0) != 34)) kr (fun hc9=>?_) (fun hc9=>?_)))
    ·
      simp only [Bool.or_eq_true,decide_eq_true_eq,bne_iff_ne,ne_eq,ge_iff_le,I2,u34] at hc9
      have hz:=hc9
      refine A1 (A2 (A3 (j:=1) [0] (k:=C3 Tryz.func17 (jfault_ r q 70 _ _) ?_)))
      rintro _ _ rfl
      refine A6 (E':=[]) [] [] (k:=A0 (A1 (C4 (E':=[⟨2,[],.string eB⟩]) [0] [2] (k:=A0 (B0 (A5 (B6 [.tmp 2] [.string eB] (k:=?_))))))))
      exact ⟨by rw [textR_no hE (by rcases hz with h | h; exact .inl (by omega); exact .inr h)]; rfl,by rw [textR_no hE (by rcases hz with h | h; exact .inl (by omega); exact .inr h)]⟩
    ·
      simp only [Bool.or_eq_false_iff,decide_eq_false_iff_not,bne_eq_false_iff_eq,ge_iff_le,I2,u34] at hc9
      have hz:=hc9
      refine A8 (A0 (A1 (A2 (A3 (j:=3) [0,0,0] (k:=B8 0 0 rfl rfl (A3 (j:=6) [0,0] (k:=GL_wi 56 (((e:Nat):Int)+1) (by omega) (by omega) kr (I4 (bk q.1) 0 (((e:Nat):Int)+1) (fun _=>by omega) ?_))))))))
      refine D2 57 (x:=.string ((bk q.1).extract 0 (Int.toNat (((e:Nat):Int)+1)))) (y:=.string ((bk q.1).extract 0 (e+1))) (by rw [toNatJ]) (C3 (vs:=[.string ((bk q.1).extract 0 (e+1))]) Tryz.func42 ((Tri.post (unjson_ ((bk q.1).extract 0 (e+1)) (by rw [ext_bkT,bk_size,List.length_take]; omega) _ _ hW) fun v H1 h=>⟨H1,unj_cases h,fun _ h=>h⟩)) ?_)
      rintro _ _ ⟨⟨t,hV,rfl⟩ | ⟨hV,rfl⟩,rfl⟩
      all_goals rw [ext_take] at hV
      ·
        refine A7 [0,0,0,0,0] [0,3,4,5] (k:=A0 (A1 (A1 (G_p [0,0] [0,3,4,62] (k:=A0 (C2 kr (A8 (A0 ?_))))))))
        refine A1 (A2 (A3 (j:=4) [0,0,0,0] (k:=B8 0 0 rfl rfl (A3 (j:=7) [0,0] (k:=GL_wi 71 (((e:Nat):Int)+1) (by omega) (by omega) kr (I4 (bk q.1) (((e:Nat):Int)+1) ((bk q.1).size:Int) (fun _=>by omega) (D2 72 (x:=.string ((bk q.1).extract (Int.toNat (((e:Nat):Int)+1)) (bk q.1).size)) (y:=.string ((bk q.1).extract (e+1) (bk q.1).size)) (by rw [toNatJ]) (A3 (j:=10) [0,0] (k:=?_)))))))))
        refine D5 0 0 (.string ((bk q.1).extract (e+1) (bk q.1).size)) rfl (A6 (E':=[⟨4,[],.string (bk t)⟩]) [] [4] (k:=A0 (A1 (C4 (E':=[⟨2,[],.string (bk t)⟩]) [0,0] [2] (k:=A0 (B0 (B6 [.tmp 2] [.string (bk t)] (k:=?_))))))))
        exact ⟨by rw [textR_some hE (by omega) hz.2 hV]; rfl,by rw [textR_some hE (by omega) hz.2 hV,ext_bk]; rfl⟩
      ·
        refine A7 [0,0,0,0,0] [0,3,4,5] (k:=A0 (A1 (A1 (G_p [0,0] [0,3,4,62] (k:=A0 (D3 kr (A2 (A3 (j:=1) [0] (k:=?_)))))))))
        refine C3 Tryz.func17 (jfault_ r q 70 _ _) ?_
        rintro _ _ rfl
        refine A7 [] [0,3,4] (k:=A0 (A1 (A2 (A3 (j:=4) [0,0,0,0] (k:=B8 0 0 rfl rfl (A3 (j:=7) [0,0] (k:=GL_wi 71 (((e:Nat):Int)+1) (by omega) (by omega) kr (I4 (bk q.1) (((e:Nat):Int)+1) ((bk q.1).size:Int) (fun _=>by omega) ?_))))))))
        refine D2 72 (x:=.string ((bk q.1).extract (Int.toNat (((e:Nat):Int)+1)) (bk q.1).size)) (y:=.string ((bk q.1).extract (e+1) (bk q.1).size)) (by rw [toNatJ]) (A3 (j:=10) [0,0] (k:=D5 0 0 (.string ((bk q.1).extract (e+1) (bk q.1).size)) rfl (A6 (E':=[⟨4,[],.string eB⟩]) [] [4] (k:=A0 (A1 (C4 (E':=[⟨2,[],.string eB⟩]) [0,0] [2] (k:=A0 (B0 ?_))))))))
        refine B6 [.tmp 2] [.string eB] (k:=?_)
        exact ⟨by rw [textR_none hE (by omega) hz.2 hV]; rfl,by rw [textR_none hE (by omega) hz.2 hV,ext_bk]; exact congrArg (·::H) (rdG_flt _ _ _ _ _)⟩
end Go.Proofs.YtmnihmfifpaaoaaGreatDoor
namespace Go.Json
open Go.Sw Go.Esc
def strV (ns:List (List UInt8)):List Value:=ns.map fun n=>.string (bk n)
theorem strV_app (a b:List (List UInt8)):strV (a++b)=strV a++strV b:=List.map_append
theorem strV_len (a:List (List UInt8)):(strV a).length=a.length:=List.length_map _
theorem strV_at {a:List (List UInt8)} {k:Nat} (h:k<a.length):(strV a)[k]? = some (.string (bk a[k])):=by
  unfold strV; rw [List.getElem?_map,List.getElem?_eq_getElem h]; rfl
theorem rd_mono {S S':Nat→Obj→Prop} {a:Option Addr} {cs:List Value} (h:Rd S a cs) (hs:∀ b o,S b o→S' b o):Rd S' a cs:=by
  unfold Rd at h ⊢
  rcases h with h | ⟨b,off,c,t,z,h1,h2,h3⟩
  · exact .inl h
  · exact .inr ⟨b,off,c,t,z,h1,hs _ _ h2,h3⟩
mutual
inductive JRd (S:Nat→Obj→Prop):JV→List Value→Prop
  | mk {k:Int} {t:List UInt8} {ns:List (List UInt8)} {l:List JV} {an al:Option Addr} {cn cl:Nat} {cs:List Value}:Rd S an (strV ns)→Rd S al cs→JRdL S l cs→JRd S (.mk k t ns l) [.int .i64 k,.string (bk t),.slice an ns.length cn,.slice al l.length cl]
inductive JRdL (S:Nat→Obj→Prop):List JV→List Value→Prop
  | nil:JRdL S [] []
  | cons {v:JV} {l:List JV} {c cs:List Value}:JRd S v c→JRdL S l cs→JRdL S (v::l) (c++cs)
end
mutual
/-- owned: one group for all of it -/
inductive JRep (ts tj:TypeId):JV→List Value→Grp→Prop
  | mk {k:Int} {t:List UInt8} {ns:List (List UInt8)} {l:List JV} {an al:Option Addr} {cn cl:Nat} {cs:List Value} {gn gl gs:Grp}:Go.Sw.Own ts 1 (.slice an ns.length cn) gn ns.length (strV ns)→Go.Sw.Own tj 4 (.slice al l.length cl) gl l.length cs→JRepL ts tj l cs gs→JRep ts tj (.mk k t ns l) [.int .i64 k,.string (bk t),.slice an ns.length cn,.slice al l.length cl] (gn++(gl++gs))
inductive JRepL (ts tj:TypeId):List JV→List Value→Grp→Prop
  | nil:JRepL ts tj [] [] []
  | cons {v:JV} {l:List JV} {c cs:List Value} {g gs:Grp}:JRep ts tj v c g→JRepL ts tj l cs gs→JRepL ts tj (v::l) (c++cs) (g++gs)
end
theorem JRd.len {S:Nat→Obj→Prop} {v:JV} {c:List Value} (h:JRd S v c):c.length=4:=by cases h; rfl
theorem JRdL.len {S:Nat→Obj→Prop}:∀ {l:List JV} {cs:List Value},JRdL S l cs→cs.length=l.length * 4
  | [],_,h=>by cases h; rfl
  | v::l,_,h=>by
    cases h with
    | cons h1 h2=>rw [List.length_append,h1.len,h2.len,List.length_cons]; omega
theorem JRdL.at {S:Nat→Obj→Prop}:∀ {l:List JV} {cs:List Value} {i:Nat} (hi:i<l.length),JRdL S l cs→JRd S l[i] ((cs.drop (i * 4)).take 4)
  | [],_,_,hi,_=>absurd hi (Nat.not_lt_zero _)
  | v::l,_,0,_,h=>by
    cases h with
    | cons h1 h2 =>
      rw [Nat.zero_mul,List.drop_zero,List.take_append_of_le_length (by rw [h1.len]; exact Nat.le_refl _),List.take_of_length_le (by rw [h1.len]; exact Nat.le_refl _)]; exact h1
  | v::l,_,i+1,hi,h=>by
    cases h with
    | cons h1 h2 =>
      rename_i c cs
      have e:(c++cs).drop ((i+1) * 4)=cs.drop (i * 4):=by
        rw [List.drop_append,List.drop_eq_nil_of_le (by rw [h1.len]; omega),h1.len,List.nil_append,show (i+1) * 4 - 4=i * 4 by omega]
      rw [e]; exact JRdL.at (l:=l) (by simpa using hi) h2
theorem JRep.nul {ts tj:TypeId}:JRep ts tj nul [.int .i64 0,.string (bk []),.slice none 0 0,.slice none 0 0] []:=.mk (ns:=[]) (l:=[]) Go.Sw.Own.nil Go.Sw.Own.nil .nil
theorem JRep.atom {ts tj:TypeId} (k:Int) (t:List UInt8):JRep ts tj (.mk k t [] []) [.int .i64 k,.string (bk t),.slice none 0 0,.slice none 0 0] []:=.mk (ns:=[]) (l:=[]) Go.Sw.Own.nil Go.Sw.Own.nil .nil
theorem JRepL.snoc {ts tj:TypeId}:∀ {l:List JV} {cs:List Value} {gs:Grp} {v:JV} {c:List Value} {g:Grp},JRepL ts tj l cs gs→JRep ts tj v c g→JRepL ts tj (l++[v]) (cs++c) (gs++g)
  | [],_,_,v,c,g,h,hv=>by
    cases h
    have:=JRepL.cons hv .nil
    rw [List.append_nil,List.append_nil] at this
    exact this
  | x::l,_,_,v,c,g,h,hv=>by
    cases h with
    | cons h1 h2 =>
      rw [List.cons_append,List.append_assoc,List.append_assoc]
      exact .cons h1 (JRepL.snoc h2 hv)
mutual
theorem JRep.rd {ts tj:TypeId} {S:Nat→Obj→Prop}:∀ {v:JV} {c:List Value} {g:Grp},JRep ts tj v c g→(∀ b o,inG g b o→S b o)→JRd S v c
  | .mk _ _ _ _,_,_,.mk h1 h2 h3,hs=>.mk (rd_mono (own_rd h1) fun b o h=>hs b o (List.mem_append_left _ h)) (rd_mono (own_rd h2) fun b o h=>hs b o (List.mem_append_right _ (List.mem_append_left _ h))) (JRepL.rd h3 fun b o h=>hs b o (List.mem_append_right _ (List.mem_append_right _ h)))
theorem JRepL.rd {ts tj:TypeId} {S:Nat→Obj→Prop}:∀ {l:List JV} {cs:List Value} {g:Grp},JRepL ts tj l cs g→(∀ b o,inG g b o→S b o)→JRdL S l cs
  | [],_,_,.nil,_=>.nil
  | _::_,_,_,.cons h1 h2,hs=>.cons (JRep.rd h1 fun b o h=>hs b o (List.mem_append_left _ h)) (JRepL.rd h2 fun b o h=>hs b o (List.mem_append_right _ h))
end
end Go.Json
namespace Go.Json
open Go.Lib Go.Esc Go.Sw
theorem must_le (c:UInt8) (r:RdS):(C0 c r).1.length≤r.1.length:=by
  unfold C0
  split
  · show (List.drop _ _).length≤_; rw [List.length_drop]; omega
  · exact Nat.le_refl _
theorem text_le (r:RdS):(B7 r).2.1.length≤r.1.length:=by
  unfold B7
  split
  · exact Nat.le_refl _
  · split
    · show (List.drop _ _).length≤_; rw [List.length_drop]; omega
    · show (List.drop _ _).length≤_; rw [List.length_drop]; omega
theorem blkR_le (r:RdS):(A4 r).1.length≤r.1.length:=F0 r.1
theorem nameq_le (r:RdS):(C0 58 (A4 (B7 (A4 r)).2)).1.length≤r.1.length:=Nat.le_trans (must_le _ _) (Nat.le_trans (blkR_le _) (Nat.le_trans (text_le _) (blkR_le _)))
theorem mbR_end {val:RdS→JV × RdS} {obj:Bool} {q:RdS} (h:(blk q.1).take 1=[endB obj]):mbR val obj q=(.mk (kindB obj) [] [] [],((blk q.1).drop 1,q.2)):=by unfold mbR; rw [if_pos h]
theorem mbR_mem {val:RdS→JV × RdS} {obj:Bool} {q c:RdS} {a:List (List UInt8)} {b:List JV} (h:¬ (blk q.1).take 1=[endB obj]) (hM:memR val obj ((blk q.1).length+1) [] [] (A4 q)=((a,b),c)):mbR val obj q=(.mk (kindB obj) [] a b,c):=by unfold mbR; rw [if_neg h,hM]
theorem JRep.shape {ts tj:TypeId} {v:JV} {c:List Value} {g:Grp} (h:JRep ts tj v c g):∃ (k:Int) (t:ByteArray) (an:Option Addr) (n cn:Nat) (al:Option Addr) (m cl:Nat),c=[.int .i64 k,.string t,.slice an n cn,.slice al m cl]:=by
  cases h; exact ⟨_,_,_,_,_,_,_,_,rfl⟩
theorem JRd.shape {S:Nat→Obj→Prop} {v:JV} {c:List Value} (h:JRd S v c):∃ (an al:Option Addr) (cn cl:Nat) (cs:List Value),c=[.int .i64 v.kind,.string (bk v.text),.slice an v.names.length cn,.slice al v.list.length cl]∧Rd S an (strV v.names)∧Rd S al cs∧JRdL S v.list cs:=by
  cases h with
  | mk h1 h2 h3=>exact ⟨_,_,_,_,_,rfl,h1,h2,h3⟩
theorem take_head {l t:List UInt8} {n:Nat} {c:UInt8} (h:l.take n=c::t):l.getD 0 0=c:=by
  cases l with
  | nil=>rw [List.take_nil] at h; cases h
  | cons b u =>
    cases n with
    | zero=>cases h
    | succ n=>rw [List.take_succ_cons] at h; injection h with h _
theorem opens_no {l t:List UInt8} {n:Nat} {c:UInt8} (h:l.take n=c::t) (hc:c≠91∧c≠123):¬ J7 l:=by
  have:=take_head h
  rintro (h1 | h1)
  · exact hc.1 (this.symm.trans h1)
  · exact hc.2 (this.symm.trans h1)
theorem opens_not {l:List UInt8} (h1:¬ l.take 1=[91]) (h2:¬ l.take 1=[123]):¬ J7 l:=by
  rintro (h | h)
  · exact h1 ((take1 (by decide)).2 h)
  · exact h2 ((take1 (by decide)).2 h)
variable {lv : Nat} {q q1 : RdS}
theorem val_0 (hq:q1=vq1 lv q) (h:¬ q1.2=0):B2 lv q=(nul,q1):=by rw [hq]; exact valR_fault (by rw [← hq]; exact h)
theorem val_at (hq:q1=vq1 lv q) (h:q1.2=0) (ho:¬ J7 q1.1):B2 lv q=atomR q1:=by rw [hq]; exact valR_atom (by rw [← hq]; exact h) (by rw [← hq]; exact ho)
theorem val_null (hq:q1=vq1 lv q) (h:q1.2=0) (c1:q1.1.take 4=[110,117,108,108]):B2 lv q=(nul,(q1.1.drop 4,q1.2)):=by
  rw [val_at hq h (opens_no c1 (by decide))]; unfold atomR; rw [if_pos c1]
theorem val_false (hq:q1=vq1 lv q) (h:q1.2=0) (c1:¬ q1.1.take 4=[110,117,108,108]) (c2:q1.1.take 5=[102,97,108,115,101]):B2 lv q=(.mk 1 [] [] [],(q1.1.drop 5,q1.2)):=by
  rw [val_at hq h (opens_no c2 (by decide))]; unfold atomR; rw [if_neg c1,if_pos c2]
theorem val_true (hq:q1=vq1 lv q) (h:q1.2=0) (c1:¬ q1.1.take 4=[110,117,108,108]) (c2:¬ q1.1.take 5=[102,97,108,115,101]) (c3:q1.1.take 4=[116,114,117,101]):B2 lv q=(.mk 2 [] [] [],(q1.1.drop 4,q1.2)):=by
  rw [val_at hq h (opens_no c3 (by decide))]; unfold atomR; rw [if_neg c1,if_neg c2,if_pos c3]
theorem val_text (hq:q1=vq1 lv q) (h:q1.2=0) (c1:¬ q1.1.take 4=[110,117,108,108]) (c2:¬ q1.1.take 5=[102,97,108,115,101]) (c3:¬ q1.1.take 4=[116,114,117,101]) (c4:¬ q1.1.take 1=[91]) (c5:¬ q1.1.take 1=[123]) (c6:q1.1.take 1=[34]):B2 lv q=(.mk 4 (B7 q1).1 [] [],(B7 q1).2):=by
  rw [val_at hq h (opens_not c4 c5)]; unfold atomR; rw [if_neg c1,if_neg c2,if_neg c3,if_pos ((take1 (by decide)).1 c6)]
theorem val_none (hq:q1=vq1 lv q) (h:q1.2=0) (c1:¬ q1.1.take 4=[110,117,108,108]) (c2:¬ q1.1.take 5=[102,97,108,115,101]) (c3:¬ q1.1.take 4=[116,114,117,101]) (c4:¬ q1.1.take 1=[91]) (c5:¬ q1.1.take 1=[123]) (c6:¬ q1.1.take 1=[34]) (c7:numP q1.1=0):B2 lv q=(nul,fltR 70 q1):=by
  rw [val_at hq h (opens_not c4 c5)]; unfold atomR; rw [if_neg c1,if_neg c2,if_neg c3,if_neg (fun hn=>c6 ((take1 (by decide)).2 hn)),if_pos c7]
theorem val_num (hq:q1=vq1 lv q) (h:q1.2=0) (c1:¬ q1.1.take 4=[110,117,108,108]) (c2:¬ q1.1.take 5=[102,97,108,115,101]) (c3:¬ q1.1.take 4=[116,114,117,101]) (c4:¬ q1.1.take 1=[91]) (c5:¬ q1.1.take 1=[123]) (c6:¬ q1.1.take 1=[34]) (c7:¬ numP q1.1=0):B2 lv q=(.mk 3 (q1.1.take (numP q1.1)) [] [],(q1.1.drop (numP q1.1),q1.2)):=by
  rw [val_at hq h (opens_not c4 c5)]; unfold atomR; rw [if_neg c1,if_neg c2,if_neg c3,if_neg (fun hn=>c6 ((take1 (by decide)).2 hn)),if_neg c7]
theorem val_many (hq:q1=vq1 lv q) (h:q1.2=0) (obj:Bool) (ho:q1.1.take 1=[if obj then 123 else 91]):∃ n,lv=n+1∧B2 lv q=mbR (B2 n) obj (q1.1.drop 1,q1.2):=by
  have hh:=take_head ho
  obtain ⟨n,h1,h2⟩:=valR_open (lv:=lv) (q:=q) (by rw [← hq]; exact h) (by rw [← hq]; cases obj with | false=>exact .inl hh | true=>exact .inr hh)
  refine ⟨n,h1,?_⟩
  rw [h2,← hq,hh]
  cases obj <;> rfl
end Go.Json
namespace Go.Proofs.YtmnihmfifpaaoaaGreatDoor
open Go.Sw Go.Sha Go.Esc Go.RowKit Go.Json
theorem jmembersF_ (lv:Nat) (d:Int) (hd:0≤d∧d≤24) (r:Nat) (q:RdS) (hl:q.1.length≤1000000) (hval:∀ (q:RdS),q.1.length≤1000000→∀ (W0:World) (H:List Grp),F2 W0→Tri Tryz.prog 15 #[pt r,.int .i64 (d+1)] W0 (rdG r q::H) (fun v H2=>∃ c g,JRep 9 30 (B2 lv q).1 c g∧v=.agg c.toArray∧H2=rdG r (B2 lv q).2::g::H)) (W0:World) (H:List Grp) (hW:F2 W0):Tri Tryz.prog 27 #[pt r,.agg #[.int .i64 5,.string eB,.slice none 0 0,.slice none 0 0],.string (mB #[93]),.int .i64 d] W0 ([(r,.cells #[.string (bk q.1),.int .i64 q.2] 55 (0,0))]::H) (fun v H2=>∃ c g,JRep 9 30 (mbR (B2 lv) false q).1 c g∧v=.agg c.toArray∧H2=rdG r (mbR (B2 lv) false q).2::g::H):=by
 refine D4 61 Tryz.func27 ?_
 refine A1 (A2 (G4 (.agg #[.int .i64 5,.string eB,.slice none 0 0,.slice none 0 0]) (fun b1=>I1 (.agg #[.int .i64 0,.string eB,.slice none 0 0,.slice none 0 0]) (fun b2=>?_))))
 refine A7 [] [0,2,3,5,8] (k:=A0 (A1 (A2 (A3 (j:=1) [0] (k:=J6 0 [2] (C3 Tryz.func16 (I6 r q  _ _) ?_))))))
 rintro _ _ rfl
 refine A7 [] [0,2,3,5,8] (k:=A0 (A1 (A1 (A2 (A3 (j:=2) [0,0] (k:=C3 Tryz.func26 (jtake_ r (A4 q) (mB #[93]) _ _) ?_))))))
 rintro _ _ (⟨hk3,rfl,rfl⟩ | ⟨hk3,rfl,rfl⟩)
 ·
  have hk3:(A4 q).1.take 1=[93]:=hk3
  have hB:mbR (B2 lv) false q=_:=mbR_end (obj:=false) hk3
  refine A7 [] [0,2,3,5,8,13] (k:=A0 (D3 kr (A1 (A2 (F1 2 0 4 rfl (D5 1 0 (.agg #[.int .i64 5,.string eB,.slice none 0 0,.slice none 0 0]) rfl (A6 (E':=[⟨8,[],pt b2⟩]) [] [8] (k:=A0 ?_))))))))
  refine B0 (A5 (N_pkT 1 [0,0] ([(r,.cells #[.string (bk ((A4 q).1.drop 1,(A4 q).2).1),.int .i64 (((A4 q).1.drop 1,(A4 q).2).2)] 55 (0,0))]::[(b2,.cells #[.int .i64 5,.string eB,.slice none 0 0,.slice none 0 0] 30 (0,0))]::H) (E6 (H':=([(r,.cells #[.string (bk ((A4 q).1.drop 1,(A4 q).2).1),.int .i64 (((A4 q).1.drop 1,(A4 q).2).2)] 55 (0,0))]::[(b2,.cells #[.int .i64 5,.string eB,.slice none 0 0,.slice none 0 0] 30 (0,0))]::[]::H)) (fun w h=>Sat.flat h (List.Perm.refl _)) (F8 [.cell 8 30] [.agg #[.int .i64 5,.string eB,.slice none 0 0,.slice none 0 0]] rfl (.cons (.aq 1 0 rfl) (.nil)) rfl ⟨_,?_,fun w h=>(h.pk 1 [0,1])⟩))))
  rw [hB]; exact ⟨_,_,.mk (ns:=[]) (l:=[]) Go.Sw.Own.nil Go.Sw.Own.nil .nil,rfl,rfl⟩
 ·
  have hk3:¬ (A4 q).1.take 1=[93]:=hk3
  have hB0:¬ (blk q.1).take 1=[endB false]:=hk3
  refine A7 [] [0,2,3,5,8,13] (k:=A0 (C2 kr (A8 (A0 (A1 (C8 (G_pkT 0 [0,1,0] ([(r,.cells #[.string (bk (A4 q).1),.int .i64 ((A4 q).2)] 55 (0,0))]::[(b1,.cells #[.int .i64 5,.string eB,.slice none 0 0,.slice none 0 0] 30 (0,0))]::[(b2,.cells #[.int .i64 0,.string eB,.slice none 0 0,.slice none 0 0] 30 (0,0))]::H) (G_heap (H':=([(r,.cells #[.string (bk (A4 q).1),.int .i64 ((A4 q).2)] 55 (0,0))]::[(b1,.cells #[.int .i64 5,.string eB,.slice none 0 0,.slice none 0 0] 30 (0,0))]::[(b2,.cells #[.int .i64 0,.string eB,.slice none 0 0,.slice none 0 0] 30 (0,0))]::[]::[]::H)) (fun w h=>Sat.flat h (List.Perm.refl _)) ?_))))))))
  refine G_loop (EI:=(fun ξ:Nat × RdS × List JV × Nat × Option Addr × Nat × Grp × List Value × Grp=>[⟨0,[],pt r⟩,⟨2,[],.string (mB #[93])⟩,⟨3,[],.int .i64 d⟩,⟨5,[],pt b1⟩,⟨8,[],pt b2⟩])) (HI:=(fun ξ:Nat × RdS × List JV × Nat × Option Addr × Nat × Grp × List Value × Grp=>([(r,.cells #[.string (bk ξ.2.1.1),.int .i64 ξ.2.1.2] 55 (0,0))]::[(b1,.cells #[.int .i64 5,.string eB,.slice none 0 0,.slice ξ.2.2.2.2.1 ξ.2.2.2.1 ξ.2.2.2.2.2.1] 30 (0,0))]::[(b2,.cells #[.int .i64 0,.string eB,.slice none 0 0,.slice none 0 0] 30 (0,0))]::ξ.2.2.2.2.2.2.1::ξ.2.2.2.2.2.2.2.2::H))) (Φ:=(fun ξ:Nat × RdS × List JV × Nat × Option Addr × Nat × Grp × List Value × Grp=>(ξ.2.1.2=0→ξ.2.1.1.length<ξ.1)∧(memR (B2 lv) false ((blk q.1).length+1) [] [] (A4 q)=memR (B2 lv) false ξ.1 [] ξ.2.2.1 ξ.2.1)∧(Go.Sw.Own 30 4 (.slice ξ.2.2.2.2.1 ξ.2.2.2.1 ξ.2.2.2.2.2.1) ξ.2.2.2.2.2.2.1 ξ.2.2.2.1 ξ.2.2.2.2.2.2.2.1)∧(ξ.2.2.2.1=ξ.2.2.1.length)∧(JRepL 9 30 ξ.2.2.1 ξ.2.2.2.2.2.2.2.1 ξ.2.2.2.2.2.2.2.2)∧(ξ.2.2.2.1+ξ.1≤1000001))) (μ:=(fun ξ:Nat × RdS × List JV × Nat × Option Addr × Nat × Grp × List Value × Grp=>ξ.1)) (s0:=(((blk q.1).length+1),(A4 q),[],0,none,0,[],[],[])) [0,2,3,5,8] kr rfl ⟨(by intro _; show (blk q.1).length<_; omega),rfl,Go.Sw.Own.nil,rfl,.nil,(by show 0+_≤_; have:=F0 q.1; omega)⟩ ?_
  rintro ⟨n,q2,vs,nl,la,lc,gl,cs,gs⟩ ⟨hn,hT,hL,hnl,hP,hb⟩
  dsimp only at hn hT hL hnl hP hb
  refine A1 (A1 (A2 (A3 (j:=3) [0,0,0] (k:=B8 0 1 rfl rfl (A7 [0] [0,2,3,5,8,19] (k:=A0 (C5 (b:=q2.2==0) kr (fun hc4=>?_) (fun hc4=>?_))))))))
  ·
   have hq0:q2.2=0:=by simpa using hc4
   have hnq:=hn hq0
   obtain ⟨m,rfl⟩:∃ m,n=m+1:=⟨n - 1,by omega⟩
   have hbl:=blkR_le q2
   refine A8 (A0 (C8 (A1 (A2 (A3 (j:=1) [0] (k:=C3 Tryz.func16 (I6 r q2  _ _) ?_))))))
   rintro _ _ rfl
   refine A7 [] [0,2,3,5,8] (k:=A0 (A1 (A1 (A2 (A3 (j:=1) [0] (k:=B8 1 0 rfl rfl (A7 [0] [0,2,3,5,8,24] (k:=A0 ?_))))))))
   refine C2 kr (A8 (A0 (A1 (G_join (T:=Option Addr × Nat × Grp × List Value × Grp) (fun ξ:Option Addr × Nat × Grp × List Value × Grp=>[⟨0,[],pt r⟩,⟨2,[],.string (mB #[93])⟩,⟨3,[],.int .i64 d⟩,⟨5,[],pt b1⟩,⟨8,[],pt b2⟩]) (fun ξ:Option Addr × Nat × Grp × List Value × Grp=>([(r,.cells #[.string (bk ((B2 lv (A4 q2)).2).1),.int .i64 (((B2 lv (A4 q2)).2).2)] 55 (0,0))]::[(b1,.cells #[.int .i64 5,.string eB,.slice none 0 0,.slice ξ.1 (nl+1) ξ.2.1] 30 (0,0))]::[(b2,.cells #[.int .i64 0,.string eB,.slice none 0 0,.slice none 0 0] 30 (0,0))]::ξ.2.2.1::gs::ξ.2.2.2.2::H)) (fun ξ:Option Addr × Nat × Grp × List Value × Grp=>(Go.Sw.Own 30 4 (.slice ξ.1 (nl+1) ξ.2.1) ξ.2.2.1 (nl+1) (cs++ξ.2.2.2.1))∧(JRep 9 30 (B2 lv (A4 q2)).1 ξ.2.2.2.1 ξ.2.2.2.2)) ?_ ?_))))
   ·
    refine H9 ([(b2,.cells #[.int .i64 0,.string eB,.slice none 0 0,.slice none 0 0] 30 (0,0))]::gs::H) kr (GH_p (fuel:=6) [(0,0),(2,0),(3,0),(4,0)] (fun w h=>(h.pk 3 [2,3])) (k:=GH_wi 48 (d+1) (by omega) (by omega) kr (GH_eff2 1 5 (k:=?_) (k':=?_))))
    ·
     refine B8 1 3 rfl rfl (B9 kr (fun w h=>(h.pk 3 [2,3])) (C9 5 (k:=C3 Tryz.func15 (hval (A4 q2) (by omega) _ _ hW) ?_)))
     rintro _ _ ⟨vc6,gv6,hJ6,rfl,rfl⟩
     obtain ⟨vk6,vt6,van6,vn6,vcn6,val6,vm6,vcl6,rfl⟩:=hJ6.shape
     refine B9 kr (fun w h=>(h.pk 4 [3,4])) (G5 (gv6::[(b2,.cells #[.int .i64 0,.string eB,.slice none 0 0,.slice none 0 0] 30 (0,0))]::gs::H) (fun w h=>(h.pk 1 [1,1])) (C9 6 (k:=I0 30 1 [.int .i64 vk6,.string vt6,.slice van6 vn6 vcn6,.slice val6 vm6 vcl6] (fun b7=>B9 kr (fun w h=>(h.pk 4 [2,3,4])) (G5 ([(b7,.cells #[.int .i64 vk6,.string vt6,.slice van6 vn6 vcn6,.slice val6 vm6 vcl6] 30 (0,0))]::gv6::[(b2,.cells #[.int .i64 0,.string eB,.slice none 0 0,.slice none 0 0] 30 (0,0))]::gs::H) (fun w h=>(h.pk 1 [1,1,1])) (C9 7 (k:=GL_ap (inf:=Tryz.t30) 1 0 5 rfl rfl hL (by omega) (by show (nl+1) * 72≤140737488355328; omega) (fun v8 g9 hO10=>?_))))))))
     obtain ⟨a11,cap12,rfl,hcap13,hrd14⟩:=hO10.shape
     refine B9 kr (fun w h=>(h.pkT 3 [0,1,2,3])) (GH_p (fuel:=1) [(8,0)] (fun w h=>(h.pkT 3 [0,1,2,3])) (k:=C9 9 (k:=D5 3 3 (.slice a11 (nl+1) cap12) rfl (B9 kr (fun w h=>(h.pkT 3 [0,1,2,3])) (G6 (E':=[⟨0,[],pt r⟩,⟨2,[],.string (mB #[93])⟩,⟨3,[],.int .i64 d⟩,⟨5,[],pt b1⟩,⟨8,[],pt b2⟩]) [0,2,3,5,8] (k:=H8 (a11,cap12,g9,[.int .i64 vk6,.string vt6,.slice van6 vn6 vcn6,.slice val6 vm6 vcl6],gv6) [0,2,3,5,8] kr (fun w h=>h.pkT 1 [1,2,2,2,2,1]) ⟨hO10,hJ6⟩))))))
    ·
     refine C3 Tryz.func15 (hval (A4 q2) (by omega) _ _ hW) ?_
     rintro _ _ ⟨vc15,gv15,hJ15,rfl,rfl⟩
     obtain ⟨vk15,vt15,van15,vn15,vcn15,val15,vm15,vcl15,rfl⟩:=hJ15.shape
     refine B9 kr (fun w h=>(h.pk 4 [3,4])) (G5 (gv15::[(b2,.cells #[.int .i64 0,.string eB,.slice none 0 0,.slice none 0 0] 30 (0,0))]::gs::H) (fun w h=>(h.pk 1 [1,1])) (GH_eff2 1 6 (k:=?_) (k':=?_)))
     ·
      refine B8 2 3 rfl rfl (B9 kr (fun w h=>(h.pk 3 [1,2,3])) (C9 6 (k:=I0 30 1 [.int .i64 vk15,.string vt15,.slice van15 vn15 vcn15,.slice val15 vm15 vcl15] (fun b16=>B9 kr (fun w h=>(h.pk 4 [2,3,4])) (G5 ([(b16,.cells #[.int .i64 vk15,.string vt15,.slice van15 vn15 vcn15,.slice val15 vm15 vcl15] 30 (0,0))]::gv15::[(b2,.cells #[.int .i64 0,.string eB,.slice none 0 0,.slice none 0 0] 30 (0,0))]::gs::H) (fun w h=>(h.pk 1 [1,1,1])) (C9 7 (k:=GL_ap (inf:=Tryz.t30) 1 0 5 rfl rfl hL (by omega) (by show (nl+1) * 72≤140737488355328; omega) (fun v17 g18 hO19=>?_))))))))
      obtain ⟨a20,cap21,rfl,hcap22,hrd23⟩:=hO19.shape
      refine B9 kr (fun w h=>(h.pkT 3 [0,1,2,3])) (GH_p (fuel:=1) [(8,0)] (fun w h=>(h.pkT 3 [0,1,2,3])) (k:=C9 9 (k:=D5 3 3 (.slice a20 (nl+1) cap21) rfl (B9 kr (fun w h=>(h.pkT 3 [0,1,2,3])) (G6 (E':=[⟨0,[],pt r⟩,⟨2,[],.string (mB #[93])⟩,⟨3,[],.int .i64 d⟩,⟨5,[],pt b1⟩,⟨8,[],pt b2⟩]) [0,2,3,5,8] (k:=H8 (a20,cap21,g18,[.int .i64 vk15,.string vt15,.slice van15 vn15 vcn15,.slice val15 vm15 vcl15],gv15) [0,2,3,5,8] kr (fun w h=>h.pkT 1 [1,2,2,2,2,1]) ⟨hO19,hJ15⟩))))))
     ·
      refine I0 30 1 [.int .i64 vk15,.string vt15,.slice van15 vn15 vcn15,.slice val15 vm15 vcl15] (fun b24=>B9 kr (fun w h=>(h.pk 4 [2,3,4])) (G5 ([(b24,.cells #[.int .i64 vk15,.string vt15,.slice van15 vn15 vcn15,.slice val15 vm15 vcl15] 30 (0,0))]::gv15::[(b2,.cells #[.int .i64 0,.string eB,.slice none 0 0,.slice none 0 0] 30 (0,0))]::gs::H) (fun w h=>(h.pk 1 [1,1,1])) (C9 1 (k:=B8 3 3 rfl rfl (B9 kr (fun w h=>(h.pk 3 [0,1,2,3])) (C9 7 (k:=GL_ap (inf:=Tryz.t30) 1 0 5 rfl rfl hL (by omega) (by show (nl+1) * 72≤140737488355328; omega) (fun v25 g26 hO27=>?_))))))))
      obtain ⟨a28,cap29,rfl,hcap30,hrd31⟩:=hO27.shape
      refine B9 kr (fun w h=>(h.pkT 3 [0,1,2,3])) (GH_p (fuel:=1) [(8,0)] (fun w h=>(h.pkT 3 [0,1,2,3])) (k:=C9 9 (k:=D5 3 3 (.slice a28 (nl+1) cap29) rfl (B9 kr (fun w h=>(h.pkT 3 [0,1,2,3])) (G6 (E':=[⟨0,[],pt r⟩,⟨2,[],.string (mB #[93])⟩,⟨3,[],.int .i64 d⟩,⟨5,[],pt b1⟩,⟨8,[],pt b2⟩]) [0,2,3,5,8] (k:=H8 (a28,cap29,g26,[.int .i64 vk15,.string vt15,.slice van15 vn15 vcn15,.slice val15 vm15 vcl15],gv15) [0,2,3,5,8] kr (fun w h=>h.pkT 1 [1,2,2,2,2,1]) ⟨hO27,hJ15⟩))))))
   ·
    rintro ⟨ya,yc,yg,c,gv⟩ ⟨hyo,hJ⟩
    dsimp only at hyo hJ
    refine A0 (A1 (A2 (A3 (j:=1) [0] (k:=C3 Tryz.func16 (I6 r ((B2 lv (A4 q2)).2)  _ _) ?_))))
    rintro _ _ rfl
    refine A7 [] [0,2,3,5,8] (k:=A0 (A1 (A1 (A2 (A3 (j:=2) [0,0] (k:=C3 Tryz.func26 (jtake_ r (A4 ((B2 lv (A4 q2)).2)) (mB #[93]) _ _) ?_))))))
    rintro _ _ (⟨hk32,rfl,rfl⟩ | ⟨hk32,rfl,rfl⟩)
    ·
     have hk32:(A4 ((B2 lv (A4 q2)).2)).1.take 1=[93]:=hk32
     have hM:memR (B2 lv) false ((blk q.1).length+1) [] [] (A4 q)=(([],vs++[(B2 lv (A4 q2)).1]),((blk (B2 lv (A4 q2)).2.1).drop 1,(B2 lv (A4 q2)).2.2)):=hT.trans (memR_last hq0 (fun h=>by cases h) (show (blk (B2 lv (A4 q2)).2.1).take 1=[endB false] from hk32))
     refine A7 [] [0,2,3,5,8,57] (k:=A0 (D3 kr (I3 (B3 (L2 rfl (B3 (C6 (A0 ?_))))))))
     refine A1 (A2 (F1 1 0 4 rfl (D5 2 0 (.agg #[.int .i64 5,.string eB,.slice none 0 0,.slice ya (nl+1) yc]) rfl (A6 (E':=[⟨8,[],pt b2⟩]) [] [8] (k:=A0 (B0 (N_pkT 1 [0,1,1,1,1] ([(r,.cells #[.string (bk ((A4 ((B2 lv (A4 q2)).2)).1.drop 1,(A4 ((B2 lv (A4 q2)).2)).2).1),.int .i64 (((A4 ((B2 lv (A4 q2)).2)).1.drop 1,(A4 ((B2 lv (A4 q2)).2)).2).2)] 55 (0,0))]::[(b2,.cells #[.int .i64 5,.string eB,.slice none 0 0,.slice ya (nl+1) yc] 30 (0,0))]::yg::gs::gv::H) (E6 (H':=([(r,.cells #[.string (bk ((A4 ((B2 lv (A4 q2)).2)).1.drop 1,(A4 ((B2 lv (A4 q2)).2)).2).1),.int .i64 (((A4 ((B2 lv (A4 q2)).2)).1.drop 1,(A4 ((B2 lv (A4 q2)).2)).2).2)] 55 (0,0))]::[(b2,.cells #[.int .i64 5,.string eB,.slice none 0 0,.slice ya (nl+1) yc] 30 (0,0))]::([]++(yg++(gs++gv)))::H)) (fun w h=>Sat.flat h (List.Perm.of_eq (by simp []))) ?_))))))))
     refine F8 [.cell 8 30] [.agg #[.int .i64 5,.string eB,.slice none 0 0,.slice ya (nl+1) yc]] rfl (.cons (.aq 1 0 rfl) (.nil)) rfl ⟨_,?_,fun w h=>(h.pk 1 [0,1])⟩
     subst hnl; rw [mbR_mem hB0 hM]; exact ⟨_,_,.mk (ns:=[]) Go.Sw.Own.nil (by rw [List.length_append]; exact hyo) (hP.snoc hJ),(by simp only [List.length_append]; rfl),rfl⟩
    ·
     have hk32:¬ (A4 ((B2 lv (A4 q2)).2)).1.take 1=[93]:=hk32
     have hE:¬ (blk (B2 lv (A4 q2)).2.1).take 1=[endB false]:=hk32
     refine A7 [] [0,2,3,5,8,57] (k:=A0 (C2 kr (A8 (A0 (A2 (A3 (j:=1) [0] (k:=C3 Tryz.func41 (jmust_ r (A4 ((B2 lv (A4 q2)).2)) 44 _ _) ?_)))))))
     rintro _ _ rfl
     refine A7 [] [0,2,3,5,8] (k:=D8 (E6 (H':=([(r,.cells #[.string (bk (C0 44 (A4 ((B2 lv (A4 q2)).2))).1),.int .i64 ((C0 44 (A4 ((B2 lv (A4 q2)).2))).2)] 55 (0,0))]::[(b1,.cells #[.int .i64 5,.string eB,.slice none 0 0,.slice ya (nl+1) yc] 30 (0,0))]::[(b2,.cells #[.int .i64 0,.string eB,.slice none 0 0,.slice none 0 0] 30 (0,0))]::yg::(gs++gv)::H)) (fun w h=>Sat.flat h (List.Perm.of_eq (by simp [rdG]))) (J1 (s':=(m,(C0 44 (A4 (B2 lv (A4 q2)).2)),(vs++[(B2 lv (A4 q2)).1]),(nl+1),ya,yc,yg,(cs++c),(gs++gv))) [0,2,3,5,8] kr rfl ⟨(by dsimp only; intro h0; have:=round_len (lv:=lv) (obj:=false) (ns:=[]) (q:=q2) h0; have h9:=hn hq0; exact Nat.lt_of_lt_of_le this (Nat.le_of_lt_succ h9)),(by dsimp only; rw [hT]; exact memR_next hq0 (fun h=>by cases h) (show ¬ (blk (B2 lv (A4 q2)).2.1).take 1=[endB false] from hE)),hyo,(by dsimp only; rw [List.length_append,hnl]; rfl),(by dsimp only; exact hP.snoc hJ),(by dsimp only; omega)⟩ (by dsimp only; omega))))
  ·
   have hq0:¬ q2.2=0:=by simpa using hc4
   have hM:=hT.trans (memR_end hq0)
   refine I3 (B3 (B3 (C6 (A0 (A1 (A2 (F1 1 0 4 rfl (D5 2 0 (.agg #[.int .i64 5,.string eB,.slice none 0 0,.slice la nl lc]) rfl ?_))))))))
   refine A6 (E':=[⟨8,[],pt b2⟩]) [] [8] (k:=A0 (B0 (N_pkT 1 [0,1,1,1] ([(r,.cells #[.string (bk q2.1),.int .i64 q2.2] 55 (0,0))]::[(b2,.cells #[.int .i64 5,.string eB,.slice none 0 0,.slice la nl lc] 30 (0,0))]::gl::gs::H) (E6 (H':=([(r,.cells #[.string (bk q2.1),.int .i64 q2.2] 55 (0,0))]::[(b2,.cells #[.int .i64 5,.string eB,.slice none 0 0,.slice la nl lc] 30 (0,0))]::([]++(gl++gs))::H)) (fun w h=>Sat.flat h (List.Perm.of_eq (by simp []))) (F8 [.cell 8 30] [.agg #[.int .i64 5,.string eB,.slice none 0 0,.slice la nl lc]] rfl (.cons (.aq 1 0 rfl) (.nil)) rfl ⟨_,?_,fun w h=>(h.pk 1 [0,1])⟩)))))
   subst hnl; rw [mbR_mem hB0 hM]; exact ⟨_,_,.mk (ns:=[]) Go.Sw.Own.nil hL hP,rfl,rfl⟩
theorem jmembersT_ (lv:Nat) (d:Int) (hd:0≤d∧d≤24) (r:Nat) (q:RdS) (hl:q.1.length≤1000000) (hval:∀ (q:RdS),q.1.length≤1000000→∀ (W0:World) (H:List Grp),F2 W0→Tri Tryz.prog 15 #[pt r,.int .i64 (d+1)] W0 (rdG r q::H) (fun v H2=>∃ c g,JRep 9 30 (B2 lv q).1 c g∧v=.agg c.toArray∧H2=rdG r (B2 lv q).2::g::H)) (W0:World) (H:List Grp) (hW:F2 W0):Tri Tryz.prog 27 #[pt r,.agg #[.int .i64 6,.string eB,.slice none 0 0,.slice none 0 0],.string (mB #[125]),.int .i64 d] W0 ([(r,.cells #[.string (bk q.1),.int .i64 q.2] 55 (0,0))]::H) (fun v H2=>∃ c g,JRep 9 30 (mbR (B2 lv) true q).1 c g∧v=.agg c.toArray∧H2=rdG r (mbR (B2 lv) true q).2::g::H):=by
 refine D4 61 Tryz.func27 ?_
 refine A1 (A2 (G4 (.agg #[.int .i64 6,.string eB,.slice none 0 0,.slice none 0 0]) (fun b1=>I1 (.agg #[.int .i64 0,.string eB,.slice none 0 0,.slice none 0 0]) (fun b2=>?_))))
 refine A7 [] [0,2,3,5,8] (k:=A0 (A1 (A2 (A3 (j:=1) [0] (k:=J6 0 [2] (C3 Tryz.func16 (I6 r q  _ _) ?_))))))
 rintro _ _ rfl
 refine A7 [] [0,2,3,5,8] (k:=A0 (A1 (A1 (A2 (A3 (j:=2) [0,0] (k:=C3 Tryz.func26 (jtake_ r (A4 q) (mB #[125]) _ _) ?_))))))
 rintro _ _ (⟨hk3,rfl,rfl⟩ | ⟨hk3,rfl,rfl⟩)
 ·
  have hk3:(A4 q).1.take 1=[125]:=hk3
  have hB:mbR (B2 lv) true q=_:=mbR_end (obj:=true) hk3
  refine A7 [] [0,2,3,5,8,13] (k:=A0 (D3 kr (A1 (A2 (F1 2 0 4 rfl (D5 1 0 (.agg #[.int .i64 6,.string eB,.slice none 0 0,.slice none 0 0]) rfl (A6 (E':=[⟨8,[],pt b2⟩]) [] [8] (k:=A0 ?_))))))))
  refine B0 (A5 (N_pkT 1 [0,0] ([(r,.cells #[.string (bk ((A4 q).1.drop 1,(A4 q).2).1),.int .i64 (((A4 q).1.drop 1,(A4 q).2).2)] 55 (0,0))]::[(b2,.cells #[.int .i64 6,.string eB,.slice none 0 0,.slice none 0 0] 30 (0,0))]::H) (E6 (H':=([(r,.cells #[.string (bk ((A4 q).1.drop 1,(A4 q).2).1),.int .i64 (((A4 q).1.drop 1,(A4 q).2).2)] 55 (0,0))]::[(b2,.cells #[.int .i64 6,.string eB,.slice none 0 0,.slice none 0 0] 30 (0,0))]::[]::H)) (fun w h=>Sat.flat h (List.Perm.refl _)) (F8 [.cell 8 30] [.agg #[.int .i64 6,.string eB,.slice none 0 0,.slice none 0 0]] rfl (.cons (.aq 1 0 rfl) (.nil)) rfl ⟨_,?_,fun w h=>(h.pk 1 [0,1])⟩))))
  rw [hB]; exact ⟨_,_,.mk (ns:=[]) (l:=[]) Go.Sw.Own.nil Go.Sw.Own.nil .nil,rfl,rfl⟩
 ·
  have hk3:¬ (A4 q).1.take 1=[125]:=hk3
  have hB0:¬ (blk q.1).take 1=[endB true]:=hk3
  refine A7 [] [0,2,3,5,8,13] (k:=A0 (C2 kr (A8 (A0 (A1 (C8 (G_pkT 0 [0,1,0] ([(r,.cells #[.string (bk (A4 q).1),.int .i64 ((A4 q).2)] 55 (0,0))]::[(b1,.cells #[.int .i64 6,.string eB,.slice none 0 0,.slice none 0 0] 30 (0,0))]::[(b2,.cells #[.int .i64 0,.string eB,.slice none 0 0,.slice none 0 0] 30 (0,0))]::H) (G_heap (H':=([(r,.cells #[.string (bk (A4 q).1),.int .i64 ((A4 q).2)] 55 (0,0))]::[(b1,.cells #[.int .i64 6,.string eB,.slice none 0 0,.slice none 0 0] 30 (0,0))]::[(b2,.cells #[.int .i64 0,.string eB,.slice none 0 0,.slice none 0 0] 30 (0,0))]::[]::[]::[]::H)) (fun w h=>Sat.flat h (List.Perm.refl _)) ?_))))))))
  refine G_loop (EI:=(fun ξ:Nat × RdS × List JV × Nat × Option Addr × Nat × Grp × List Value × Grp × List (List UInt8) × Nat × Option Addr × Nat × Grp=>[⟨0,[],pt r⟩,⟨2,[],.string (mB #[125])⟩,⟨3,[],.int .i64 d⟩,⟨5,[],pt b1⟩,⟨8,[],pt b2⟩])) (HI:=(fun ξ:Nat × RdS × List JV × Nat × Option Addr × Nat × Grp × List Value × Grp × List (List UInt8) × Nat × Option Addr × Nat × Grp=>([(r,.cells #[.string (bk ξ.2.1.1),.int .i64 ξ.2.1.2] 55 (0,0))]::[(b1,.cells #[.int .i64 6,.string eB,.slice ξ.2.2.2.2.2.2.2.2.2.2.2.1 ξ.2.2.2.2.2.2.2.2.2.2.1 ξ.2.2.2.2.2.2.2.2.2.2.2.2.1,.slice ξ.2.2.2.2.1 ξ.2.2.2.1 ξ.2.2.2.2.2.1] 30 (0,0))]::[(b2,.cells #[.int .i64 0,.string eB,.slice none 0 0,.slice none 0 0] 30 (0,0))]::ξ.2.2.2.2.2.2.2.2.2.2.2.2.2::ξ.2.2.2.2.2.2.1::ξ.2.2.2.2.2.2.2.2.1::H))) (Φ:=(fun ξ:Nat × RdS × List JV × Nat × Option Addr × Nat × Grp × List Value × Grp × List (List UInt8) × Nat × Option Addr × Nat × Grp=>(ξ.2.1.2=0→ξ.2.1.1.length<ξ.1)∧(memR (B2 lv) true ((blk q.1).length+1) [] [] (A4 q)=memR (B2 lv) true ξ.1 ξ.2.2.2.2.2.2.2.2.2.1 ξ.2.2.1 ξ.2.1)∧(Go.Sw.Own 30 4 (.slice ξ.2.2.2.2.1 ξ.2.2.2.1 ξ.2.2.2.2.2.1) ξ.2.2.2.2.2.2.1 ξ.2.2.2.1 ξ.2.2.2.2.2.2.2.1)∧(ξ.2.2.2.1=ξ.2.2.1.length)∧(JRepL 9 30 ξ.2.2.1 ξ.2.2.2.2.2.2.2.1 ξ.2.2.2.2.2.2.2.2.1)∧(ξ.2.2.2.1+ξ.1≤1000001)∧(Go.Sw.Own 9 1 (.slice ξ.2.2.2.2.2.2.2.2.2.2.2.1 ξ.2.2.2.2.2.2.2.2.2.2.1 ξ.2.2.2.2.2.2.2.2.2.2.2.2.1) ξ.2.2.2.2.2.2.2.2.2.2.2.2.2 ξ.2.2.2.2.2.2.2.2.2.2.1 (strV ξ.2.2.2.2.2.2.2.2.2.1))∧(ξ.2.2.2.2.2.2.2.2.2.2.1=ξ.2.2.2.2.2.2.2.2.2.1.length)∧(ξ.2.2.2.2.2.2.2.2.2.2.1+ξ.1≤1000001))) (μ:=(fun ξ:Nat × RdS × List JV × Nat × Option Addr × Nat × Grp × List Value × Grp × List (List UInt8) × Nat × Option Addr × Nat × Grp=>ξ.1)) (s0:=(((blk q.1).length+1),(A4 q),[],0,none,0,[],[],[],[],0,none,0,[])) [0,2,3,5,8] kr rfl ⟨(by intro _; show (blk q.1).length<_; omega),rfl,Go.Sw.Own.nil,rfl,.nil,(by show 0+_≤_; have:=F0 q.1; omega),Go.Sw.Own.nil,rfl,(by show 0+_≤_; have:=F0 q.1; omega)⟩ ?_
  rintro ⟨n,q2,vs,nl,la,lc,gl,cs,gs,ns,nn,na,nc,gn⟩ ⟨hn,hT,hL,hnl,hP,hb,hN,hnn,hb2⟩
  dsimp only at hn hT hL hnl hP hb hN hnn hb2
  refine A1 (A1 (A2 (A3 (j:=3) [0,0,0] (k:=B8 0 1 rfl rfl (A7 [0] [0,2,3,5,8,19] (k:=A0 (C5 (b:=q2.2==0) kr (fun hc4=>?_) (fun hc4=>?_))))))))
  ·
   have hq0:q2.2=0:=by simpa using hc4
   have hnq:=hn hq0
   obtain ⟨m,rfl⟩:∃ m,n=m+1:=⟨n - 1,by omega⟩
   have hbl:=blkR_le q2
   refine A8 (A0 (C8 (A1 (A2 (A3 (j:=1) [0] (k:=C3 Tryz.func16 (I6 r q2  _ _) ?_))))))
   rintro _ _ rfl
   refine A7 [] [0,2,3,5,8] (k:=A0 (A1 (A1 (A2 (A3 (j:=1) [0] (k:=B8 1 0 rfl rfl (A7 [0] [0,2,3,5,8,24] (k:=A0 ?_))))))))
   refine D3 kr (A1 (A1 (A2 (A3 (j:=3) [0,0,0] (k:=B8 0 0 rfl rfl (K5 Tryz.func25 (jhas_ (bk (A4 q2).1) (mB #[34]) _ _) (A7 [0] [0,2,3,5,8,30] (k:=A0 ?_))))))))
   refine C5 (b:=!(E0 (bk (A4 q2).1) (mB #[34]))) kr (fun hc5=>?_) (fun hc5=>?_)
   ·
    have hs:E0 (bk (A4 q2).1) (mB #[34])=false:=by simpa using hc5
    have ht:¬ (blk q2.1).take 1=[34]:=(F5 _ _).1 hs
    have h34:¬ (blk q2.1).getD 0 0=34:=fun hn=>ht ((take1 (by decide)).2 hn)
    have hM:=hT.trans (memR_bad hq0 h34)
    refine A1 (A2 (A3 (j:=1) [0] (k:=C3 Tryz.func17 (jfault_ r (A4 q2) 70 _ _) ?_)))
    rintro _ _ rfl
    refine A6 (E':=[⟨5,[],pt b1⟩,⟨8,[],pt b2⟩]) [] [5,8] (k:=A0 (I3 (B3 (B3 (L2 rfl (B3 (C6 (A0 ?_))))))))
    refine A1 (A2 (F1 1 0 4 rfl (D5 2 0 (.agg #[.int .i64 6,.string eB,.slice na nn nc,.slice la nl lc]) rfl (A6 (E':=[⟨8,[],pt b2⟩]) [] [8] (k:=A0 (B0 (N_pkT 1 [0,1,1,1,1] ([(r,.cells #[.string (bk (A4 q2).1),.int .i64 ((fltR 70 (A4 q2)).2)] 55 (0,0))]::[(b2,.cells #[.int .i64 6,.string eB,.slice na nn nc,.slice la nl lc] 30 (0,0))]::gn::gl::gs::H) (E6 (H':=([(r,.cells #[.string (bk (A4 q2).1),.int .i64 ((fltR 70 (A4 q2)).2)] 55 (0,0))]::[(b2,.cells #[.int .i64 6,.string eB,.slice na nn nc,.slice la nl lc] 30 (0,0))]::(gn++(gl++gs))::H)) (fun w h=>Sat.flat h (List.Perm.of_eq (by simp []))) ?_))))))))
    refine F8 [.cell 8 30] [.agg #[.int .i64 6,.string eB,.slice na nn nc,.slice la nl lc]] rfl (.cons (.aq 1 0 rfl) (.nil)) rfl ⟨_,?_,fun w h=>(h.pk 1 [0,1])⟩
    subst hnl; subst hnn; rw [mbR_mem hB0 hM]; exact ⟨_,_,.mk hN hL hP,rfl,rfl⟩
   ·
    have hs:E0 (bk (A4 q2).1) (mB #[34])=true:=by simpa using hc5
    have ht:(blk q2.1).take 1=[34]:=(F7 _ _).1 hs
    have h34:(blk q2.1).getD 0 0=34:=(take1 (by decide)).1 ht
    refine A8 (A0 (A1 (G_join (T:=Option Addr × Nat × Grp) (fun ξ:Option Addr × Nat × Grp=>[⟨0,[],pt r⟩,⟨2,[],.string (mB #[125])⟩,⟨3,[],.int .i64 d⟩,⟨5,[],pt b1⟩,⟨8,[],pt b2⟩]) (fun ξ:Option Addr × Nat × Grp=>([(r,.cells #[.string (bk ((B7 (A4 q2)).2).1),.int .i64 (((B7 (A4 q2)).2).2)] 55 (0,0))]::[(b1,.cells #[.int .i64 6,.string eB,.slice ξ.1 (nn+1) ξ.2.1,.slice la nl lc] 30 (0,0))]::[(b2,.cells #[.int .i64 0,.string eB,.slice none 0 0,.slice none 0 0] 30 (0,0))]::ξ.2.2::gl::gs::H)) (fun ξ:Option Addr × Nat × Grp=>(Go.Sw.Own 9 1 (.slice ξ.1 (nn+1) ξ.2.1) ξ.2.2 (nn+1) (strV ns++strV [(B7 (A4 q2)).1]))) ?_ ?_)))
    ·
     refine H9 ([(b2,.cells #[.int .i64 0,.string eB,.slice none 0 0,.slice none 0 0] 30 (0,0))]::gs::H) kr (GH_p (fuel:=6) [(0,0),(2,0)] (fun w h=>(h.pk 4 [2,4])) (k:=GH_eff2 1 3 (k:=?_) (k':=?_)))
     ·
      refine B8 1 2 rfl rfl (B9 kr (fun w h=>(h.pk 4 [2,4])) (C9 3 (k:=C3 Tryz.func28 (jtext_ r (A4 q2) (by have:=blkR_le q2; omega) _ _ hW) ?_)))
      rintro _ _ ⟨rfl,rfl⟩
      refine B9 kr (fun w h=>(h.pk 4 [2,4])) (C9 4 (k:=I0 9 1 [.string (bk (B7 (A4 q2)).1)] (fun b6=>B9 kr (fun w h=>(h.pk 5 [3,5])) (G5 ([(b6,.cells #[.string (bk (B7 (A4 q2)).1)] 9 (0,0))]::[(b2,.cells #[.int .i64 0,.string eB,.slice none 0 0,.slice none 0 0] 30 (0,0))]::gs::H) (fun w h=>(h.pk 1 [1,1])) (C9 5 (k:=GL_ap (inf:=Tryz.t9) 1 0 4 rfl rfl hN (by omega) (by show (nn+1) * 16≤140737488355328; omega) (fun v7 g8 hO9=>?_)))))))
      obtain ⟨a10,cap11,rfl,hcap12,hrd13⟩:=hO9.shape
      refine B9 kr (fun w h=>(h.pkT 4 [0,2,4])) (GH_p (fuel:=1) [(6,0)] (fun w h=>(h.pkT 4 [0,2,4])) (k:=C9 7 (k:=D5 2 2 (.slice a10 (nn+1) cap11) rfl (B9 kr (fun w h=>(h.pkT 4 [0,2,4])) (G6 (E':=[⟨0,[],pt r⟩,⟨2,[],.string (mB #[125])⟩,⟨3,[],.int .i64 d⟩,⟨5,[],pt b1⟩,⟨8,[],pt b2⟩]) [0,2,3,5,8] (k:=H8 (a10,cap11,g8) [0,2,3,5,8] kr (fun w h=>h.pkT 1 [1,1,1,1,1,1]) hO9))))))
     ·
      refine C3 Tryz.func28 (jtext_ r (A4 q2) (by have:=blkR_le q2; omega) _ _ hW) ?_
      rintro _ _ ⟨rfl,rfl⟩
      refine B9 kr (fun w h=>(h.pk 4 [2,4])) (GH_eff2 1 4 (k:=?_) (k':=?_))
      ·
       refine B8 1 2 rfl rfl (B9 kr (fun w h=>(h.pk 4 [2,4])) (C9 4 (k:=I0 9 1 [.string (bk (B7 (A4 q2)).1)] (fun b14=>B9 kr (fun w h=>(h.pk 5 [3,5])) (G5 ([(b14,.cells #[.string (bk (B7 (A4 q2)).1)] 9 (0,0))]::[(b2,.cells #[.int .i64 0,.string eB,.slice none 0 0,.slice none 0 0] 30 (0,0))]::gs::H) (fun w h=>(h.pk 1 [1,1])) (C9 5 (k:=GL_ap (inf:=Tryz.t9) 1 0 4 rfl rfl hN (by omega) (by show (nn+1) * 16≤140737488355328; omega) (fun v15 g16 hO17=>?_))))))))
       obtain ⟨a18,cap19,rfl,hcap20,hrd21⟩:=hO17.shape
       refine B9 kr (fun w h=>(h.pkT 4 [0,2,4])) (GH_p (fuel:=1) [(6,0)] (fun w h=>(h.pkT 4 [0,2,4])) (k:=C9 7 (k:=D5 2 2 (.slice a18 (nn+1) cap19) rfl (B9 kr (fun w h=>(h.pkT 4 [0,2,4])) (G6 (E':=[⟨0,[],pt r⟩,⟨2,[],.string (mB #[125])⟩,⟨3,[],.int .i64 d⟩,⟨5,[],pt b1⟩,⟨8,[],pt b2⟩]) [0,2,3,5,8] (k:=H8 (a18,cap19,g16) [0,2,3,5,8] kr (fun w h=>h.pkT 1 [1,1,1,1,1,1]) hO17))))))
      ·
       refine I0 9 1 [.string (bk (B7 (A4 q2)).1)] (fun b22=>B9 kr (fun w h=>(h.pk 5 [3,5])) (G5 ([(b22,.cells #[.string (bk (B7 (A4 q2)).1)] 9 (0,0))]::[(b2,.cells #[.int .i64 0,.string eB,.slice none 0 0,.slice none 0 0] 30 (0,0))]::gs::H) (fun w h=>(h.pk 1 [1,1])) (C9 1 (k:=B8 2 2 rfl rfl (B9 kr (fun w h=>(h.pk 4 [0,2,4])) (C9 5 (k:=GL_ap (inf:=Tryz.t9) 1 0 4 rfl rfl hN (by omega) (by show (nn+1) * 16≤140737488355328; omega) (fun v23 g24 hO25=>?_))))))))
       obtain ⟨a26,cap27,rfl,hcap28,hrd29⟩:=hO25.shape
       refine B9 kr (fun w h=>(h.pkT 4 [0,2,4])) (GH_p (fuel:=1) [(6,0)] (fun w h=>(h.pkT 4 [0,2,4])) (k:=C9 7 (k:=D5 2 2 (.slice a26 (nn+1) cap27) rfl (B9 kr (fun w h=>(h.pkT 4 [0,2,4])) (G6 (E':=[⟨0,[],pt r⟩,⟨2,[],.string (mB #[125])⟩,⟨3,[],.int .i64 d⟩,⟨5,[],pt b1⟩,⟨8,[],pt b2⟩]) [0,2,3,5,8] (k:=H8 (a26,cap27,g24) [0,2,3,5,8] kr (fun w h=>h.pkT 1 [1,1,1,1,1,1]) hO25))))))
    ·
     rintro ⟨xa,xc,xg⟩ hxo
     dsimp only at hxo
     refine A0 (A1 (A2 (A3 (j:=1) [0] (k:=C3 Tryz.func16 (I6 r ((B7 (A4 q2)).2)  _ _) ?_))))
     rintro _ _ rfl
     refine A7 [] [0,2,3,5,8] (k:=A0 (A2 (A3 (j:=1) [0] (k:=C3 Tryz.func41 (jmust_ r (A4 ((B7 (A4 q2)).2)) 58 _ _) ?_))))
     rintro _ _ rfl
     refine A7 [] [0,2,3,5,8] (k:=A0 (A1 (G_join (T:=Option Addr × Nat × Grp × List Value × Grp) (fun ξ:Option Addr × Nat × Grp × List Value × Grp=>[⟨0,[],pt r⟩,⟨2,[],.string (mB #[125])⟩,⟨3,[],.int .i64 d⟩,⟨5,[],pt b1⟩,⟨8,[],pt b2⟩]) (fun ξ:Option Addr × Nat × Grp × List Value × Grp=>([(r,.cells #[.string (bk ((B2 lv (C0 58 (A4 (B7 (A4 q2)).2))).2).1),.int .i64 (((B2 lv (C0 58 (A4 (B7 (A4 q2)).2))).2).2)] 55 (0,0))]::[(b1,.cells #[.int .i64 6,.string eB,.slice xa (nn+1) xc,.slice ξ.1 (nl+1) ξ.2.1] 30 (0,0))]::[(b2,.cells #[.int .i64 0,.string eB,.slice none 0 0,.slice none 0 0] 30 (0,0))]::xg::ξ.2.2.1::gs::ξ.2.2.2.2::H)) (fun ξ:Option Addr × Nat × Grp × List Value × Grp=>(Go.Sw.Own 30 4 (.slice ξ.1 (nl+1) ξ.2.1) ξ.2.2.1 (nl+1) (cs++ξ.2.2.2.1))∧(JRep 9 30 (B2 lv (C0 58 (A4 (B7 (A4 q2)).2))).1 ξ.2.2.2.1 ξ.2.2.2.2)) ?_ ?_)))
     ·
      refine H9 ([(b2,.cells #[.int .i64 0,.string eB,.slice none 0 0,.slice none 0 0] 30 (0,0))]::gs::H) kr (GH_p (fuel:=6) [(0,0),(2,0),(3,0),(4,0)] (fun w h=>(h.pk 4 [2,4])) (k:=GH_wi 48 (d+1) (by omega) (by omega) kr (GH_eff2 1 5 (k:=?_) (k':=?_))))
      ·
       refine B8 1 3 rfl rfl (B9 kr (fun w h=>(h.pk 4 [2,4])) (C9 5 (k:=C3 Tryz.func15 (hval (C0 58 (A4 ((B7 (A4 q2)).2))) (by have:=nameq_le q2; omega) _ _ hW) ?_)))
       rintro _ _ ⟨vc31,gv31,hJ31,rfl,rfl⟩
       obtain ⟨vk31,vt31,van31,vn31,vcn31,val31,vm31,vcl31,rfl⟩:=hJ31.shape
       refine B9 kr (fun w h=>(h.pk 5 [3,5])) (G5 (gv31::[(b2,.cells #[.int .i64 0,.string eB,.slice none 0 0,.slice none 0 0] 30 (0,0))]::gs::H) (fun w h=>(h.pk 1 [1,1])) (C9 6 (k:=I0 30 1 [.int .i64 vk31,.string vt31,.slice van31 vn31 vcn31,.slice val31 vm31 vcl31] (fun b32=>B9 kr (fun w h=>(h.pk 5 [2,3,5])) (G5 ([(b32,.cells #[.int .i64 vk31,.string vt31,.slice van31 vn31 vcn31,.slice val31 vm31 vcl31] 30 (0,0))]::gv31::[(b2,.cells #[.int .i64 0,.string eB,.slice none 0 0,.slice none 0 0] 30 (0,0))]::gs::H) (fun w h=>(h.pk 1 [1,1,1])) (C9 7 (k:=GL_ap (inf:=Tryz.t30) 1 0 6 rfl rfl hL (by omega) (by show (nl+1) * 72≤140737488355328; omega) (fun v33 g34 hO35=>?_))))))))
       obtain ⟨a36,cap37,rfl,hcap38,hrd39⟩:=hO35.shape
       refine B9 kr (fun w h=>(h.pkT 4 [0,1,2,4])) (GH_p (fuel:=1) [(8,0)] (fun w h=>(h.pkT 4 [0,1,2,4])) (k:=C9 9 (k:=D5 3 3 (.slice a36 (nl+1) cap37) rfl (B9 kr (fun w h=>(h.pkT 4 [0,1,2,4])) (G6 (E':=[⟨0,[],pt r⟩,⟨2,[],.string (mB #[125])⟩,⟨3,[],.int .i64 d⟩,⟨5,[],pt b1⟩,⟨8,[],pt b2⟩]) [0,2,3,5,8] (k:=H8 (a36,cap37,g34,[.int .i64 vk31,.string vt31,.slice van31 vn31 vcn31,.slice val31 vm31 vcl31],gv31) [0,2,3,5,8] kr (fun w h=>h.pkT 1 [1,2,2,2,2,2,1]) ⟨hO35,hJ31⟩))))))
      ·
       refine C3 Tryz.func15 (hval (C0 58 (A4 ((B7 (A4 q2)).2))) (by have:=nameq_le q2; omega) _ _ hW) ?_
       rintro _ _ ⟨vc40,gv40,hJ40,rfl,rfl⟩
       obtain ⟨vk40,vt40,van40,vn40,vcn40,val40,vm40,vcl40,rfl⟩:=hJ40.shape
       refine B9 kr (fun w h=>(h.pk 5 [3,5])) (G5 (gv40::[(b2,.cells #[.int .i64 0,.string eB,.slice none 0 0,.slice none 0 0] 30 (0,0))]::gs::H) (fun w h=>(h.pk 1 [1,1])) (GH_eff2 1 6 (k:=?_) (k':=?_)))
       ·
        refine B8 2 3 rfl rfl (B9 kr (fun w h=>(h.pk 4 [1,2,4])) (C9 6 (k:=I0 30 1 [.int .i64 vk40,.string vt40,.slice van40 vn40 vcn40,.slice val40 vm40 vcl40] (fun b41=>B9 kr (fun w h=>(h.pk 5 [2,3,5])) (G5 ([(b41,.cells #[.int .i64 vk40,.string vt40,.slice van40 vn40 vcn40,.slice val40 vm40 vcl40] 30 (0,0))]::gv40::[(b2,.cells #[.int .i64 0,.string eB,.slice none 0 0,.slice none 0 0] 30 (0,0))]::gs::H) (fun w h=>(h.pk 1 [1,1,1])) (C9 7 (k:=GL_ap (inf:=Tryz.t30) 1 0 6 rfl rfl hL (by omega) (by show (nl+1) * 72≤140737488355328; omega) (fun v42 g43 hO44=>?_))))))))
        obtain ⟨a45,cap46,rfl,hcap47,hrd48⟩:=hO44.shape
        refine B9 kr (fun w h=>(h.pkT 4 [0,1,2,4])) (GH_p (fuel:=1) [(8,0)] (fun w h=>(h.pkT 4 [0,1,2,4])) (k:=C9 9 (k:=D5 3 3 (.slice a45 (nl+1) cap46) rfl (B9 kr (fun w h=>(h.pkT 4 [0,1,2,4])) (G6 (E':=[⟨0,[],pt r⟩,⟨2,[],.string (mB #[125])⟩,⟨3,[],.int .i64 d⟩,⟨5,[],pt b1⟩,⟨8,[],pt b2⟩]) [0,2,3,5,8] (k:=H8 (a45,cap46,g43,[.int .i64 vk40,.string vt40,.slice van40 vn40 vcn40,.slice val40 vm40 vcl40],gv40) [0,2,3,5,8] kr (fun w h=>h.pkT 1 [1,2,2,2,2,2,1]) ⟨hO44,hJ40⟩))))))
       ·
        refine I0 30 1 [.int .i64 vk40,.string vt40,.slice van40 vn40 vcn40,.slice val40 vm40 vcl40] (fun b49=>B9 kr (fun w h=>(h.pk 5 [2,3,5])) (G5 ([(b49,.cells #[.int .i64 vk40,.string vt40,.slice van40 vn40 vcn40,.slice val40 vm40 vcl40] 30 (0,0))]::gv40::[(b2,.cells #[.int .i64 0,.string eB,.slice none 0 0,.slice none 0 0] 30 (0,0))]::gs::H) (fun w h=>(h.pk 1 [1,1,1])) (C9 1 (k:=B8 3 3 rfl rfl (B9 kr (fun w h=>(h.pk 4 [0,1,2,4])) (C9 7 (k:=GL_ap (inf:=Tryz.t30) 1 0 6 rfl rfl hL (by omega) (by show (nl+1) * 72≤140737488355328; omega) (fun v50 g51 hO52=>?_))))))))
        obtain ⟨a53,cap54,rfl,hcap55,hrd56⟩:=hO52.shape
        refine B9 kr (fun w h=>(h.pkT 4 [0,1,2,4])) (GH_p (fuel:=1) [(8,0)] (fun w h=>(h.pkT 4 [0,1,2,4])) (k:=C9 9 (k:=D5 3 3 (.slice a53 (nl+1) cap54) rfl (B9 kr (fun w h=>(h.pkT 4 [0,1,2,4])) (G6 (E':=[⟨0,[],pt r⟩,⟨2,[],.string (mB #[125])⟩,⟨3,[],.int .i64 d⟩,⟨5,[],pt b1⟩,⟨8,[],pt b2⟩]) [0,2,3,5,8] (k:=H8 (a53,cap54,g51,[.int .i64 vk40,.string vt40,.slice van40 vn40 vcn40,.slice val40 vm40 vcl40],gv40) [0,2,3,5,8] kr (fun w h=>h.pkT 1 [1,2,2,2,2,2,1]) ⟨hO52,hJ40⟩))))))
     ·
      rintro ⟨ya,yc,yg,c,gv⟩ ⟨hyo,hJ⟩
      dsimp only at hyo hJ
      refine A0 (A1 (A2 (A3 (j:=1) [0] (k:=C3 Tryz.func16 (I6 r ((B2 lv (C0 58 (A4 (B7 (A4 q2)).2))).2)  _ _) ?_))))
      rintro _ _ rfl
      refine A7 [] [0,2,3,5,8] (k:=A0 (A1 (A1 (A2 (A3 (j:=2) [0,0] (k:=C3 Tryz.func26 (jtake_ r (A4 ((B2 lv (C0 58 (A4 (B7 (A4 q2)).2))).2)) (mB #[125]) _ _) ?_))))))
      rintro _ _ (⟨hk57,rfl,rfl⟩ | ⟨hk57,rfl,rfl⟩)
      ·
       have hk57:(A4 ((B2 lv (C0 58 (A4 (B7 (A4 q2)).2))).2)).1.take 1=[125]:=hk57
       have hM:memR (B2 lv) true ((blk q.1).length+1) [] [] (A4 q)=((ns++[(B7 (A4 q2)).1],vs++[(B2 lv (C0 58 (A4 (B7 (A4 q2)).2))).1]),((blk (B2 lv (C0 58 (A4 (B7 (A4 q2)).2))).2.1).drop 1,(B2 lv (C0 58 (A4 (B7 (A4 q2)).2))).2.2)):=hT.trans (memR_last hq0 (fun _=>h34) (show (blk (B2 lv (C0 58 (A4 (B7 (A4 q2)).2))).2.1).take 1=[endB true] from hk57))
       refine A7 [] [0,2,3,5,8,57] (k:=A0 (D3 kr (I3 (B3 (L2 rfl (B3 (C6 (A0 ?_))))))))
       refine A1 (A2 (F1 1 0 4 rfl (D5 2 0 (.agg #[.int .i64 6,.string eB,.slice xa (nn+1) xc,.slice ya (nl+1) yc]) rfl (A6 (E':=[⟨8,[],pt b2⟩]) [] [8] (k:=A0 (B0 (N_pkT 1 [0,1,1,1,1,1] ([(r,.cells #[.string (bk ((A4 ((B2 lv (C0 58 (A4 (B7 (A4 q2)).2))).2)).1.drop 1,(A4 ((B2 lv (C0 58 (A4 (B7 (A4 q2)).2))).2)).2).1),.int .i64 (((A4 ((B2 lv (C0 58 (A4 (B7 (A4 q2)).2))).2)).1.drop 1,(A4 ((B2 lv (C0 58 (A4 (B7 (A4 q2)).2))).2)).2).2)] 55 (0,0))]::[(b2,.cells #[.int .i64 6,.string eB,.slice xa (nn+1) xc,.slice ya (nl+1) yc] 30 (0,0))]::xg::yg::gs::gv::H) (E6 (H':=([(r,.cells #[.string (bk ((A4 ((B2 lv (C0 58 (A4 (B7 (A4 q2)).2))).2)).1.drop 1,(A4 ((B2 lv (C0 58 (A4 (B7 (A4 q2)).2))).2)).2).1),.int .i64 (((A4 ((B2 lv (C0 58 (A4 (B7 (A4 q2)).2))).2)).1.drop 1,(A4 ((B2 lv (C0 58 (A4 (B7 (A4 q2)).2))).2)).2).2)] 55 (0,0))]::[(b2,.cells #[.int .i64 6,.string eB,.slice xa (nn+1) xc,.slice ya (nl+1) yc] 30 (0,0))]::(xg++(yg++(gs++gv)))::H)) (fun w h=>Sat.flat h (List.Perm.of_eq (by simp []))) ?_))))))))
       refine F8 [.cell 8 30] [.agg #[.int .i64 6,.string eB,.slice xa (nn+1) xc,.slice ya (nl+1) yc]] rfl (.cons (.aq 1 0 rfl) (.nil)) rfl ⟨_,?_,fun w h=>(h.pk 1 [0,1])⟩
       subst hnl; subst hnn; rw [mbR_mem hB0 hM]; exact ⟨_,_,.mk (by rw [strV_app,List.length_append]; exact hxo) (by rw [List.length_append]; exact hyo) (hP.snoc hJ),(by simp only [List.length_append]; rfl),rfl⟩
      ·
       have hk57:¬ (A4 ((B2 lv (C0 58 (A4 (B7 (A4 q2)).2))).2)).1.take 1=[125]:=hk57
       have hE:¬ (blk (B2 lv (C0 58 (A4 (B7 (A4 q2)).2))).2.1).take 1=[endB true]:=hk57
       refine A7 [] [0,2,3,5,8,57] (k:=A0 (C2 kr (A8 (A0 (A2 (A3 (j:=1) [0] (k:=C3 Tryz.func41 (jmust_ r (A4 ((B2 lv (C0 58 (A4 (B7 (A4 q2)).2))).2)) 44 _ _) ?_)))))))
       rintro _ _ rfl
       refine A7 [] [0,2,3,5,8] (k:=D8 (E6 (H':=([(r,.cells #[.string (bk (C0 44 (A4 ((B2 lv (C0 58 (A4 (B7 (A4 q2)).2))).2))).1),.int .i64 ((C0 44 (A4 ((B2 lv (C0 58 (A4 (B7 (A4 q2)).2))).2))).2)] 55 (0,0))]::[(b1,.cells #[.int .i64 6,.string eB,.slice xa (nn+1) xc,.slice ya (nl+1) yc] 30 (0,0))]::[(b2,.cells #[.int .i64 0,.string eB,.slice none 0 0,.slice none 0 0] 30 (0,0))]::xg::yg::(gs++gv)::H)) (fun w h=>Sat.flat h (List.Perm.of_eq (by simp [rdG]))) (J1 (s':=(m,(C0 44 (A4 (B2 lv (C0 58 (A4 (B7 (A4 q2)).2))).2)),(vs++[(B2 lv (C0 58 (A4 (B7 (A4 q2)).2))).1]),(nl+1),ya,yc,yg,(cs++c),(gs++gv),(ns++[(B7 (A4 q2)).1]),(nn+1),xa,xc,xg)) [0,2,3,5,8] kr rfl ⟨(by dsimp only; intro h0; have:=round_len (lv:=lv) (obj:=true) (ns:=ns) (q:=q2) h0; have h9:=hn hq0; exact Nat.lt_of_lt_of_le this (Nat.le_of_lt_succ h9)),(by dsimp only; rw [hT]; exact memR_next hq0 (fun _=>h34) (show ¬ (blk (B2 lv (C0 58 (A4 (B7 (A4 q2)).2))).2.1).take 1=[endB true] from hE)),hyo,(by dsimp only; rw [List.length_append,hnl]; rfl),(by dsimp only; exact hP.snoc hJ),(by dsimp only; omega),(by dsimp only; rw [strV_app]; exact hxo),(by dsimp only; rw [List.length_append,hnn]; rfl),(by dsimp only; omega)⟩ (by dsimp only; omega))))
  ·
   have hq0:¬ q2.2=0:=by simpa using hc4
   have hM:=hT.trans (memR_end hq0)
   refine I3 (B3 (B3 (C6 (A0 (A1 (A2 (F1 1 0 4 rfl (D5 2 0 (.agg #[.int .i64 6,.string eB,.slice na nn nc,.slice la nl lc]) rfl ?_))))))))
   refine A6 (E':=[⟨8,[],pt b2⟩]) [] [8] (k:=A0 (B0 (N_pkT 1 [0,1,1,1,1] ([(r,.cells #[.string (bk q2.1),.int .i64 q2.2] 55 (0,0))]::[(b2,.cells #[.int .i64 6,.string eB,.slice na nn nc,.slice la nl lc] 30 (0,0))]::gn::gl::gs::H) (E6 (H':=([(r,.cells #[.string (bk q2.1),.int .i64 q2.2] 55 (0,0))]::[(b2,.cells #[.int .i64 6,.string eB,.slice na nn nc,.slice la nl lc] 30 (0,0))]::(gn++(gl++gs))::H)) (fun w h=>Sat.flat h (List.Perm.of_eq (by simp []))) (F8 [.cell 8 30] [.agg #[.int .i64 6,.string eB,.slice na nn nc,.slice la nl lc]] rfl (.cons (.aq 1 0 rfl) (.nil)) rfl ⟨_,?_,fun w h=>(h.pk 1 [0,1])⟩)))))
   subst hnl; subst hnn; rw [mbR_mem hB0 hM]; exact ⟨_,_,.mk hN hL hP,rfl,rfl⟩
end Go.Proofs.YtmnihmfifpaaoaaGreatDoor
namespace Go.Proofs.YtmnihmfifpaaoaaGreatDoor
open Go.Sw Go.Sha Go.Esc Go.RowKit Go.Json
theorem text_bk (l:List UInt8) (n:Nat):(bk l).extract 0 n=bk (l.take n):=ext_bkT l n
theorem jvalueW_ (lv:Nat) (d:Int) (hd:d=24 - (lv:Int)) (hlv:lv≤24) (r:Nat) (q:RdS) (hl:q.1.length≤1000000) (hmemT:∀ n,lv=n+1→∀ (q:RdS),q.1.length≤1000000→∀ (W0:World) (H:List Grp),F2 W0→Tri Tryz.prog 27 #[pt r,.agg #[.int .i64 6,.string eB,.slice none 0 0,.slice none 0 0],.string (mB #[125]),.int .i64 d] W0 (rdG r q::H) (fun v H2=>∃ c g,JRep 9 30 (mbR (B2 n) true q).1 c g∧v=.agg c.toArray∧H2=rdG r (mbR (B2 n) true q).2::g::H)) (hmemF:∀ n,lv=n+1→∀ (q:RdS),q.1.length≤1000000→∀ (W0:World) (H:List Grp),F2 W0→Tri Tryz.prog 27 #[pt r,.agg #[.int .i64 5,.string eB,.slice none 0 0,.slice none 0 0],.string (mB #[93]),.int .i64 d] W0 (rdG r q::H) (fun v H2=>∃ c g,JRep 9 30 (mbR (B2 n) false q).1 c g∧v=.agg c.toArray∧H2=rdG r (mbR (B2 n) false q).2::g::H)) (W0:World) (H:List Grp) (hW:F2 W0):Tri Tryz.prog 15 #[pt r,.int .i64 d] W0 ([(r,.cells #[.string (bk q.1),.int .i64 q.2] 55 (0,0))]::H) (fun v H2=>∃ c g,JRep 9 30 (B2 lv q).1 c g∧v=.agg c.toArray∧H2=rdG r (B2 lv q).2::g::H):=by
  refine D4 96 Tryz.func15 ?_
  refine A1 (A2 (I1 (.agg #[.int .i64 0,.string eB,.slice none 0 0,.slice none 0 0]) (fun b1=>A7 [] [0,1,4] (k:=A0 (A1 (A2 (A3 (j:=1) [0] (k:=J6 0 [1] ?_))))))))
  refine C3 Tryz.func16 (I6 r q  _ _) ?_
  rintro _ _ rfl
  refine A7 [] [0,1,4] (k:=A0 (A1 (A1 (A2 (A3 (j:=6) [0,0,0,0,0,0] (k:=GL_load (ch:=[(11,true)]) (b:=r) (off:=0) (v:=.string (bk (A4 q).1)) (hA:=At.grp 0 0 rfl rfl) (k:=GL_cG [(11,true)] Tryz.func25 (fun hc=>jhas_ (bk (A4 q).1) (mB #[91]) _ _) (A3 (j:=12) [0,0,0,0] (k:=?_)))))))))
  refine GL_load (ch:=[(17,false),(11,true)]) (b:=r) (off:=0) (v:=.string (bk (A4 q).1)) (hA:=At.grp 0 0 rfl rfl) (k:=GL_cG [(17,false),(11,true)] Tryz.func25 (fun hc=>jhas_ (bk (A4 q).1) (mB #[123]) _ _) (A7 [5,6] [0,1,4,24] (k:=A0 (G_join (T:=RdS) (fun ξ:RdS=>[⟨0,[],pt r⟩,⟨1,[],.int .i64 d⟩,⟨4,[],pt b1⟩]) (fun ξ:RdS=>([(r,.cells #[.string (bk ξ.1),.int .i64 ξ.2] 55 (0,0))]::[(b1,.cells #[.int .i64 0,.string eB,.slice none 0 0,.slice none 0 0] 30 (0,0))]::H)) (fun ξ:RdS=>(ξ=vq1 lv q)) ?_ ?_))))
  ·
    refine C5 (b:=(decide (d ≥ 24))&&((E0 (bk (A4 q).1) (mB #[91]))||(E0 (bk (A4 q).1) (mB #[123])))) kr (fun hc2=>?_) (fun hc2=>?_)
    ·
      simp only [Bool.and_eq_true,Bool.or_eq_true,decide_eq_true_eq,F7,ge_iff_le] at hc2
      have hl0:lv=0:=by omega
      have ho:J7 (blk q.1):=by
        rcases hc2.2 with h | h
        · exact .inl ((take1 (by decide)).1 h)
        · exact .inr ((take1 (by decide)).1 h)
      refine A2 (A3 (j:=1) [0] (k:=C3 Tryz.func17 (jfault_ r (A4 q) 71 _ _) ?_))
      rintro _ _ rfl
      refine A7 [] [0,1,4] (k:=H8 ((fltR 71 (A4 q))) [0,1,4] kr (fun w h=>h) (by first | (rw [hl0]; exact (vq1_zero ho).symm) | exact (vq1_else hno).symm))
    ·
      simp only [Bool.and_eq_false_iff,Bool.or_eq_false_iff,decide_eq_false_iff_not,F5,ge_iff_le] at hc2
      have hno:¬ (lv=0∧J7 (blk q.1)):=by
        rintro ⟨h0,ho⟩
        rcases hc2 with h | h
        · omega
        · rcases ho with ho | ho
          · exact h.1 ((take1 (by decide)).2 ho)
          · exact h.2 ((take1 (by decide)).2 ho)
      refine A8 (H8 ((A4 q)) [0,1,4] kr (fun w h=>h) (by first | (rw [hl0]; exact (vq1_zero ho).symm) | exact (vq1_else hno).symm))
  ·
    rintro q1 hq
    have hl1:q1.1.length≤1000000:=by rw [hq,vq1_fst]; have:=F0 q.1; omega
    have hbz:=bk_size q1.1
    refine A0 (A1 (C8 (A1 (A2 (A3 (j:=3) [0,0,0] (k:=B8 0 1 rfl rfl (A7 [0,0] [0,1,4,27] (k:=A0 ?_))))))))
    refine C5 (b:=q1.2 != 0) kr (fun hc3=>?_) (fun hc3=>?_)
    ·
      have hf:¬ q1.2=0:=by simpa using hc3
      refine A1 (A2 (A3 (j:=1) [0] (k:=D5 1 0 (.agg #[.int .i64 0,.string eB,.slice none 0 0,.slice none 0 0]) rfl (A6 (E':=[⟨4,[],pt b1⟩]) [] [4] (k:=A0 (B0 (B4 (A5 ?_))))))))
      refine E6 (H':=([(r,.cells #[.string (bk q1.1),.int .i64 q1.2] 55 (0,0))]::[(b1,.cells #[.int .i64 0,.string eB,.slice none 0 0,.slice none 0 0] 30 (0,0))]::[]::H)) (fun w h=>Sat.flat h (List.Perm.refl _)) (F8 [.cell 4 30] [.agg #[.int .i64 0,.string eB,.slice none 0 0,.slice none 0 0]] rfl (.cons (.aq 1 0 rfl) (.nil)) rfl ⟨_,?_,fun w h=>(h.pk 1 [0,1])⟩)
      rw [val_0 hq hf]; exact ⟨_,_,JRep.atom 0 [],rfl,rfl⟩
    ·
      have hf:q1.2=0:=by simpa using hc3
      refine A1 (A2 (A3 (j:=1) [0] (k:=C3 Tryz.func26 (jtake_ r q1 (mB #[110,117,108,108]) _ _) ?_)))
      rintro _ _ (⟨hk4,rfl,rfl⟩ | ⟨hk4,rfl,rfl⟩)
      ·
        have hk4:q1.1.take 4=[110,117,108,108]:=hk4
        have c1:=hk4
        refine A7 [0] [0,1,4,34] (k:=A0 (D3 kr (A1 (A2 (A3 (j:=1) [0] (k:=D5 1 0 (.agg #[.int .i64 0,.string eB,.slice none 0 0,.slice none 0 0]) rfl (A6 (E':=[⟨4,[],pt b1⟩]) [] [4] (k:=A0 ?_))))))))
        refine B0 (B4 (A5 (E6 (H':=([(r,.cells #[.string (bk (q1.1.drop 4,q1.2).1),.int .i64 ((q1.1.drop 4,q1.2).2)] 55 (0,0))]::[(b1,.cells #[.int .i64 0,.string eB,.slice none 0 0,.slice none 0 0] 30 (0,0))]::[]::H)) (fun w h=>Sat.flat h (List.Perm.refl _)) (F8 [.cell 4 30] [.agg #[.int .i64 0,.string eB,.slice none 0 0,.slice none 0 0]] rfl (.cons (.aq 1 0 rfl) (.nil)) rfl ⟨_,?_,fun w h=>(h.pk 1 [0,1])⟩))))
        rw [val_null hq hf c1]; exact ⟨_,_,JRep.atom 0 [],rfl,rfl⟩
      ·
        have hk4:¬ q1.1.take 4=[110,117,108,108]:=hk4
        have c1:=hk4
        refine A7 [0] [0,1,4,34] (k:=A0 (C2 kr (A1 (A2 (A3 (j:=1) [0] (k:=C3 Tryz.func26 (jtake_ r q1 (mB #[102,97,108,115,101]) _ _) ?_))))))
        rintro _ _ (⟨hk5,rfl,rfl⟩ | ⟨hk5,rfl,rfl⟩)
        ·
          have hk5:q1.1.take 5=[102,97,108,115,101]:=hk5
          have c2:=hk5
          refine A7 [0] [0,1,4,38] (k:=A0 (D3 kr (A1 (A2 (A3 (j:=1) [0] (k:=D5 1 0 (.agg #[.int .i64 1,.string eB,.slice none 0 0,.slice none 0 0]) rfl (A6 (E':=[⟨4,[],pt b1⟩]) [] [4] (k:=A0 ?_))))))))
          refine B0 (B4 (A5 (E6 (H':=([(r,.cells #[.string (bk (q1.1.drop 5,q1.2).1),.int .i64 ((q1.1.drop 5,q1.2).2)] 55 (0,0))]::[(b1,.cells #[.int .i64 1,.string eB,.slice none 0 0,.slice none 0 0] 30 (0,0))]::[]::H)) (fun w h=>Sat.flat h (List.Perm.refl _)) (F8 [.cell 4 30] [.agg #[.int .i64 1,.string eB,.slice none 0 0,.slice none 0 0]] rfl (.cons (.aq 1 0 rfl) (.nil)) rfl ⟨_,?_,fun w h=>(h.pk 1 [0,1])⟩))))
          rw [val_false hq hf c1 c2]; exact ⟨_,_,JRep.atom 1 [],rfl,rfl⟩
        ·
          have hk5:¬ q1.1.take 5=[102,97,108,115,101]:=hk5
          have c2:=hk5
          refine A7 [0] [0,1,4,38] (k:=A0 (C2 kr (A1 (A2 (A3 (j:=1) [0] (k:=C3 Tryz.func26 (jtake_ r q1 (mB #[116,114,117,101]) _ _) ?_))))))
          rintro _ _ (⟨hk6,rfl,rfl⟩ | ⟨hk6,rfl,rfl⟩)
          ·
            have hk6:q1.1.take 4=[116,114,117,101]:=hk6
            have c3:=hk6
            refine A7 [0] [0,1,4,42] (k:=A0 (D3 kr (A1 (A2 (A3 (j:=1) [0] (k:=D5 1 0 (.agg #[.int .i64 2,.string eB,.slice none 0 0,.slice none 0 0]) rfl (A6 (E':=[⟨4,[],pt b1⟩]) [] [4] (k:=A0 ?_))))))))
            refine B0 (B4 (A5 (E6 (H':=([(r,.cells #[.string (bk (q1.1.drop 4,q1.2).1),.int .i64 ((q1.1.drop 4,q1.2).2)] 55 (0,0))]::[(b1,.cells #[.int .i64 2,.string eB,.slice none 0 0,.slice none 0 0] 30 (0,0))]::[]::H)) (fun w h=>Sat.flat h (List.Perm.refl _)) (F8 [.cell 4 30] [.agg #[.int .i64 2,.string eB,.slice none 0 0,.slice none 0 0]] rfl (.cons (.aq 1 0 rfl) (.nil)) rfl ⟨_,?_,fun w h=>(h.pk 1 [0,1])⟩))))
            rw [val_true hq hf c1 c2 c3]; exact ⟨_,_,JRep.atom 2 [],rfl,rfl⟩
          ·
            have hk6:¬ q1.1.take 4=[116,114,117,101]:=hk6
            have c3:=hk6
            refine A7 [0] [0,1,4,42] (k:=A0 (C2 kr (A1 (A2 (A3 (j:=1) [0] (k:=C3 Tryz.func26 (jtake_ r q1 (mB #[91]) _ _) ?_))))))
            rintro _ _ (⟨hk7,rfl,rfl⟩ | ⟨hk7,rfl,rfl⟩)
            ·
              have hk7:q1.1.take 1=[91]:=hk7
              have c4:=hk7
              obtain ⟨n,hln,hvm⟩:=val_many hq hf false c4
              refine A7 [0] [0,1,4,46] (k:=A0 (D3 kr (A1 (A2 (A3 (j:=3) [0,0,0] (k:=C3 (vs:=[pt r,.agg #[.int .i64 5,.string eB,.slice none 0 0,.slice none 0 0],.string (mB #[93]),.int .i64 d]) Tryz.func27 (hmemF n hln (q1.1.drop 1,q1.2) (by show (List.drop 1 _).length≤_; rw [List.length_drop]; omega) _ _ hW) ?_))))))
              rintro _ _ ⟨vc8,gv8,hJ8,rfl,rfl⟩
              obtain ⟨vk8,vt8,van8,vn8,vcn8,val8,vm8,vcl8,rfl⟩:=hJ8.shape
              refine D5 2 0 (.agg #[.int .i64 vk8,.string vt8,.slice van8 vn8 vcn8,.slice val8 vm8 vcl8]) rfl (A6 (E':=[⟨4,[],pt b1⟩]) [] [4] (k:=A0 (B0 (B4 (A5 (N_pkT 0 [0,1,0] ([(r,.cells #[.string (bk ((mbR (B2 n) false (q1.1.drop 1,q1.2)).2).1),.int .i64 (((mbR (B2 n) false (q1.1.drop 1,q1.2)).2).2)] 55 (0,0))]::[(b1,.cells #[.int .i64 vk8,.string vt8,.slice van8 vn8 vcn8,.slice val8 vm8 vcl8] 30 (0,0))]::gv8::H) (E6 (H':=([(r,.cells #[.string (bk ((mbR (B2 n) false (q1.1.drop 1,q1.2)).2).1),.int .i64 (((mbR (B2 n) false (q1.1.drop 1,q1.2)).2).2)] 55 (0,0))]::[(b1,.cells #[.int .i64 vk8,.string vt8,.slice van8 vn8 vcn8,.slice val8 vm8 vcl8] 30 (0,0))]::gv8::H)) (fun w h=>Sat.flat h (List.Perm.refl _)) (F8 [.cell 4 30] [.agg #[.int .i64 vk8,.string vt8,.slice van8 vn8 vcn8,.slice val8 vm8 vcl8]] rfl (.cons (.aq 1 0 rfl) (.nil)) rfl ⟨_,?_,fun w h=>(h.pk 1 [0,1])⟩))))))))
              rw [hvm]; exact ⟨_,_,hJ8,rfl,rfl⟩
            ·
              have hk7:¬ q1.1.take 1=[91]:=hk7
              have c4:=hk7
              refine A7 [0] [0,1,4,46] (k:=A0 (C2 kr (A1 (A2 (A3 (j:=1) [0] (k:=C3 Tryz.func26 (jtake_ r q1 (mB #[123]) _ _) ?_))))))
              rintro _ _ (⟨hk9,rfl,rfl⟩ | ⟨hk9,rfl,rfl⟩)
              ·
                have hk9:q1.1.take 1=[123]:=hk9
                have c5:=hk9
                obtain ⟨n,hln,hvm⟩:=val_many hq hf true c5
                refine A6 (E':=[⟨0,[],pt r⟩,⟨1,[],.int .i64 d⟩,⟨4,[],pt b1⟩,⟨53,[],.bool true⟩]) [0] [0,1,4,53] (k:=A0 (D3 kr (A1 (A2 (A3 (j:=3) [0,0,0] (k:=C3 (vs:=[pt r,.agg #[.int .i64 6,.string eB,.slice none 0 0,.slice none 0 0],.string (mB #[125]),.int .i64 d]) Tryz.func27 (hmemT n hln (q1.1.drop 1,q1.2) (by show (List.drop 1 _).length≤_; rw [List.length_drop]; omega) _ _ hW) ?_))))))
                rintro _ _ ⟨vc10,gv10,hJ10,rfl,rfl⟩
                obtain ⟨vk10,vt10,van10,vn10,vcn10,val10,vm10,vcl10,rfl⟩:=hJ10.shape
                refine D5 2 0 (.agg #[.int .i64 vk10,.string vt10,.slice van10 vn10 vcn10,.slice val10 vm10 vcl10]) rfl (A6 (E':=[⟨4,[],pt b1⟩]) [] [4] (k:=A0 (B0 (B4 (A5 (N_pkT 0 [0,1,0] ([(r,.cells #[.string (bk ((mbR (B2 n) true (q1.1.drop 1,q1.2)).2).1),.int .i64 (((mbR (B2 n) true (q1.1.drop 1,q1.2)).2).2)] 55 (0,0))]::[(b1,.cells #[.int .i64 vk10,.string vt10,.slice van10 vn10 vcn10,.slice val10 vm10 vcl10] 30 (0,0))]::gv10::H) (E6 (H':=([(r,.cells #[.string (bk ((mbR (B2 n) true (q1.1.drop 1,q1.2)).2).1),.int .i64 (((mbR (B2 n) true (q1.1.drop 1,q1.2)).2).2)] 55 (0,0))]::[(b1,.cells #[.int .i64 vk10,.string vt10,.slice van10 vn10 vcn10,.slice val10 vm10 vcl10] 30 (0,0))]::gv10::H)) (fun w h=>Sat.flat h (List.Perm.refl _)) (F8 [.cell 4 30] [.agg #[.int .i64 vk10,.string vt10,.slice van10 vn10 vcn10,.slice val10 vm10 vcl10]] rfl (.cons (.aq 1 0 rfl) (.nil)) rfl ⟨_,?_,fun w h=>(h.pk 1 [0,1])⟩))))))))
                rw [hvm]; exact ⟨_,_,hJ10,rfl,rfl⟩
              ·
                have hk9:¬ q1.1.take 1=[123]:=hk9
                have c5:=hk9
                refine A6 (E':=[⟨0,[],pt r⟩,⟨1,[],.int .i64 d⟩,⟨4,[],pt b1⟩,⟨53,[],.bool false⟩]) [0] [0,1,4,53] (k:=A0 (C2 kr (A1 (A2 (A3 (j:=3) [0,0,0] (k:=B8 0 0 rfl rfl (K5 Tryz.func25 (jhas_ (bk q1.1) (mB #[34]) _ _) (A7 [0] [0,4,60] (k:=?_)))))))))
                refine A0 (C5 (b:=E0 (bk q1.1) (mB #[34])) kr (fun hc11=>?_) (fun hc11=>?_))
                ·
                  have c6:q1.1.take 1=[34]:=(F7 _ _).1 hc11
                  refine A1 (A2 (A3 (j:=1) [0] (k:=C3 Tryz.func28 (jtext_ r q1 (by omega) _ _ hW) ?_)))
                  rintro _ _ ⟨rfl,rfl⟩
                  refine A3 (j:=3) [0] (k:=D5 1 0 (.agg #[.int .i64 4,.string (bk (B7 q1).1),.slice none 0 0,.slice none 0 0]) rfl (A6 (E':=[⟨4,[],pt b1⟩]) [] [4] (k:=A0 (B0 (B4 (A5 (E6 (H':=([(r,.cells #[.string (bk ((B7 q1).2).1),.int .i64 (((B7 q1).2).2)] 55 (0,0))]::[(b1,.cells #[.int .i64 4,.string (bk (B7 q1).1),.slice none 0 0,.slice none 0 0] 30 (0,0))]::[]::H)) (fun w h=>Sat.flat h (List.Perm.refl _)) (F8 [.cell 4 30] [.agg #[.int .i64 4,.string (bk (B7 q1).1),.slice none 0 0,.slice none 0 0]] rfl (.cons (.aq 1 0 rfl) (.nil)) rfl ⟨_,?_,fun w h=>(h.pk 1 [0,1])⟩))))))))
                  rw [val_text hq hf c1 c2 c3 c4 c5 c6]; exact ⟨_,_,JRep.atom 4 _,rfl,rfl⟩
                ·
                  have c6:¬ q1.1.take 1=[34]:=(F5 _ _).1 hc11
                  have hnl:=numP_le q1.1
                  refine A8 (D8 (A0 (A1 (A2 (A3 (j:=3) [0,0,0] (k:=B8 0 0 rfl rfl (K5 Tryz.func29 (jnumber_ q1.1 (by omega) _ _) (A7 [0] [0,4,5] (k:=?_)))))))))
                  refine A0 (A1 (A1 (G_p [0,0] [0,4,5,75] (k:=A0 (C5 (b:=(numP q1.1:Int)==0) kr (fun hc12=>?_) (fun hc12=>?_))))))
                  ·
                    have c7:numP q1.1=0:=by have:=hc12; simp only [beq_iff_eq] at this; omega
                    refine A1 (A2 (A3 (j:=1) [0] (k:=C3 Tryz.func17 (jfault_ r q1 70 _ _) ?_)))
                    rintro _ _ rfl
                    refine A6 (E':=[⟨4,[],pt b1⟩]) [] [4] (k:=A0 (A1 (A2 (A3 (j:=1) [0] (k:=D5 1 0 (.agg #[.int .i64 0,.string eB,.slice none 0 0,.slice none 0 0]) rfl (A6 (E':=[⟨4,[],pt b1⟩]) [] [4] (k:=A0 (B0 ?_))))))))
                    refine A5 (E6 (H':=([(r,.cells #[.string (bk q1.1),.int .i64 ((fltR 70 q1).2)] 55 (0,0))]::[(b1,.cells #[.int .i64 0,.string eB,.slice none 0 0,.slice none 0 0] 30 (0,0))]::[]::H)) (fun w h=>Sat.flat h (List.Perm.refl _)) (F8 [.cell 4 30] [.agg #[.int .i64 0,.string eB,.slice none 0 0,.slice none 0 0]] rfl (.cons (.aq 1 0 rfl) (.nil)) rfl ⟨_,?_,fun w h=>(h.pk 1 [0,1])⟩))
                    rw [val_none hq hf c1 c2 c3 c4 c5 c6 c7]; exact ⟨_,_,JRep.atom 0 [],rfl,rfl⟩
                  ·
                    have c7:¬ numP q1.1=0:=by have:=hc12; simp only [beq_eq_false_iff_ne,ne_eq] at this; omega
                    refine A8 (A0 (A1 (A2 (A3 (j:=3) [0,0,0] (k:=B8 0 0 rfl rfl (A3 (j:=5) [0] (k:=I4 (bk q1.1) 0 (numP q1.1:Int) (fun _=>by omega) (D2 84 (x:=.string ((bk q1.1).extract 0 (Int.toNat (numP q1.1:Int)))) (y:=.string (bk (q1.1.take (numP q1.1)))) (by rw [Int.toNat_natCast,text_bk]) ?_))))))))
                    refine A3 (j:=7) [0] (k:=I1 (.agg #[.int .i64 0,.string eB,.slice none 0 0,.slice none 0 0]) (fun b13=>D5 0 0 (.agg #[.int .i64 3,.string (bk (q1.1.take (numP q1.1))),.slice none 0 0,.slice none 0 0]) rfl (A7 [] [0,4,5,6] (k:=A0 (A1 (A2 (A3 (j:=4) [0,0,0,0] (k:=B8 1 0 rfl rfl ?_))))))))
                    refine A3 (j:=6) [0] (k:=I4 (bk q1.1) (numP q1.1:Int) ((bk q1.1).size:Int) (fun _=>by omega) (A3 (j:=9) [0,0] (k:=D5 1 0 (.string ((bk q1.1).extract (Int.toNat (numP q1.1:Int)) (bk q1.1).size)) rfl (A6 (E':=[⟨4,[],pt b1⟩,⟨6,[],pt b13⟩]) [] [4,6] (k:=A0 (A1 (A2 (F1 0 0 4 rfl ?_))))))))
                    refine D5 2 0 (.agg #[.int .i64 3,.string (bk (q1.1.take (numP q1.1))),.slice none 0 0,.slice none 0 0]) rfl (A6 (E':=[⟨4,[],pt b1⟩]) [] [4] (k:=A0 (B0 (N_pkT 1 [1,1] ([(r,.cells #[.string ((bk q1.1).extract (Int.toNat (numP q1.1:Int)) (bk q1.1).size),.int .i64 q1.2] 55 (0,0))]::[(b1,.cells #[.int .i64 3,.string (bk (q1.1.take (numP q1.1))),.slice none 0 0,.slice none 0 0] 30 (0,0))]::H) (E6 (H':=([(r,.cells #[.string ((bk q1.1).extract (Int.toNat (numP q1.1:Int)) (bk q1.1).size),.int .i64 q1.2] 55 (0,0))]::[(b1,.cells #[.int .i64 3,.string (bk (q1.1.take (numP q1.1))),.slice none 0 0,.slice none 0 0] 30 (0,0))]::[]::H)) (fun w h=>Sat.flat h (List.Perm.refl _)) (F8 [.cell 4 30] [.agg #[.int .i64 3,.string (bk (q1.1.take (numP q1.1))),.slice none 0 0,.slice none 0 0]] rfl (.cons (.aq 1 0 rfl) (.nil)) rfl ⟨_,?_,fun w h=>(h.pk 1 [0,1])⟩))))))
                    rw [val_num hq hf c1 c2 c3 c4 c5 c6 c7]; exact ⟨_,_,JRep.atom 3 _,rfl,by rw [Int.toNat_natCast,ext_bk]; rfl⟩
theorem jvalue_:∀ (lv:Nat),lv≤24→∀ (d:Int),d=24 - (lv:Int)→∀ (r:Nat) (q:RdS),q.1.length≤1000000→∀ (W0:World) (H:List Grp),F2 W0→Tri Tryz.prog 15 #[pt r,.int .i64 d] W0 (rdG r q::H) (fun v H2=>∃ c g,JRep 9 30 (B2 lv q).1 c g∧v=.agg c.toArray∧H2=rdG r (B2 lv q).2::g::H)
  | 0,h,d,hd,r,q,hl,W0,H,hW=>jvalueW_ 0 d hd h r q hl (fun n hn=>absurd hn (by omega)) (fun n hn=>absurd hn (by omega)) W0 H hW
  | m+1,h,d,hd,r,q,hl,W0,H,hW=>jvalueW_ (m+1) d hd h r q hl
      (fun n hn q hl W0 H hW=>by
        obtain rfl:m=n:=by omega
        exact jmembersT_ m d (by omega) r q hl (fun q hl W0 H hW=>jvalue_ m (by omega) (d+1) (by omega) r q hl W0 H hW) W0 H hW)
      (fun n hn q hl W0 H hW=>by
        obtain rfl:m=n:=by omega
        exact jmembersF_ m d (by omega) r q hl (fun q hl W0 H hW=>jvalue_ m (by omega) (d+1) (by omega) r q hl W0 H hW) W0 H hW) W0 H hW
end Go.Proofs.YtmnihmfifpaaoaaGreatDoor
namespace Go.Sw
open Go.RowKit
theorem GL_bytesB {d:Bool} {P:Program} {ops:Array Oper} {i:Nat} {Q:B1} {n:Fr} {E:Env} {W0:World} {H:List Grp} {o:Oper} {ch:List (Nat × Bool)} {src dst e:TypeId} {x:Operand} {a:Option Addr} {cap:Nat} {S:Nat→Obj→Prop} (b:ByteArray)
    (ho:ops[i]? = some o) (hop:o.op=.convert src dst x) (hx:evO E ch x=some (.slice a b.size cap)) (hs:P.underlying src=some (.slice e)) (he:P.underlying e=some (.int .u8)) (hds:P.underlying dst=some .string)
    (hch:A9 ops E o.guard=some ch) (hd:C1 n ch o.dst=true) (hk:E2 E ch=true)
    (hrd:Rd S a (u8s b.data.toList)) (hS:∀ b o,S b o→At W0 H b o)
    (k:GL d P ops (i+1) Q n (Env.put E o.dst ch (.string b)) W0 H):GL d P ops i Q n E W0 H:=by
  cases a with
  | some a =>
    refine GL_bytesStr (cap:=cap) b.data.toList ho hop ?_ hs he hds hch hd hk hrd hS ?_
    · rw [hx,show b.data.toList.length=b.size from Array.length_toList]
    · have:(⟨b.data.toList.toArray⟩:ByteArray)=b:=by cases b; simp
      rw [this]; exact k
  | none =>
    have h0:b=ByteArray.empty:=by
      rcases hrd with h | ⟨_,_,_,_,_,h,_⟩
      · have h1:=congrArg List.length h
        unfold u8s at h1
        rw [List.length_map] at h1
        cases b with | mk d =>
        have:d=#[]:=Array.eq_empty_of_size_eq_zero (by simpa using h1)
        rw [this]; rfl
      · cases h
    refine D7 ho hch hd hk (fun r hr _ w _=>?_) k
    unfold execOp
    simp only [hop]
    rw [hr _ _ hx,h0]
    have:=run_convert_bytes_string (P:=P) w src dst e none ByteArray.empty.size cap hs he hds
    simp only [Sem.run_bind,this]
    exact ⟨rfl,rfl⟩
end Go.Sw
namespace Go.Proofs.YtmnihmfifpaaoaaGreatDoor
open Go.Sw Go.Sha Go.Esc Go.RowKit Go.Json
theorem par_long {l:List UInt8} (h:65536<l.length):parR l=(nul,72):=by unfold parR; rw [if_pos h]
theorem par_step {l:List UInt8} {e:Int} (h:¬ 65536<l.length) (he:e=if blk (B2 24 (l,0)).2.1≠[] then (fltR 70 (B2 24 (l,0)).2).2 else (B2 24 (l,0)).2.2):parR l=if e≠0 then (nul,e) else ((B2 24 (l,0)).1,0):=by
  unfold parR; rw [if_neg h,he]
theorem nil_str (l:List UInt8):((bk l).toList==eB.toList)=true ↔ l=[]:=eqB (bk l) eB
theorem nil_strF (l:List UInt8):((bk l).toList==eB.toList)=false ↔ ¬ l=[]:=eqBf (bk l) eB
theorem jparse_ (a:Option Addr) (c:Nat) (l:List UInt8) (S:Nat→Obj→Prop) (hrd:Rd S a (u8s l)) (W0:World) (H:List Grp) (hS:∀ y o,S y o→At W0 H y o) (hW:F2 W0):Tri Tryz.prog 9 #[.slice a l.length c] W0 H (fun v H2=>∃ c g,JRep 9 30 (parR l).1 c g∧v=.tuple #[.agg c.toArray,.int .i64 (parR l).2]∧H2=g::H):=by
 refine D4 36 Tryz.func9 ?_
 refine A1 (A2 (I1 (.agg #[.int .i64 0,.string eB,.slice none 0 0,.slice none 0 0]) (fun b1=>A7 [0] [0,2] (k:=A0 (A1 (A1 (G_p [0,0,0] [0,2,8] (k:=A0 ?_))))))))
 refine C5 (b:=decide (((l.length:Nat):Int) > 65536)) kr (fun hc2=>?_) (fun hc2=>?_)
 ·
  have hlen:65536<l.length:=by simp only [gt_iff_lt,decide_eq_true_eq] at hc2; omega
  refine A1 (A2 (A3 (j:=1) [0] (k:=D5 0 0 (.agg #[.int .i64 0,.string eB,.slice none 0 0,.slice none 0 0]) rfl (A6 (E':=[⟨2,[],pt b1⟩,⟨3,[],.int .i64 72⟩]) [0] [2,3] (k:=A0 (B0 (A5 (E6 (H':=([(b1,.cells #[.int .i64 0,.string eB,.slice none 0 0,.slice none 0 0] 30 (0,0))]::[]::H)) (fun w h=>Sat.flat h (List.Perm.refl _)) ?_))))))))
  refine F8 [.cell 2 30,.tmp 3] [.agg #[.int .i64 0,.string eB,.slice none 0 0,.slice none 0 0],.int .i64 72] rfl (.cons (.aq 0 0 rfl) (.cons .tq (.nil))) rfl ⟨_,?_,fun w h=>(h.pk 1 [1])⟩
  rw [par_long hlen]; exact ⟨_,_,JRep.nul,rfl,rfl⟩
 ·
  have hlen:¬ 65536<l.length:=by simp only [gt_iff_lt,decide_eq_false_iff_not] at hc2; omega
  refine A8 (A0 (A1 (A2 (A3 (j:=1) [0] (k:=GL_bytesB (i:=1) (ch:=[]) (a:=a) (cap:=c) (e:=5) (S:=S) (bk l) rfl rfl kr kr kr kr kr kr kr hrd (fun y o h=>(At.cons (hS y o h))) (A3 (j:=3) [0] (k:=G4 (.agg #[.string (bk l),.int .i64 0]) (fun b3=>A6 (E':=[⟨2,[],pt b1⟩,⟨4,[],pt b3⟩]) [0] [2,4] (k:=?_)))))))))
  refine A0 (A1 (A2 (A3 (j:=1) [0] (k:=C3 (vs:=[pt b3,.int .i64 0]) Tryz.func15 (jvalue_ 24 (Nat.le_refl _) 0 (by decide) b3 (l,0) (by show l.length≤_; omega) _ _ hW) ?_))))
  rintro _ _ ⟨vc4,gv4,hJ4,rfl,rfl⟩
  obtain ⟨vk4,vt4,van4,vn4,vcn4,val4,vm4,vcl4,rfl⟩:=hJ4.shape
  refine I1 (.agg #[.int .i64 0,.string eB,.slice none 0 0,.slice none 0 0]) (fun b5=>D5 0 0 (.agg #[.int .i64 vk4,.string vt4,.slice van4 vn4 vcn4,.slice val4 vm4 vcl4]) rfl (A7 [] [2,4,5] (k:=A0 (A1 (A2 (A3 (j:=1) [0] (k:=J6 0 [1] (C3 Tryz.func16 (I6 b3 ((B2 24 (l,0)).2)  _ _) ?_))))))))
  rintro _ _ rfl
  refine A7 [] [2,4,5] (k:=A0 (A1 (A1 (A2 (A3 (j:=3) [0,0,0] (k:=B8 0 0 rfl rfl (A7 [0] [2,4,5,22] (k:=A0 ?_))))))))
  refine G_join (T:=RdS) (fun ξ:RdS=>[⟨2,[],pt b1⟩,⟨4,[],pt b3⟩,⟨5,[],pt b5⟩]) (fun ξ:RdS=>([(b3,.cells #[.string (bk ξ.1),.int .i64 ξ.2] 55 (0,0))]::[(b5,.cells #[.int .i64 vk4,.string vt4,.slice van4 vn4 vcn4,.slice val4 vm4 vcl4] 30 (0,0))]::gv4::[(b1,.cells #[.int .i64 0,.string eB,.slice none 0 0,.slice none 0 0] 30 (0,0))]::H)) (fun ξ:RdS=>(ξ.2=if blk (B2 24 (l,0)).2.1≠[] then (fltR 70 (B2 24 (l,0)).2).2 else (B2 24 (l,0)).2.2)) ?_ ?_
  ·
   refine C5 (b:=!((bk (A4 ((B2 24 (l,0)).2)).1).toList==eB.toList)) kr (fun hc6=>?_) (fun hc6=>?_)
   ·
    have hb0:((bk (A4 (B2 24 (l,0)).2).1).toList==eB.toList)=false:=by simpa only [Bool.not_eq_true'] using hc6
    have hb:blk (B2 24 (l,0)).2.1≠[]:=(nil_strF _).1 hb0
    refine A2 (A3 (j:=1) [0] (k:=C3 Tryz.func17 (jfault_ b3 (A4 ((B2 24 (l,0)).2)) 70 _ _) ?_))
    rintro _ _ rfl
    refine A7 [] [2,4,5] (k:=H8 ((fltR 70 (A4 ((B2 24 (l,0)).2)))) [2,4,5] kr (fun w h=>h) (by first | exact (if_pos hb).symm | exact (if_neg (fun hn=>hn hb)).symm))
   ·
    have hb0:((bk (A4 (B2 24 (l,0)).2).1).toList==eB.toList)=true:=by simpa only [Bool.not_eq_false'] using hc6
    have hb:blk (B2 24 (l,0)).2.1=[]:=(nil_str _).1 hb0
    refine A8 (H8 ((A4 ((B2 24 (l,0)).2))) [2,4,5] kr (fun w h=>h) (by first | exact (if_pos hb).symm | exact (if_neg (fun hn=>hn hb)).symm))
  ·
   rintro q2 hq2
   refine A0 (A1 (A1 (A2 (A3 (j:=3) [0,0,0] (k:=B8 0 1 rfl rfl (A7 [0] [2,4,5,29] (k:=A0 (C5 (b:=q2.2 != 0) kr (fun hc7=>?_) (fun hc7=>?_)))))))))
   ·
    have he:q2.2≠0:=by simpa using hc7
    have hP:parR l=(nul,q2.2):=by rw [par_step hlen hq2,if_pos he]
    refine A1 (H9 ([(b3,.cells #[.string (bk q2.1),.int .i64 q2.2] 55 (0,0))]::[(b5,.cells #[.int .i64 vk4,.string vt4,.slice van4 vn4 vcn4,.slice val4 vm4 vcl4] 30 (0,0))]::gv4::[(b1,.cells #[.int .i64 0,.string eB,.slice none 0 0,.slice none 0 0] 30 (0,0))]::H) kr (GH_p (fuel:=5) [(0,0),(1,0)] (fun w h=>h) (k:=GH_nil (ad:=⟨b3,0,none⟩) 2 (hL:=(fun w h=>h)) (k:=GH_p (fuel:=3) [(3,0)] (fun w h=>h) (k:=I7 4 kr (fun w h=>h) (B8 0 1 rfl rfl (J5 kr rfl)) (C9 5 (k:=D5 3 0 (.agg #[.int .i64 0,.string eB,.slice none 0 0,.slice none 0 0]) rfl (B9 kr (fun w h=>h.pkT 0 []) ?_))))))))
    refine GH_p (fuel:=0) [(6,0)] (fun w h=>h.pkT 0 []) (k:=G6 (E':=[⟨2,[],pt b1⟩,⟨3,[],.int .i64 q2.2⟩]) [2,3] (k:=A0 (B0 (A5 (N_pkT 3 [3] ([(b1,.cells #[.int .i64 0,.string eB,.slice none 0 0,.slice none 0 0] 30 (0,0))]::H) (E6 (H':=([(b1,.cells #[.int .i64 0,.string eB,.slice none 0 0,.slice none 0 0] 30 (0,0))]::[]::H)) (fun w h=>Sat.flat h (List.Perm.refl _)) (F8 [.cell 2 30,.tmp 3] [.agg #[.int .i64 0,.string eB,.slice none 0 0,.slice none 0 0],.int .i64 q2.2] rfl (.cons (.aq 0 0 rfl) (.cons .tq (.nil))) rfl ⟨_,?_,fun w h=>(h.pk 1 [1])⟩)))))))
    rw [hP]; exact ⟨_,_,JRep.nul,rfl,rfl⟩
   ·
    have he:q2.2=0:=by simpa using hc7
    have hP:parR l=((B2 24 (l,0)).1,0):=by rw [par_step hlen hq2,if_neg (fun hn=>hn he)]
    refine A8 (A0 (A1 (A2 (F1 1 0 4 rfl (D5 3 0 (.agg #[.int .i64 vk4,.string vt4,.slice van4 vn4 vcn4,.slice val4 vm4 vcl4]) rfl (A6 (E':=[⟨2,[],pt b1⟩,⟨3,[],.int .i64 0⟩]) [0] [2,3] (k:=A0 (B0 ?_))))))))
    refine N_pkT 2 [3,2] ([(b1,.cells #[.int .i64 vk4,.string vt4,.slice van4 vn4 vcn4,.slice val4 vm4 vcl4] 30 (0,0))]::gv4::H) (E6 (H':=([(b1,.cells #[.int .i64 vk4,.string vt4,.slice van4 vn4 vcn4,.slice val4 vm4 vcl4] 30 (0,0))]::gv4::H)) (fun w h=>Sat.flat h (List.Perm.refl _)) (F8 [.cell 2 30,.tmp 3] [.agg #[.int .i64 vk4,.string vt4,.slice van4 vn4 vcn4,.slice val4 vm4 vcl4],.int .i64 0] rfl (.cons (.aq 0 0 rfl) (.cons .tq (.nil))) rfl ⟨_,?_,fun w h=>(h.pk 1 [1])⟩))
    rw [hP]; exact ⟨_,_,hJ4,rfl,rfl⟩
end Go.Proofs.YtmnihmfifpaaoaaGreatDoor
namespace Go.Esc
open Go.Lib Go.Sw
theorem enc_byte {p:Int} (h:isR p):(p≤127∧encodeRune p=[p.toNat.toUInt8])∨(128≤p∧∀ b∈encodeRune p,128≤b.toNat):=by
  unfold isR at h
  by_cases h1:p≤127
  · exact .inl ⟨h1,enc_one h.1 h1⟩
  refine .inr ⟨by omega,fun b hb=>?_⟩
  unfold encodeRune at hb
  obtain ⟨x,hx,rfl⟩:=List.mem_map.1 hb
  have hr:=encodeRuneZ_byte p x hx
  rw [byteZ x hr.1 hr.2]
  unfold encodeRuneZ at hx
  rw [if_neg (by omega)] at hx
  split at hx
  · simp only [List.mem_cons,List.not_mem_nil,or_false] at hx; omega
  split at hx
  · simp only [List.mem_cons,List.not_mem_nil,or_false] at hx; omega
  split at hx
  · simp only [List.mem_cons,List.not_mem_nil,or_false] at hx; omega
  · simp only [List.mem_cons,List.not_mem_nil,or_false] at hx; omega
theorem u8_ne {p:Int} (h0:0≤p) (h1:p≤127) {c:Nat} (hc:c<256) (h:p≠(c:Int)):p.toNat.toUInt8≠UInt8.ofNat c:=by
  intro he
  have:=congrArg UInt8.toNat he
  rw [byteZ p h0 (by omega)] at this
  simp [UInt8.toNat_ofNat',Nat.mod_eq_of_lt hc] at this
  omega
theorem enc_no {p:Int} (h:isR p) {c:Nat} (hc:c<128) (hp:p≠(c:Int)):∀ b∈encodeRune p,b≠UInt8.ofNat c:=by
  intro b hb
  rcases enc_byte h with ⟨h1,he⟩ | ⟨h1,he⟩
  · rw [he] at hb
    obtain rfl:=List.mem_singleton.1 hb
    exact u8_ne h.1 h1 (by omega) hp
  · have:=he b hb
    intro hx; rw [hx] at this
    simp [UInt8.toNat_ofNat',Nat.mod_eq_of_lt (show c<256 by omega)] at this
    omega
end Go.Esc
namespace Go.Json
open Go.Lib Go.Esc
def getM (name:List UInt8):List (List UInt8)→List JV→Option JV
  | n::ns,v::l=>match getM name ns l with
    | some x=>some x
    | none=>if n=name then some v else none
  | _,_=>none
theorem getM_snoc (name n:List UInt8) (v:JV):∀ (ns:List (List UInt8)) (l:List JV),ns.length=l.length→getM name (ns++[n]) (l++[v])=if n=name then some v else getM name ns l
  | [],[],_=>by simp [getM]
  | [],_::_,h=>by simp at h
  | _::_,[],h=>by simp at h
  | m::ns,x::l,h=>by
    simp only [List.length_cons,Nat.add_right_cancel_iff] at h
    rw [List.cons_append,List.cons_append,getM,getM_snoc name n v ns l h,getM]
    by_cases hn:n=name
    · rw [if_pos hn,if_pos hn]
    · rw [if_neg hn,if_neg hn]
theorem getM_take (name:List UInt8):∀ (ns:List (List UInt8)) (l:List JV),getM name ns l=getM name (ns.take (min ns.length l.length)) (l.take (min ns.length l.length))
  | [],_=>by simp [getM]
  | _::_,[]=>by simp [getM]
  | n::ns,v::l=>by
    have e:min (n::ns).length (v::l).length=min ns.length l.length+1:=by rw [List.length_cons,List.length_cons]; omega
    rw [e,List.take_succ_cons,List.take_succ_cons,getM,getM,← getM_take name ns l]
theorem getM_step (name:List UInt8) {ns:List (List UInt8)} {l:List JV} {k:Nat} (hk:k<ns.length) (hl:k<l.length):getM name (ns.take (k+1)) (l.take (k+1))=if ns[k]=name then some l[k] else getM name (ns.take k) (l.take k):=by
  rw [List.take_succ_eq_append_getElem hk,List.take_succ_eq_append_getElem hl]
  exact getM_snoc name _ _ _ _ (by rw [List.length_take,List.length_take]; omega)
def getP (v:JV) (name:List UInt8):Option JV:=if v.kind=6 then getM name v.names v.list else none
end Go.Json
namespace Go.Json
open Go.Lib Go.Esc
mutual
def cnJ:JV→Nat
  | .mk _ _ ns l=>1+ns.length+cnL l
def cnL:List JV→Nat
  | []=>0
  | v::l=>cnJ v+cnL l
end
theorem cnJ_eq (k:Int) (t:List UInt8) (ns:List (List UInt8)) (l:List JV):cnJ (.mk k t ns l)=1+ns.length+cnL l:=by simp only [cnJ]
theorem cnJ_pr (x:JV):cnJ x=1+x.names.length+cnL x.list:=by cases x; exact cnJ_eq _ _ _ _
theorem cnL_cons (v:JV) (l:List JV):cnL (v::l)=cnJ v+cnL l:=by simp only [cnL]
theorem cnJ_pos (v:JV):0<cnJ v:=by rw [cnJ_pr]; omega
theorem cnL_len:∀ l:List JV,l.length≤cnL l
  | []=>Nat.zero_le _
  | v::l=>by have:=cnL_len l; have:=cnJ_pos v; rw [cnL_cons,List.length_cons]; omega
theorem cn_lens (x:JV):x.names.length+x.list.length<cnJ x:=by
  have:=cnL_len x.list
  rw [cnJ_pr]; omega
end Go.Json
namespace Go.Json
open Go.Lib Go.Esc Go.Sw
abbrev jvC (x:JV) (an:Option Addr) (cn:Nat) (al:Option Addr) (cl:Nat):List Value:=[.int .i64 x.kind,.string (bk x.text),.slice an x.names.length cn,.slice al x.list.length cl]
theorem JRdL.get {S:Nat→Obj→Prop} {l:List JV} {cs:List Value} {k:Nat} (h:k<l.length) (hc:JRdL S l cs):∃ (x:JV) (an:Option Addr) (cn:Nat) (al:Option Addr) (cl:Nat) (cs2:List Value),x=l[k]∧(cs.drop (k * 4)).take 4=jvC x an cn al cl∧Rd S an (strV x.names)∧Rd S al cs2∧JRdL S x.list cs2:=by
  obtain ⟨an,al,cn,cl,cs2,h1,h2,h3,h4⟩:=(JRdL.at h hc).shape
  exact ⟨l[k],an,cn,al,cl,cs2,rfl,h1,h2,h3,h4⟩
theorem elt4 {cs l:List Value} {q:Nat} (h:(cs.drop q).take 4=l):∀ m (hm:m<l.length),cs[q+m]? = some l[m]:=by
  intro m hm
  subst h
  have h4:m<4:=by rw [List.length_take] at hm; omega
  rw [← List.getElem?_eq_getElem hm,List.getElem?_take_of_lt h4,List.getElem?_drop]
end Go.Json
namespace Go.Proofs.YtmnihmfifpaaoaaGreatDoor
open Go.Sw Go.Sha Go.Esc Go.RowKit Go.Json
theorem _root_.Go.Json.JRdL.ne {S:Nat→Obj→Prop} {l:List JV} {cs:List Value} {k:Nat} (hc:JRdL S l cs) (h:k<l.length):cs≠[]:=by
  intro h0; have:=hc.len; rw [h0,List.length_nil] at this; omega
end Go.Proofs.YtmnihmfifpaaoaaGreatDoor
namespace Go.Proofs.YtmnihmfifpaaoaaGreatDoor
open Go.Sw Go.Sha Go.Esc Go.RowKit Go.Json
theorem strV_elt {ns:List (List UInt8)} {k:Nat} {y:List UInt8} (h:k<ns.length) (hy:y=ns[k]):(strV ns)[k * 1]? = some (.string (bk y)):=by rw [Nat.mul_one,hy]; exact strV_at h
theorem strV_ne {ns:List (List UInt8)} {k:Nat} (h:k<ns.length):strV ns≠[]:=by
  intro h0; have:=congrArg List.length h0; rw [strV_len,List.length_nil] at this; omega
end Go.Proofs.YtmnihmfifpaaoaaGreatDoor
namespace Go.Sw
open Go.RowKit
abbrev RF (r:Nat):Fence:=Fence.wide.inRound r
theorem upon_in {P:Program} {o:Oper} {a:Act} {next next':Act→World→Prop} {Q:B1} {r n:Nat} (hn:∀ a w,next a w→next' a w) {x:Result Next}
    (h:o.upon P a next Q x):o.uponIn (RF r) n P a next' Q x:=by
  cases x with
  | ok v w =>
    cases v with
    | value v=>exact hn _ _ h
    | skip=>exact hn _ _ h
    | defer d=>exact hn _ _ h
    | enter f args =>
      refine ⟨fun e=>(by cases e),?_⟩
      have h1:CallsIn (RF r) (n - 1) P f args w _:=(callsIn_wide (n:=n - 1)).2 h
      refine h1.mono (fun e w' he=>?_)
      cases e with
      | returned v=>exact hn _ _ he
      | panicked c=>exact he
      | outgrown=>exact he
    | row row args =>
      refine ⟨fun e=>(by cases e),fun c cs _=>?_⟩
      obtain ⟨v,w',hv,hst⟩:=h c cs
      exact ⟨v,w',hn _ _ hv,stepsIn_wide.2 hst⟩
    | _=>exact absurd h (by intro h; exact h)
  | halt s w=>cases s with
    | panic v=>exact h
    | _=>exact absurd h (by intro h; exact h)
def noDefer (l:List Oper):Bool:=l.all fun o=>match o.op with | .defer _=>false | _=>true
theorem list_in {P:Program} {ops:Array Oper} {Q:B1} {r n:Nat} (hLO:∀ a w,¬ Q .outgrown a w):∀ (l:List Oper),noDefer l=true→∀ a w,wpList P ops Q l a w→wpListIn (RF r) n P ops Q l a w
  | [],_,_,_,h=>h
  | o::l,hd,a,w,h=>by
    simp only [noDefer,List.all_cons,Bool.and_eq_true] at hd
    have ih:=list_in (n:=n) (r:=r) (P:=P) (ops:=ops) (Q:=Q) hLO l hd.2
    unfold wpList at h
    unfold wpListIn
    by_cases hw:Region.wanted o (yielded ops a.tmps)=true
    · rw [if_pos hw] at h ⊢
      rcases h with h | ⟨_,a0,w0,hq⟩
      · refine ⟨fun _ _=>trivial,?_⟩
        rw [show Oper.semAt (RF r).round a.eval o=execOp a.eval o from Oper.semAt_some r _ _ (fun c e=>by have h1:=hd.1; rw [e] at h1; exact Bool.noConfusion h1)]
        exact upon_in ih h
      · exact absurd hq (hLO _ _)
    · rw [if_neg hw] at h ⊢
      exact ⟨fun _ _=>trivial,ih _ _ h⟩
def GR (r m:Nat) (P:Program) (c:Code) (Q:B1) (n:Fr) (E:Env) (W0:World) (H:List Grp):Prop :=
  ∀ a w,Ag n E a→Sat W0 H w→c.wpIn (RF r) m P Q a w
section
variable {r m : Nat} {P : Program} {Q : B1} {n : Fr} {E : Env} {W0 : World} {H : List Grp}
theorem GR_region {id:Nat} {ops:Array Oper} (hd:noDefer ops.toList=true:=by exact rfl) (hLO:∀ a w,¬ Q .outgrown a w) (k:GL false P ops 0 Q n E W0 H):GR r m P (.region id ops false) Q n E W0 H :=
  fun a w ha hs=>wpIn_region_list (list_in hLO _ hd _ _ (by have:=k a w ha hs; simpa using this))
theorem GR_seq {x y:Code} (k:GR r m P x (Exit.then (y.wpIn (RF r) m P Q) Q) n E W0 H):GR r m P (.seq x y) Q n E W0 H:=fun a w ha hs=>wpIn_seq (k a w ha hs)
theorem NR_then {y:Code} (k:GR r m P y Q n E W0 H):N (Exit.then (y.wpIn (RF r) m P Q) Q) .normal n E W0 H:=k
theorem GR_block {id:Nat} {c:Code} (k:GR r m P c (Exit.inBlock id Q) n E W0 H):GR r m P (.block id c) Q n E W0 H:=fun a w ha hs=>wpIn_block (k a w ha hs)
theorem GR_skip (k:N Q .normal n E W0 H):GR r m P .skip Q n E W0 H:=fun a w ha hs=>wpIn_skip (k a w ha hs)
theorem GR_ret (k:N Q .ret n E W0 H):GR r m P .ret Q n E W0 H:=fun a w ha hs=>wpIn_ret (k a w ha hs)
theorem GR_cond {c:Operand} {x y:Code} {b:Bool}
    (hc:evO E [] c=some (.bool b)) (ht:b=true→GR r m P x Q n E W0 H) (hf:b=false→GR r m P y Q n E W0 H):GR r m P (.cond c x y) Q n E W0 H :=
  fun a w ha hs=>wpIn_cond_split (ha.eval hc) (fun h=>ht h a w ha hs) (fun h=>hf h a w ha hs)
end
def KeepG (K:List Grp) (W W':World):Prop:=∀ p,p∈K.flatten→W.heap[p.1]? = some p.2→W'.heap[p.1]? = some p.2
def putAll:List (Nat × Value)→List Sl→List Sl
  | [],E=>E
  | (t,v)::r,E=>putAll r (Env.put E (some t) [] v)
theorem Ag.puts {n:Fr}:∀ (l:List (Nat × Value)) {E:Env} {a:Act},Ag n E a→(∀ p,p∈l→p.1<n.k)→Ag n (putAll l E) { a with tmps:=l.foldl (fun t p=>t.setIfInBounds p.1 p.2) a.tmps }
  | [],_,_,h,_=>h
  | (t,v)::r,E,a,h,hl=>by
    obtain ⟨β,hβ,hat⟩:=h.at_
    have h1:=h.put hβ hat (d:=some t) (ch:=[]) (by simp [C1,freeOf]; exact hl (t,v) List.mem_cons_self) v
    exact Ag.puts r h1 (fun p hp=>hl p (List.mem_cons_of_mem _ hp))
def Calm0 (H H':List Grp):Prop:=∀ p,p∈H'.flatten→p.2.isCells=true∨p∈H.flatten
theorem Sat.lt {W0:World} {H:List Grp} {w:World} (h:Sat W0 H w) {p:Nat × Obj} (hp:p∈H.flatten):p.1<w.heap.size:=(Array.getElem?_eq_some_iff.1 (h.has p hp)).1
theorem Sat.grown {W0:World} {H':List Grp} {W W':World} {row:Option Nat} (h:Sat W0 H' W) (hg:W.grownBy W' row)
    (hr:∀ r,row=some r→W0.heap.size≤r∧∀ p,p∈H'.flatten→p.1≠r):Sat W0 H' W':=by
  refine ⟨h.below.grown hg h.below.size (fun k e=>(hr k e).1),h.nodup,fun p hp=>?_,h.high⟩
  rw [hg.block p.1 (h.lt hp) (fun e=>(hr _ e.symm).2 p hp rfl)]
  exact h.has p hp
theorem putObj_wr {w:World} {b:Nat} {o o':Obj} (h:w.heap[b]? = some o):Wr b o' w (w.putObj b o') :=
  ⟨rfl,rfl,rfl,by simp,World.putObj_heap_same (Array.getElem?_eq_some_iff.1 h).1,fun _ hk=>World.putObj_heap_other hk⟩
theorem Sat.put0 {W0:World} {H:List Grp} {w:World} {b:Nat} {o:Obj} (h:Sat W0 ([(b,o)]::H) w) (o':Obj):Sat W0 ([(b,o')]::H) (w.putObj b o') :=
  h.wr (j:=0) (i:=0) rfl rfl (putObj_wr (h.has (b,o) (by simp)))
theorem ds_none {n:Fr} (h:n.dl=[]):n.ds=[]:=by unfold Fr.ds; rw [h]
def BodyM (P:Program) (fn:Func) (W0:World) (R:Value→List Grp→Prop):B1 :=
  bodyPostM Fence.wide 9 P fn fun e w'=>∃ v H',e=.returned v∧R v H'∧Sat W0 H' w'
theorem Tri_ofM {P:Program} {f:FuncId} {fn:Func} {c:Code} {args:List Value} {n:Fr} {W0:World} {H:List Grp} {R:Value→List Grp→Prop}
    (hf:P.funcs[f]? = some fn) (hb:fn.body=some c) (hn:fn.ntmps=n.k) (hle:args.length≤n.k)
    (k:G P c (BodyM P fn W0 R) n (argEnv 0 args) W0 H) (hz:n.dl=[]:=by rfl):Tri P f args.toArray W0 H R:=by
  intro w hs
  refine callsIn_wide.1 (callsIn_of_wp_marks (F:=Fence.wide) (n:=9) hf hb trivial ((wpIn_wide (n:=9)).2 (k _ w ?_ hs)) rfl)
  refine ⟨by unfold Fr.ds; rw [hz],by simp [hn]; omega,fun u w=>match args[u]? with | some v=>J0 v==some w | none=>false,?_,?_⟩
  · intro s hs w
    obtain ⟨h1,h2,h3⟩:=K4 args 0 s hs
    simp only [Nat.sub_zero] at h3
    simp only [h3]
  · intro s hs
    obtain ⟨h1,h2,h3⟩:=K4 args 0 s hs
    simp only [Nat.sub_zero] at h3
    rw [h1]
    simp only [chT,List.all_nil,if_true]
    have hlt:s.t<args.length:=by
      rcases Nat.lt_or_ge s.t args.length with h | h
      · exact h
      · simp [List.getElem?_eq_none h] at h3
    rw [Array.getElem?_append_left (by simpa using hlt)]
    simpa using h3
theorem results_run {P:Program} {fn:Func} {E:Env} {W0:World} {H:List Grp} {n:Fr} {a:Act} {w:World} (ha:Ag n E a) (hs:Sat W0 H w) {rs:List ResultVar} {l:List Value}
    (hr:fn.results=rs.toArray) (h:RVs P E W0 H rs l):(results fn a.tmps).run P w=.ok (packV l) w:=by
  have e2:=h.run (P:=P) ha hs
  have e3:((rs.toArray).mapM (resOne a.tmps)).run P w=.ok l.toArray w:=by
    rw [Array.mapM_eq_mapM_toList,Sem.run_map,e2]; rfl
  rw [results_eq,hr,Sem.run_bind,e3]
  simp only [Result.andThen_ok,Sem.run_pure]
  congr 1
  cases l with
  | nil=>rfl
  | cons v l=>cases l with
    | nil=>rfl
    | cons u l=>simp [packV]
theorem N_retM {P:Program} {fn:Func} {n:Fr} {E:Env} {W0:World} {H:List Grp} {R:Value→List Grp→Prop} {x:Exit} {D:Nat} (rs:List ResultVar) (l:List Value)
    (hm:n.dl=mkD D) (hr:fn.results=rs.toArray) (h:RVs P E W0 H rs l) (hx:(match x with | .normal=>true | .ret=>true | _=>false)=true)
    (k:∃ H',R (packV l) H'∧∀ w,Sat W0 H w→Sat W0 H' w):N (BodyM P fn W0 R) x n E W0 ([(D,.deferred (some []))]::H):=by
  intro a w ha hs
  obtain ⟨H',hR,hH⟩:=k
  have h1:a.defers=[{ target:=.collected D,args:=#[] }]:=by rw [ha.defers]; unfold Fr.ds; rw [hm]
  have hs2:=(hs.put0 (.deferred none)).tail
  have key:LeavesInM Fence.wide 9 P fn a.tmps (fun e w'=>∃ v H',e=.returned v∧R v H'∧Sat W0 H' w') a.defers .returning w:=by
    rw [h1]
    exact ⟨by simp,.inl ⟨D,_,rfl,run_takeDeferred (hs.has (D,_) (by simp)),_,results_run ha hs2 hr h,packV l,H',rfl,hR,hH _ hs2⟩⟩
  cases x <;> simp at hx
  · exact key
  · exact key
theorem N_retM0 {P:Program} {fn:Func} {n:Fr} {E:Env} {W0:World} {H:List Grp} {R:Value→List Grp→Prop} {x:Exit} (rs:List ResultVar) (l:List Value)
    (hr:fn.results=rs.toArray) (h:RVs P E W0 H rs l) (hx:(match x with | .normal=>true | .ret=>true | _=>false)=true)
    (k:∃ H',R (packV l) H'∧∀ w,Sat W0 H w→Sat W0 H' w) (hz:n.dl=[]:=by rfl):N (BodyM P fn W0 R) x n E W0 H:=by
  intro a w ha hs
  obtain ⟨H',hR,hH⟩:=k
  have h1:a.defers=[]:=by rw [ha.defers]; unfold Fr.ds; rw [hz]
  have key:LeavesInM Fence.wide 9 P fn a.tmps (fun e w'=>∃ v H',e=.returned v∧R v H'∧Sat W0 H' w') a.defers .returning w:=by
    rw [h1]
    exact ⟨_,results_run ha hs hr h,packV l,H',rfl,hR,hH _ hs⟩
  cases x <;> simp at hx
  · exact key
  · exact key
end Go.Sw
namespace Go.Sw
open Go.RowKit
theorem op_in {P:Program} {ops:Array Oper} {Q:B1} {r n:Nat} (hLO:∀ a w,¬ Q .outgrown a w) (hd:noDefer ops.toList=true) {i:Nat} {K K':Act→World→Prop} (hK:∀ a w,K a w→K' a w) {a:Act} {w:World}
    (h:wpOp P ops Q i K a w):wpOpIn (RF r) n P ops Q i K' a w:=by
  unfold wpOp at h
  unfold wpOpIn
  cases ho:ops[i]? with
  | none=>rw [ho] at h; exact hK _ _ h
  | some o =>
    rw [ho] at h
    dsimp only at h ⊢
    by_cases hw:Region.wanted o (yielded ops a.tmps)=true
    · rw [if_pos hw] at h ⊢
      rcases h with h | ⟨_,a0,w0,hq⟩
      · refine ⟨fun _ _=>trivial,?_⟩
        have hm:o∈ops.toList:=by
          obtain ⟨h1,h2⟩:=Array.getElem?_eq_some_iff.1 ho
          rw [← h2]; exact Array.getElem_mem_toList h1
        have h1:=List.all_eq_true.1 hd o hm
        rw [show Oper.semAt (RF r).round a.eval o=execOp a.eval o from Oper.semAt_some r _ _ (fun c e=>by rw [e] at h1; exact Bool.noConfusion h1)]
        exact upon_in hK h
      · exact absurd hq (hLO _ _)
    · rw [if_neg hw] at h ⊢
      exact ⟨fun _ _=>trivial,hK _ _ h⟩
theorem any_in {P:Program} {ops:Array Oper} {Q:B1} {r n:Nat} (hLO:∀ a w,¬ Q .outgrown a w) (hd:noDefer ops.toList=true):∀ (fuel:Nat) (listed:Array Bool) (a:Act) (w:World),wpAny P .any ops Q fuel listed a w→wpAnyIn (RF r) n P .any ops Q fuel listed a w
  | 0,_,_,_,h=>h
  | fuel+1,_,_,_,h=>⟨h.1,fun i hi=>op_in hLO hd (fun _ _ h=>any_in hLO hd fuel _ _ _ h) (h.2 i hi)⟩
theorem GR_regionD {r m:Nat} {P:Program} {Q:B1} {n:Fr} {E:Env} {W0:World} {H:List Grp} {id:Nat} {ops:Array Oper} (hm:P.follows .mixedOrders=true) (hB:Region.lexB .any ops=true) (hd:noDefer ops.toList=true) (hLO:∀ a w,¬ Q .outgrown a w)
    (k:GL true P ops 0 Q n E W0 H):GR r m P (.region id ops true) Q n E W0 H:=by
  intro a w ha hs
  have h:wpQuiet P ops (Sat W0 H) (fun a'=>∀ w',Sat W0 H w'→Q .normal a' w') ops.toList a:=by have:=k a ha; simpa using this
  simp only [Region.lexB,Bool.and_eq_true] at hB
  refine wpIn_region_any hm (any_in hLO hd _ _ _ _ (wpAny_of_quiet (Q:=fun a'=>∀ w',Sat W0 H w'→Q .normal a' w') (fun _ w' hw' h=>h w' hw') _ _ _ _ hs.drew ?_))
  have:=wpAnyQ_lex (C:=Sat W0 H) (md:=.any) hB.1 ops.toList 0 (Array.replicate ops.size false) a (by simp) (by simpa using hB.2) h
  simpa using this
def KeepB (W0:World) (K:List Grp) (W W':World):Prop:=KeepG K W W'∧∀ b o,b<W0.heap.size→W0.heap[b]? = some o→W'.heap[b]? = some o
def RQ2 {α:Type} (W0:World) (L:Grp) (D:Grp) (I:List α→Prop) (HI:List α→List Grp) (X:Code→List α→List Grp→Prop) (xs:List α):B1
  | .normal,_,w=>I xs∧Sat W0 (L::D::HI xs) w
  | .ret,_,w=>∃ H',X .ret xs H'∧Sat W0 (L::D::H') w
  | .exit id,_,w=>∃ H',X (.exit id) xs H'∧Sat W0 (L::D::H') w
  | _,_,_=>False
theorem G_rangeFunc2 {P:Program} {g:Operand} {ps:Array Tmp} {assign body:Code} {Q:B1} {n:Fr} {E:Env} {W0:World} {H:List Grp} {α β:Type} {gf:Nat} {lb:Array Value} {encs:α→Array Value} {S Sp:List α→Prop} {N0:Nat}
    (hz:n.dl=[]) (hg:evO E [] g=some (.func (.func gf) #[] lb)) (eg:∀ args w,(callFunc gf args).run P w=.ok (.enter gf args) w)
    (Kg:List Grp) (_:∀ p,p∈Kg.flatten→p∈H.flatten) (hseq:∀ w,Sat W0 H w→SeqStopsK Fence.wide 8 P gf lb encs (KeepB W0 Kg) S Sp N0 w)
    (HI:List α→List Grp) (X:Code→List α→List Grp→Prop) (h0:HI []=H) (I:List α→Prop) (hI0:I []) (hKI:∀ xs p,p∈Kg.flatten→p∈(HI xs).flatten)
    (hid:∀ xs,Calm0 H (HI xs)) (hidx:∀ c xs H',X c xs H'→Calm0 H H')
    (hps:∀ x,(encs x).size=ps.size) (hpn:∀ t,t∈ps→t<n.k) (EI:α→β→Env) (HA:α→β→List α→List Grp)
    (hassign:∀ r L D pre x,I pre→GR r 7 P assign (fun e a w=>e=.normal∧∃ y:β,Ag n (EI x y) a∧Sat W0 (L::D::HA x y pre) w) n (putAll (ps.zip (encs x)).toList E) W0 (L::D::HI pre))
    (hbody:∀ r L D pre x y,pre.length<N0→I pre→GR r 7 P body (RQ2 W0 L D I HI X (pre++[x])) n (EI x y) W0 (L::D::HA x y pre))
    (hdone:∀ D xs,S xs→I xs→N Q .normal ⟨n.k,mkD D⟩ E W0 ([(D,.deferred (some []))]::HI xs))
    (hstop:∀ D c pre H',Sp pre→X c pre H'→G P c Q ⟨n.k,mkD D⟩ E W0 ([(D,.deferred (some []))]::H')) :
    G P (.rangeFunc g ps assign body) Q n E W0 H:=by
  intro a w ha hs
  refine (wpIn_wide (n:=9)).1 (wpIn_rangeFunc fun fn hfn=>?_)
  obtain ⟨rec,hrec⟩:∃ rec:LoopState→Option Code→Loop,rec=fun st pe=>{ state:=st,pending:=pe,fn,tmps:=a.tmps,params:=ps,assign,body,defers:=w.heap.size }:=⟨_,rfl⟩
  obtain ⟨l,hl⟩:∃ l,l=w.heap.size+1:=⟨_,rfl⟩
  have hs0:Sat W0 ([(w.heap.size,.deferred (some []))]::H) (w.alloc (.deferred (some []))):=hs.new rfl rfl rfl rfl
  obtain ⟨W1,hW1⟩:∃ W1,(w.alloc (.deferred (some []))).alloc (.loop (rec .ready none))=W1:=⟨_,rfl⟩
  have hs1:Sat W0 ([(l,.loop (rec .ready none))]::[(w.heap.size,.deferred (some []))]::H) W1:=by
    have h1:Sat W0 ([((w.alloc (.deferred (some []))).heap.size,.loop (rec .ready none))]::[(w.heap.size,.deferred (some []))]::H) W1:=hs0.new (by rw [← hW1]; rfl) (by rw [← hW1]; rfl) (by rw [← hW1]; rfl) (by rw [← hW1]; rfl)
    rwa [show (w.alloc (.deferred (some []))).heap.size=l by rw [World.size_alloc,hl]] at h1
  have hsz:W1.heap.size=w.heap.size+2:=by rw [← hW1]; simp
  have hbel:Below w.heap.size w W1:=by rw [← hW1]; exact ((Below.refl _ w).alloc (Nat.le_refl _) _).alloc (by simp) _
  have hlow:∀ {H':List Grp} {D:List Grp},Calm0 H H'→(∀ p,p∈D.flatten→p.1<w.heap.size+2)→∀ {W:World} {r:Nat},Sat W0 (D++H') W→w.heap.size+2≤r→(∃ o:Obj,W.heap[r]? = some o∧o.isWalk=true) →
      ∀ p,p∈(D++H').flatten→p.1≠r:=by
    intro H' D hc hD W r hS hr ⟨o,ho,hw⟩ p hp e
    have hp':=hS.has p hp
    rw [List.flatten_append,List.mem_append] at hp
    rcases hp with hp | hp
    · have:=hD p hp; omega
    · rcases hc p hp with h | h
      · rw [e,ho] at hp'
        injection hp' with hp'
        rw [← hp',Obj.not_cells_of_walk hw] at h
        exact absurd h (by decide)
      · have:=hs.lt h; omega
  have hDD:∀ (x:Obj) (y:Obj) (p:Nat × Obj),p∈([[(l,x)],[(w.heap.size,y)]]:List Grp).flatten→p.1<w.heap.size+2:=by
    intro x y p hp
    simp at hp
    rcases hp with rfl | rfl <;> simp <;> omega
  have hbase:W0.heap.size≤w.heap.size:=hs.below.size
  refine ⟨l,[{ target:=.collected w.heap.size,args:=#[] }],W1,{ target:=.fn (.func gf) lb,args:=#[.func (.yield l) #[] #[]] },W1,gf,#[.func (.yield l) #[] #[]]++lb,W1,?_,?_,?_,?_,fun e=>(by cases e),?_⟩
  · rw [← hW1,hrec,hl]; exact run_enterLoop_outer _ _ _ _ _
  · simp only [resolve,ha.eval hg]
    simp [go_sem]
  · exact fun _ _=>trivial
  · simp [invoke,go_sem,eg]
  refine (hseq w hs l
    (fun pre W=>I pre∧Sat W0 ([(l,.loop (rec .ready none))]::[(w.heap.size,.deferred (some []))]::HI pre) W)
    (fun pre W=>∃ c H',X c pre H'∧Sat W0 ([(l,.loop (rec .done (some c)))]::[(w.heap.size,.deferred (some []))]::H') W)
    W1 hbel ?_ ?_ ?_ ⟨hI0,by rw [h0]; exact hs1⟩).mono ?_
  · rintro s A B row ⟨hI,hS⟩ hgr hr
    exact ⟨hI,hS.grown hgr (fun r e=>⟨by have:=(hr r e).1; omega,hlow (D:=[_,_]) (hid s) (hDD _ _) hS (by have:=(hr r e).1; omega) (hr r e).2⟩)⟩
  · rintro s A B row ⟨c,H',hX,hS⟩ hgr hr
    exact ⟨c,H',hX,hS.grown hgr (fun r e=>⟨by have:=(hr r e).1; omega,hlow (D:=[_,_]) (hidx _ _ _ hX) (hDD _ _) hS (by have:=(hr r e).1; omega) (hr r e).2⟩)⟩
  · rintro pre x W ⟨hI,hS⟩ hlen
    have hlk:W.heap[l]? = some (.loop (rec .ready none)):=hS.has (l,_) (by simp)
    have hy:=run_yield (P:=P) (args:=encs x) hlk (by rw [hrec]; exact hps x)
    rw [hrec] at hy
    refine ⟨fn,_,assign,body,hy,roundIn_of_wpIn hfn ?_⟩
    have ha1:Ag n E { tmps:=a.tmps,defers:=[] }:=by
      obtain ⟨h1,h2,h3⟩:=ha
      exact ⟨(ds_none hz).symm,h2,h3⟩
    have ha2:=Ag.puts (ps.zip (encs x)).toList ha1 (fun p hp=>hpn p.1 (by
      rw [Array.toList_zip] at hp
      have:=(List.of_mem_zip (a:=p.1) (b:=p.2) hp).1
      simpa using this))
    rw [Array.foldl_toList] at ha2
    refine wpIn_mono (hassign l _ _ pre x hI _ W ha2 hS) ?_
    rintro e a1 W2 ⟨rfl,y,ha3,hS2⟩
    have hlk2:W2.heap[l]? = some (.loop (rec .ready none)):=hS2.has (l,_) (by simp)
    refine ⟨_,run_beginRound hlk2 (by rw [hrec]),?_⟩
    refine wpIn_mono (hbody l _ _ pre x y hlen hI a1 _ ha3 (hS2.put0 (.loop { rec .ready none with state:=.busy }))) ?_
    have fin:∀ (jump:Option Code) (W3:World) (H3:List Grp),Sat W0 ([(l,.loop { rec .ready none with state:=.busy })]::[(w.heap.size,.deferred (some []))]::H3) W3 →
        (Instr.endRound l jump).run P W3=.ok (.bool jump.isNone) (W3.putObj l (.loop (rec (if jump.isNone then .ready else .done) jump))):=fun jump W3 H3 h3=>by
      have hl3:W3.heap[l]? = some (.loop { rec .ready none with state:=.busy }):=h3.has (l,.loop { rec .ready none with state:=.busy }) (by simp)
      have:=run_endRound (P:=P) jump hl3
      rw [hrec] at this ⊢
      exact this
    rintro e a3 W3 hp
    cases e with
    | normal =>
      obtain ⟨hI3,hp⟩:=hp
      refine ⟨_,_,fin none W3 _ hp,.inl ⟨rfl,⟨hI3,hp.put0 _⟩,?_⟩⟩
      have h5:Sat W0 ([(l,.loop (rec .ready none))]::[(w.heap.size,.deferred (some []))]::HI (pre++[x])) _:=hp.put0 (.loop (rec .ready none))
      exact ⟨fun p hpK hpW=>h5.has p (by simp only [List.flatten_cons,List.mem_append]; exact .inr (.inr (hKI _ p hpK))),fun b o hb ho=>(h5.below.block b hb).trans ho⟩
    | ret =>
      obtain ⟨H',hX,hS3⟩:=hp
      exact ⟨_,_,fin (some .ret) W3 _ hS3,.inr ⟨rfl,.ret,H',hX,hS3.put0 _⟩⟩
    | exit id =>
      obtain ⟨H',hX,hS3⟩:=hp
      exact ⟨_,_,fin (some (.exit id)) W3 _ hS3,.inr ⟨rfl,.exit id,H',hX,hS3.put0 _⟩⟩
    | goto t=>exact hp.elim
    | panic ch=>exact hp.elim
    | outgrown=>exact hp.elim
  · have hA:Ag ⟨n.k,mkD w.heap.size⟩ E { a with defers:=[{ target:=.collected w.heap.size,args:=#[] }]++a.defers }:=by
      obtain ⟨h1,h2,h3⟩:=ha
      exact ⟨by rw [h1,ds_none hz]; rfl,h2,h3⟩
    rintro e W2 ⟨⟨v,rfl⟩,(⟨xs,hS,hI3,hi⟩ | ⟨pre,hSp,c,H',hX,hi⟩)⟩
    · have hlk:=hi.has (l,.loop (rec .ready none)) (by simp)
      refine ⟨none,_,by have:=run_endLoop (P:=P) hlk (by rw [hrec]; simp); rw [hrec] at this; exact this,?_⟩
      have h6:=(hi.put0 (.loop { rec .ready none with state:=.exhausted })).tail
      rw [hrec] at h6
      exact hdone _ xs hS hI3 _ _ hA h6
    · have hlk:=hi.has (l,.loop (rec .done (some c))) (by simp)
      refine ⟨some c,_,by have:=run_endLoop (P:=P) hlk (by rw [hrec]; simp); rw [hrec] at this; exact this,?_⟩
      have h6:=(hi.put0 (.loop { rec .done (some c) with state:=.exhausted })).tail
      rw [hrec] at h6
      exact (wpIn_wide (n:=9)).2 (hstop _ c pre H' hSp hX _ _ hA h6)
end Go.Sw
namespace Go.Proofs.YtmnihmfifpaaoaaGreatDoor
open Go.Sw Go.RowKit Go.Shelf Go.Json
attribute [local go_sem] Oper.semAt_some
def downF {m:Nat} (k:Nat):List (Fin m):=((List.finRange m).reverse).take k
theorem downF_len {m:Nat} (k:Nat) (hk:k≤m):(downF (m:=m) k).length=k:=by simp [downF]; omega
theorem K2 {m:Nat} (k:Nat) (hk:k<m):downF (m:=m) (k+1)=downF k++[⟨m - 1 - k,by omega⟩]:=by
  unfold downF
  rw [List.take_add_one]
  congr 1
  rw [List.getElem?_eq_getElem (by simpa using hk)]
  simp
set_option maxRecDepth 100000 in
set_option maxHeartbeats 2000000 in
theorem backw_in (kb:Nat) (a:Option Addr) (b off m cap:Nat) (hm:m≤1000000000) (hcap:m≤cap) (el:Nat→Value × Value × Value × Value) (l:Nat) (J Jx:List (Fin m)→World→Prop)
    (hJk:∀ pre W,J pre W→W.heap[kb]? = some (.cells #[.slice a m cap] 28)∧∀ i,i<m→a=some ⟨b,off,none⟩∧W.cell? ⟨b,off+i * 4,none⟩=some (el i).1∧W.cell? ⟨b,off+i * 4+1,none⟩=some (el i).2.1∧W.cell? ⟨b,off+i * 4+2,none⟩=some (el i).2.2.1∧W.cell? ⟨b,off+i * 4+3,none⟩=some (el i).2.2.2)
    (hY:∀ pre x W,J pre W→pre.length<m→YieldAt Fence.wide 7 Tryz.prog l #[.int .i64 (x.1:Int),.agg #[(el x.1).1,(el x.1).2.1,(el x.1).2.2.1,(el x.1).2.2.2]] W fun e W' =>
      (e=.returned (.bool true)∧J (pre++[x]) W')∨(e=.returned (.bool false)∧Jx (pre++[x]) W'))
    (W:World) (h0:J [] W) :
    CallsIn Fence.wide 8 Tryz.prog 60 #[.func (.yield l) #[] #[],.pointer (some ⟨kb,0,none⟩)] W fun e W'=>(∃ v,e=.returned v) ∧
      ((∃ ys,ys=downF m∧J ys W')∨(∃ pre,(∃ k,k≤m∧pre=downF k)∧Jx pre W')):=by
  have hc0:=(hJk _ _ h0).1
  have hcx0:W.cell? ⟨kb,0,none⟩=some (.slice a m cap):=by unfold World.cell?; rw [hc0]; rfl
  refine callsIn_of_wp Tryz.func60 rfl trivial ?_ rfl
  simp only [Tryz.ntmps60,List.size_toArray,List.length_cons,List.length_nil,Nat.reduceAdd,Nat.reduceSub,Array.replicate_succ,Array.replicate_zero,List.push_toArray,List.append_toArray,List.nil_append,List.cons_append]
  gi_wp2
  gi_loopw [3] (fun i wr=>∃ (k:Nat),k≤m∧i=.int .i64 ((m:Int) - 1 - (k:Int))∧J (downF k) wr)
    (fun i _=>(intOf i+1).toNat)
  case atStart=>exact ⟨0,Nat.zero_le _,by simp,by simpa [downF] using h0⟩
  case round =>
    obtain ⟨k,hk,rfl,hJs⟩:=hrel
    obtain ⟨hc1,hel⟩:=hJk _ _ hJs
    have hcx:wr.cell? ⟨kb,0,none⟩=some (.slice a m cap):=by unfold World.cell?; rw [hc1]; rfl
    by_cases hlt:k<m
    · obtain ⟨rfl,e0,e1,e2,e3⟩:=hel (m - 1 - k) (by omega)
      obtain ⟨fn,tmps,assign,body,hy,hR⟩:=hY _ ⟨m - 1 - k,by omega⟩ wr hJs (by rw [downF_len _ hk]; exact hlt)
      dsimp only at hy
      rw [show ((m - 1 - k:Nat):Int)=(m:Int) - 1 - (k:Int) by omega] at hy
      gi_wp2
      refine hR.mono ?_
      rintro e W3 (⟨rfl,hJ3⟩ | ⟨rfl,hJx3⟩)
      · gi_wp2
        go_roundw
        case rel=>exact ⟨k+1,hlt,by rw [Int.natCast_add]; congr 1; omega,by rw [K2 k hlt]; exact hJ3⟩
        case measure=>simp [intOf]; omega
      · gi_wp2
        refine bodyPost_ret (results_none rfl _ _ _) rfl ?_
        exact ⟨⟨_,rfl⟩,.inr ⟨_,⟨k+1,hlt,(K2 k hlt).symm⟩,hJx3⟩⟩
    · obtain rfl:k=m:=by omega
      gi_wp2
      go_end0
      exact ⟨⟨_,rfl⟩,.inl ⟨_,rfl,hJs⟩⟩
def elC (cs:List Value) (i:Nat):Value × Value × Value × Value:=(cs.getD (i * 4) undef,cs.getD (i * 4+1) undef,cs.getD (i * 4+2) undef,cs.getD (i * 4+3) undef)
theorem backw_stops (kb:Nat) (a:Option Addr) (m cap:Nat) (hm:m≤1000000000) (hcap:m≤cap) (cs:List Value) (S:Nat→Obj→Prop) (hrd:Rd S a cs) (hlen:m * 4≤cs.length) (W0:World) (H:List Grp) (hS:∀ y o,S y o→At W0 H y o)
    (hk:(kb,Obj.cells #[.slice a m cap] 28 (0,0))∈H.flatten) (w:World) (hs:Sat W0 H w) :
    SeqStopsK Fence.wide 8 Tryz.prog 60 #[.pointer (some ⟨kb,0,none⟩)] (fun x:Fin m=>#[.int .i64 (x.1:Int),.agg #[(elC cs x.1).1,(elC cs x.1).2.1,(elC cs x.1).2.2.1,(elC cs x.1).2.2.2]])
      (KeepB W0 H) (fun xs=>xs=downF m) (fun pre=>∃ k,k≤m∧pre=downF k) m w:=by
  intro l J Jx W hW hJ hJx hY h0
  have at_:∀ y o,At W0 H y o→W.heap[y]? = some o:=by
    intro y o h
    rcases h with ⟨h1,h2⟩ | h
    · have h3:w.heap[y]? = some o:=(hs.below.block y h1).trans h2
      exact (hW.block y (Array.getElem?_eq_some_iff.1 h3).1).trans h3
    · have h3:=hs.has _ h
      exact (hW.block y (Array.getElem?_eq_some_iff.1 h3).1).trans h3
  have keep:∀ W1 W2:World,KeepB W0 H W1 W2→(∀ y o,At W0 H y o→W1.heap[y]? = some o)→∀ y o,At W0 H y o→W2.heap[y]? = some o:=by
    rintro W1 W2 ⟨k1,k2⟩ h1 y o h
    rcases h with ⟨a1,a2⟩ | h
    · exact k2 y o a1 a2
    · exact k1 (y,o) h (h1 y o (.inr h))
  have hb:∃ b off,∀ W':World,(∀ y o,At W0 H y o→W'.heap[y]? = some o)→∀ i,i<m→a=some ⟨b,off,none⟩∧W'.cell? ⟨b,off+i * 4,none⟩=some (elC cs i).1∧W'.cell? ⟨b,off+i * 4+1,none⟩=some (elC cs i).2.1∧W'.cell? ⟨b,off+i * 4+2,none⟩=some (elC cs i).2.2.1∧W'.cell? ⟨b,off+i * 4+3,none⟩=some (elC cs i).2.2.2:=by
    rcases hrd with hn | ⟨b,off,c,t,z,rfl,h2,h3⟩
    · refine ⟨0,0,fun W' _ i hi=>?_⟩
      rw [hn,List.length_nil] at hlen; omega
    · refine ⟨b,off,fun W' hW' i hi=>?_⟩
      have h4:=hW' b _ (hS b _ h2)
      have cell:∀ j,j<m * 4→W'.cell? ⟨b,off+j,none⟩=some (cs.getD j undef):=by
        intro j hj
        have hjl:j<cs.length:=by omega
        have h5:=h3 j (cs.getD j undef) (by rw [List.getD_eq_getElem?_getD,List.getElem?_eq_getElem hjl]; rfl)
        unfold World.cell?; rw [show (⟨b,off+j,none⟩:Addr).block=b from rfl,h4]; exact h5
      exact ⟨rfl,cell _ (by omega),cell (i * 4+1) (by omega),cell (i * 4+2) (by omega),cell (i * 4+3) (by omega)⟩
  obtain ⟨b,off,hel⟩:=hb
  have hkey:=backw_in kb a b off m cap hm hcap (elC cs) l (fun pre W=>J pre W∧∀ y o,At W0 H y o→W.heap[y]? = some o) Jx
    (fun pre W h=>⟨h.2 kb _ (.inr hk),hel W h.2⟩)
    (fun pre x W h hlen=>by
      obtain ⟨fn,tmps,assign,body,h1,h2⟩:=hY pre x W h.1 hlen
      refine ⟨fn,tmps,assign,body,h1,h2.mono ?_⟩
      rintro e W' (⟨he,hJ',hK⟩ | hx)
      · exact .inl ⟨he,hJ',keep W W' hK h.2⟩
      · exact .inr hx)
    W ⟨h0,at_⟩
  refine hkey.mono ?_
  rintro e W' ⟨h1,h2 | h2⟩
  · obtain ⟨ys,e1,e2,_⟩:=h2
    exact ⟨h1,.inl ⟨ys,e1,e2⟩⟩
  · exact ⟨h1,.inr h2⟩
end Go.Proofs.YtmnihmfifpaaoaaGreatDoor
namespace Go.Proofs.YtmnihmfifpaaoaaGreatDoor
open Go.Sw Go.Sha Go.Esc Go.RowKit Go.Json
theorem getM_down {name:List UInt8} {ns:List (List UInt8)} {l:List JV} {m:Nat} (hm:m≤ns.length) (hl:m≤l.length):∀ (k:Nat),k≤m→(∀ q:Fin m,q∈downF (m:=m) k→ns.getD q.1 []≠name)→getM name (ns.take m) (l.take m)=getM name (ns.take (m - k)) (l.take (m - k))
  | 0,_,_=>rfl
  | k+1,hk,h=>by
    rw [getM_down hm hl k (by omega) (fun q hq=>h q (by rw [K2 k hk]; exact List.mem_append_left _ hq))]
    have h1:=h ⟨m - 1 - k,by omega⟩ (by rw [K2 k hk]; exact List.mem_append_right _ (List.mem_singleton.2 rfl))
    rw [show m - k=m - 1 - k+1 by omega,getM_step name (show m - 1 - k<ns.length by omega) (show m - 1 - k<l.length by omega),if_neg,show m - (k+1)=m - 1 - k by omega]
    have h2:m - 1 - k<ns.length:=by omega
    simpa [List.getD,h2] using h1
theorem getP_no {x:JV} (h:x.kind≠6) (name:List UInt8):getP x name=none:=by unfold getP; rw [if_neg h]
theorem getP_all {x:JV} (h:x.kind=6) (name:List UInt8) {m:Nat} (hm:m=min x.list.length x.names.length):getP x name=getM name (x.names.take m) (x.list.take m):=by
  unfold getP; rw [if_pos h,getM_take name x.names x.list,hm,Nat.min_comm]
theorem getP_none {x:JV} (h:x.kind=6) {name:List UInt8} {m:Nat} (hm:m=min x.list.length x.names.length) (hn:∀ q:Fin m,q∈downF (m:=m) m→x.names.getD q.1 []≠name):getP x name=none:=by
  rw [getP_all h name hm,getM_down (by omega) (by omega) m (Nat.le_refl _) hn,Nat.sub_self]; rfl
theorem getP_some {x:JV} (h:x.kind=6) {name:List UInt8} {m:Nat} (hm:m=min x.list.length x.names.length) {pre pre0:List (Fin m)} {z:Fin m} {k:Nat} (hk:k≤m) (hp:pre=downF k) (h0:pre=pre0++[z]) (hn:∀ q∈pre0,x.names.getD q.1 []≠name) (hz:x.names.getD z.1 []=name) (hlt:z.1<x.list.length):getP x name=some x.list[z.1]:=by
  have hz0:=z.2
  cases k with
  | zero =>
    have:=congrArg List.length (hp.symm.trans h0)
    rw [downF_len _ hk] at this; simp at this
  | succ j =>
    rw [hp,K2 j hk] at h0
    obtain ⟨e1,e2⟩:=List.append_inj h0 (by
      have:=congrArg List.length h0
      simpa using this)
    injection e2 with e2 _
    have e3:z.1=m - 1 - j:=by rw [← e2]
    rw [getP_all h name hm,getM_down (by omega) (by omega) j (by omega) (fun q hq=>hn q (by rw [← e1]; exact hq)),show m - j=z.1+1 by omega,getM_step name (show z.1<x.names.length by omega) hlt,if_pos]
    have h2:z.1<x.names.length:=by omega
    simpa [List.getD,h2] using hz
theorem cutA_zero (a:Option Addr) (cap sz:Nat):cutA a cap 0 sz=a:=by
  unfold cutA
  split
  · rfl
  · cases a with
    | none=>rfl
    | some a=>simp [Addr.add]
theorem elC_take {cs:List Value} {i:Nat} {a b c d:Value} (h:(cs.drop (i * 4)).take 4=[a,b,c,d]):elC cs i=(a,b,c,d):=by
  have h2:=elt4 h
  have g:∀ m (hm:m<4),cs.getD (i * 4+m) undef=[a,b,c,d].getD m undef:=by
    intro m hm
    have:=h2 m hm
    rw [List.getD_eq_getElem?_getD,this,List.getD_eq_getElem?_getD,List.getElem?_eq_getElem hm]
  have g0:=g 0 (by decide)
  have g1:=g 1 (by decide)
  have g2:=g 2 (by decide)
  have g3:=g 3 (by decide)
  unfold elC
  rw [Nat.add_zero] at g0
  rw [g0,g1,g2,g3]; rfl
theorem backward_ (a:Option Addr) (n c:Nat) (W0:World) (H:List Grp):Tri Tryz.prog 38 #[.slice a n c] W0 H (fun v H'=>∃ kb,v=.func (.func 60) #[] #[pt kb]∧H'=[(kb,.cells #[.slice a n c] 28 (0,0))]::H):=by
 refine D4 4 Tryz.func38 ?_
 refine A1 (A2 (G4 (.slice a n c) (fun b1=>A6 (E':=[⟨1,[],pt b1⟩]) [0] [1] (k:=A0 (A1 (C4 (E':=[⟨2,[],.func (.func 60) #[] #[pt b1]⟩]) [0,0] [2] (k:=A0 (B0 ?_))))))))
 refine B6 [.tmp 2] [.func (.func 60) #[] #[pt b1]] (k:=?_)
 exact ⟨b1,rfl,rfl⟩
theorem perm3 {α:Type} (a b c:α) (l:List α):(c::a::b::l).Perm (a::b::c::l):=((List.Perm.swap a c (b::l)).trans ((List.Perm.swap b c l).cons a))
theorem jrd_nul {S:Nat→Obj→Prop}:JRd S nul [.int .i64 0,.string eB,.slice none 0 0,.slice none 0 0]:=.mk (ns:=[]) (l:=[]) (.inl rfl) (.inl rfl) .nil
theorem jrd_mk {S:Nat→Obj→Prop} {y:JV} {an al:Option Addr} {cn cl:Nat} {cs:List Value} (h1:Rd S an (strV y.names)) (h2:Rd S al cs) (h3:JRdL S y.list cs):JRd S y (jvC y an cn al cl):=by
  cases y; exact .mk h1 h2 h3
theorem jget_ (x:JV) (an:Option Addr) (cn:Nat) (al:Option Addr) (cl:Nat) (cs:List Value) (S:Nat→Obj→Prop) (hrn:Rd S an (strV x.names)) (hrl:Rd S al cs) (hrc:JRdL S x.list cs) (hcl:x.list.length≤cl) (hcn:cnJ x≤1000000000) (name:List UInt8) (W0:World) (H:List Grp) (hS:∀ y o,S y o→At W0 H y o):Tri Tryz.prog 24 #[.agg #[.int .i64 x.kind,.string (bk x.text),.slice an x.names.length cn,.slice al x.list.length cl],.string (bk name)] W0 H (fun v H'=>∃ c0 c1 c2 c3,JRd S ((getP x name).getD nul) [c0,c1,c2,c3]∧v=.tuple #[.agg #[c0,c1,c2,c3],.bool (getP x name).isSome]∧H'=H):=by
  have hxl:=cn_lens x
  refine Tri_ofM (args:=[.agg #[.int .i64 x.kind,.string (bk x.text),.slice an x.names.length cn,.slice al x.list.length cl],.string (bk name)]) (n:=34) Tryz.func24 rfl rfl (Nat.le_of_ble_eq_true rfl) ?_
  refine A1 (A2 (G4 (.agg #[.int .i64 x.kind,.string (bk x.text),.slice an x.names.length cn,.slice al x.list.length cl]) (fun b1=>G4 (.string (bk name)) (fun b2=>?_))))
  refine I1 (.agg #[.int .i64 0,.string eB,.slice none 0 0,.slice none 0 0]) (fun b3=>I1 (.bool false) (fun b4=>?_))
  refine A7 [] [2,3,4,5] (k:=A0 (A1 (A1 (A2 (A3 (j:=1) [0] (k:=B8 3 0 rfl rfl (A7 [0] [2,3,4,5,10] (k:=A0 ?_))))))))
  refine C5 (b:=x.kind != 6) kr (fun hc5=>?_) (fun hc5=>?_)
  ·
    simp only [bne_iff_ne,ne_eq] at hc5
    have hG:=getP_no hc5 name
    refine A1 (A2 (A3 (j:=1) [0] (k:=D5 1 0 (.agg #[.int .i64 0,.string eB,.slice none 0 0,.slice none 0 0]) rfl (D5 0 0 (.bool false) rfl (A6 (E':=[⟨4,[],pt b3⟩,⟨5,[],pt b4⟩]) [] [4,5] (k:=A0 (B0 (A5 ?_))))))))
    refine N_retM0 [.cell 4 30,.cell 5 4] [.agg #[.int .i64 0,.string eB,.slice none 0 0,.slice none 0 0],.bool false] rfl (.cons (.agg (b:=b3) (off:=0) (l:=[.int .i64 0,.string eB,.slice none 0 0,.slice none 0 0]) kr kr kr (At.grp 1 0 rfl rfl) kr) (.cons (.one (b:=b4) (off:=0) kr kr (At.grp 0 0 rfl rfl) rfl) (.nil))) rfl ⟨H,?_,fun w h=>((((h.erase 0).erase 0).erase 0).erase 0)⟩
    rw [hG]; exact ⟨_,_,_,_,jrd_nul,rfl,rfl⟩
  ·
    simp only [bne_eq_false_iff_eq] at hc5
    have hk6:x.kind=6:=hc5
    obtain ⟨m,hm⟩:∃ m,m=min x.list.length x.names.length:=⟨_,rfl⟩
    refine A8 (A0 (A1 (A1 (A2 (A3 (j:=1) [0] (k:=B8 3 3 rfl rfl (A3 (j:=3) [0] (k:=B8 3 3 rfl rfl ?_))))))))
    refine A3 (j:=6) [0,0] (k:=B8 3 2 rfl rfl (A3 (j:=9) [0,0] (k:=D2 20 (x:=.int .i64 (if ((x.names.length:Nat):Int)<((x.list.length:Nat):Int) then ((x.names.length:Nat):Int) else ((x.list.length:Nat):Int))) (y:=.int .i64 ((m:Nat):Int)) (by rw [show (if ((x.names.length:Nat):Int)<((x.list.length:Nat):Int) then ((x.names.length:Nat):Int) else ((x.list.length:Nat):Int))=((m:Nat):Int) by (split <;> omega)]) (GL_sliceL (ch:=[]) (a:=al) (len:=x.list.length) (cap:=cl) (e:=30) (sz:=4) (vl:=none) (vh:=(some (.int .i64 ((m:Nat):Int)))) (l:=0) (h:=((m:Nat):Int)) (hb:=(by intro _; exact ⟨by omega,by omega,by omega⟩)) (k:=D2 21 (x:=.slice (cutA al cl 0 4) (m - 0) (cl - 0)) (y:=.slice al m cl) (by rw [cutA_zero]; rfl) (C3 Tryz.func38 (backward_ al m cl _ _) ?_))))))
    rintro _ _ ⟨kb6,rfl,rfl⟩
    refine A7 [] [2,3,4,5,22] (k:=A0 (C8 (G_env (E':=[⟨2,[],pt b1⟩,⟨3,[],pt b2⟩,⟨4,[],pt b3⟩,⟨5,[],pt b4⟩,⟨22,[],.func (.func 60) #[] #[pt kb6]⟩]) kr ?_)))
    have hHm:((kb6,Obj.cells #[.slice al m cl] 28 (0,0)):Nat × Obj)∈(([(kb6,.cells #[.slice al m cl] 28 (0,0))]::[(b4,.cells #[.bool false] 4 (0,0))]::[(b3,.cells #[.int .i64 0,.string eB,.slice none 0 0,.slice none 0 0] 30 (0,0))]::[(b2,.cells #[.string (bk name)] 9 (0,0))]::[(b1,.cells #[.int .i64 x.kind,.string (bk x.text),.slice an x.names.length cn,.slice al x.list.length cl] 30 (0,0))]::H):List Grp).flatten:=List.mem_flatten.2 ⟨_,List.mem_of_getElem? (i:=0) rfl,List.mem_singleton.2 rfl⟩
    refine G_rangeFunc2 (α:=Fin m) (β:=Nat) (gf:=60) (lb:=#[pt kb6]) (encs:=fun z:Fin m=>#[.int .i64 (z.1:Int),.agg #[(elC cs z.1).1,(elC cs z.1).2.1,(elC cs z.1).2.2.1,(elC cs z.1).2.2.2]]) (S:=fun xs=>xs=downF m) (Sp:=fun pre=>∃ k,k≤m∧pre=downF k) (N0:=m) rfl kr (enters_of Tryz.func60 kr rfl) ([(kb6,.cells #[.slice al m cl] 28 (0,0))]::[(b4,.cells #[.bool false] 4 (0,0))]::[(b3,.cells #[.int .i64 0,.string eB,.slice none 0 0,.slice none 0 0] 30 (0,0))]::[(b2,.cells #[.string (bk name)] 9 (0,0))]::[(b1,.cells #[.int .i64 x.kind,.string (bk x.text),.slice an x.names.length cn,.slice al x.list.length cl] 30 (0,0))]::H) (fun _ hp=>hp) (fun w hs=>backw_stops kb6 al m cl (by omega) (by omega) cs S hrl (by rw [hrc.len]; omega) W0 ([(kb6,.cells #[.slice al m cl] 28 (0,0))]::[(b4,.cells #[.bool false] 4 (0,0))]::[(b3,.cells #[.int .i64 0,.string eB,.slice none 0 0,.slice none 0 0] 30 (0,0))]::[(b2,.cells #[.string (bk name)] 9 (0,0))]::[(b1,.cells #[.int .i64 x.kind,.string (bk x.text),.slice an x.names.length cn,.slice al x.list.length cl] 30 (0,0))]::H) (fun y o h=>At.cons (At.cons (At.cons (At.cons (At.cons (hS y o h)))))) hHm w hs) (fun _=>([(kb6,.cells #[.slice al m cl] 28 (0,0))]::[(b4,.cells #[.bool false] 4 (0,0))]::[(b3,.cells #[.int .i64 0,.string eB,.slice none 0 0,.slice none 0 0] 30 (0,0))]::[(b2,.cells #[.string (bk name)] 9 (0,0))]::[(b1,.cells #[.int .i64 x.kind,.string (bk x.text),.slice an x.names.length cn,.slice al x.list.length cl] 30 (0,0))]::H)) (fun c pre H'=>c=.ret∧∃ pre0 z,pre=pre0++[z]∧(fun pre:List (Fin m)=>∀ q∈pre,x.names.getD q.1 []≠name) pre0∧x.names.getD z.1 []=name∧H'=([(kb6,.cells #[.slice al m cl] 28 (0,0))]::[(b4,.cells #[.bool true] 4 (0,0))]::[(b3,.cells #[(elC cs z.1).1,(elC cs z.1).2.1,(elC cs z.1).2.2.1,(elC cs z.1).2.2.2] 30 (0,0))]::[(b2,.cells #[.string (bk name)] 9 (0,0))]::[(b1,.cells #[.int .i64 x.kind,.string (bk x.text),.slice an x.names.length cn,.slice al x.list.length cl] 30 (0,0))]::H)) rfl (fun pre:List (Fin m)=>∀ q∈pre,x.names.getD q.1 []≠name) (fun q hq=>by cases hq) (fun _ _ hp=>hp) (fun _ _ hp=>.inr hp) ?_ (fun _=>rfl) (fun t ht=>by rcases (by simpa using ht:t=23∨t=24) with rfl | rfl <;> exact Nat.le_of_ble_eq_true rfl) (fun z y7=>[⟨2,[],pt b1⟩,⟨3,[],pt b2⟩,⟨4,[],pt b3⟩,⟨5,[],pt b4⟩,⟨6,[],.int .i64 (z.1:Int)⟩,⟨7,[],pt y7⟩]) (fun z y7 _=>([(y7,.cells #[(elC cs z.1).1,(elC cs z.1).2.1,(elC cs z.1).2.2.1,(elC cs z.1).2.2.2] 30 (0,0))]::([(kb6,.cells #[.slice al m cl] 28 (0,0))]::[(b4,.cells #[.bool false] 4 (0,0))]::[(b3,.cells #[.int .i64 0,.string eB,.slice none 0 0,.slice none 0 0] 30 (0,0))]::[(b2,.cells #[.string (bk name)] 9 (0,0))]::[(b1,.cells #[.int .i64 x.kind,.string (bk x.text),.slice an x.names.length cn,.slice al x.list.length cl] 30 (0,0))]::H))) ?_ ?_ ?_ ?_
    ·
      rintro c xs H' ⟨_,pre0,z,_,_,_,rfl⟩ p hp
      simp only [List.flatten_cons,List.mem_append,List.mem_singleton] at hp
      rcases hp with rfl | rfl | rfl | rfl | rfl | hp
      · exact .inl rfl
      · exact .inl rfl
      · exact .inl rfl
      · exact .inl rfl
      · exact .inl rfl
      · exact .inr (by simp only [List.flatten_cons,List.mem_append]; exact .inr (.inr (.inr (.inr (.inr (hp))))))
    ·
      intro r L D pre z hI
      have hzm9:z.1<x.list.length:=by have:=z.2; omega
      obtain ⟨y9,yan9,ycn9,yal9,ycl9,ycs9,hyx9,hye9,_,_,_⟩:=hrc.get hzm9
      have hE9:=elC_take hye9
      have h1c:((Value.agg #[(elC cs z.1).1,(elC cs z.1).2.1,(elC cs z.1).2.2.1,(elC cs z.1).2.2.2]).cells.toList.all Value.oneCell')=true:=by rw [hE9]; rfl
      refine GR_seq (GR_region rfl (fun _ _ h=>by cases h.1) (A6 (E':=[⟨2,[],pt b1⟩,⟨3,[],pt b2⟩,⟨4,[],pt b3⟩,⟨5,[],pt b4⟩,⟨6,[],.int .i64 (z.1:Int)⟩,⟨24,[],(.agg #[(elC cs z.1).1,(elC cs z.1).2.1,(elC cs z.1).2.2.1,(elC cs z.1).2.2.2])⟩]) [0] [2,3,4,5,6,24] (k:=NR_then (GR_region rfl (fun _ _ h=>by cases h.1) (GL_alloc (i:=0) (ch:=[]) (z:=.agg #[.int .i64 0,.string eB,.slice none 0 0,.slice none 0 0]) rfl rfl kr kr kr kr (fun y7=>GL_store (i:=1) (ch:=[]) (b:=y7) (off:=0) (v:=.agg #[(elC cs z.1).1,(elC cs z.1).2.1,(elC cs z.1).2.2.1,(elC cs z.1).2.2.2]) (c:=#[.int .i64 0,.string eB,.slice none 0 0,.slice none 0 0]) (c':=#[(elC cs z.1).1,(elC cs z.1).2.1,(elC cs z.1).2.2.1,(elC cs z.1).2.2.2]) (j:=0) (m:=0) (H':=([(y7,.cells #[(elC cs z.1).1,(elC cs z.1).2.1,(elC cs z.1).2.2.1,(elC cs z.1).2.2.2] 30 (0,0))]::L::D::[(kb6,.cells #[.slice al m cl] 28 (0,0))]::[(b4,.cells #[.bool false] 4 (0,0))]::[(b3,.cells #[.int .i64 0,.string eB,.slice none 0 0,.slice none 0 0] 30 (0,0))]::[(b2,.cells #[.string (bk name)] 9 (0,0))]::[(b1,.cells #[.int .i64 x.kind,.string (bk x.text),.slice an x.names.length cn,.slice al x.list.length cl] 30 (0,0))]::H)) rfl rfl kr kr kr h1c kr kr kr rfl rfl (Nat.le_of_ble_eq_true rfl) (fun _ _=>thaw0) kr kr (A7 [] [2,3,4,5,6,7] (k:=?_))))))))
      exact fun a w ha hs=>⟨rfl,y7,ha,hs.perm (by exact perm3 _ _ _ _)⟩
    ·
      intro r L D pre z y7 hlen hI
      have hzm:=z.2
      have hzn:z.1<x.names.length:=by omega
      have hzl:z.1<x.list.length:=by omega
      obtain ⟨nm,hnm⟩:∃ nm,nm=x.names[z.1]'hzn:=⟨_,rfl⟩
      have hnmD:x.names.getD z.1 []=nm:=by rw [hnm]; simp [List.getD,hzn]
      have hzm9:z.1<x.list.length:=by have:=z.2; omega
      obtain ⟨y9,yan9,ycn9,yal9,ycl9,ycs9,hyx9,hye9,_,_,_⟩:=hrc.get hzm9
      have hE9:=elC_take hye9
      have h1c:((Value.agg #[(elC cs z.1).1,(elC cs z.1).2.1,(elC cs z.1).2.2.1,(elC cs z.1).2.2.2]).cells.toList.all Value.oneCell')=true:=by rw [hE9]; rfl
      refine GR_block (GR_seq (GR_regionD (by kernel_rfl) (by kernel_rfl) rfl (fun _ _ h=>h) (A3 (j:=1) [0] (k:=B8 7 2 rfl rfl (A3 (j:=3) [0] (k:=GL_iq x.names.length (z.1:Int) 1 hrn (by exact ⟨by omega,by omega,strV_ne hzn⟩) (GL_lsq ((Int.toNat (z.1:Int)) * 1) (.string (bk nm)) hrn (fun y o h=>(At.cons (At.cons (At.cons (At.cons (At.cons (At.cons (At.cons (At.cons (hS y o h)))))))))) (fun _=>(strV_elt hzn hnm)) (B8 6 0 rfl rfl ?_))))))))
      refine A7 [0] [2,3,4,5,6,7,31] (k:=NR_then (GR_cond (b:=(bk nm).toList==(bk name).toList) (by kernel_rfl) (fun hc=>?_) (fun hc=>?_)))
      ·
        have hz:x.names.getD z.1 []=name:=by rw [hnmD]; exact (eqB (bk nm) (bk name)).1 hc
        refine GR_seq (GR_region rfl (fun _ _ h=>h) (GL_loadA (ch:=[]) (b:=y7) (off:=0) (l:=[(elC cs z.1).1,(elC cs z.1).2.1,(elC cs z.1).2.2.1,(elC cs z.1).2.2.2]) (hA:=At.grp 2 0 rfl rfl) (k:=GL_store (i:=1) (ch:=[]) (b:=b3) (off:=0) (v:=.agg #[(elC cs z.1).1,(elC cs z.1).2.1,(elC cs z.1).2.2.1,(elC cs z.1).2.2.2]) (c:=#[.int .i64 0,.string eB,.slice none 0 0,.slice none 0 0]) (c':=#[(elC cs z.1).1,(elC cs z.1).2.1,(elC cs z.1).2.2.1,(elC cs z.1).2.2.2]) (j:=5) (m:=0) (H':=(L::D::[(y7,.cells #[(elC cs z.1).1,(elC cs z.1).2.1,(elC cs z.1).2.2.1,(elC cs z.1).2.2.2] 30 (0,0))]::[(kb6,.cells #[.slice al m cl] 28 (0,0))]::[(b4,.cells #[.bool false] 4 (0,0))]::[(b3,.cells #[(elC cs z.1).1,(elC cs z.1).2.1,(elC cs z.1).2.2.1,(elC cs z.1).2.2.2] 30 (0,0))]::[(b2,.cells #[.string (bk name)] 9 (0,0))]::[(b1,.cells #[.int .i64 x.kind,.string (bk x.text),.slice an x.names.length cn,.slice al x.list.length cl] 30 (0,0))]::H)) rfl rfl kr kr kr h1c kr kr kr rfl rfl (Nat.le_of_ble_eq_true rfl) (fun _ _=>thaw0) kr kr (D5 4 0 (.bool true) rfl (A6 (E':=[]) [] [] (k:=NR_then (GR_ret ?_)))))))
        exact fun a w ha hs=>⟨_,⟨rfl,pre,z,rfl,hI,hz,rfl⟩,(hs.pk 1 [0,0,1,1,1,1,1])⟩
      ·
        have hz:¬ x.names.getD z.1 []=name:=by rw [hnmD]; exact (eqBf (bk nm) (bk name)).1 hc
        refine GR_skip ?_
        exact fun a w ha hs=>⟨fun q hq=>by rcases List.mem_append.1 hq with hq | hq; exact hI q hq; rw [List.mem_singleton.1 hq]; exact hz,(hs.pk 1 [0,0,1,1,1,1,1])⟩
    ·
      rintro D1 xs rfl hI
      have hG:getP x name=none:=getP_none hk6 hm hI
      refine D8 (A0 (A1 (A2 (A3 (j:=1) [0] (k:=D5 3 0 (.agg #[.int .i64 0,.string eB,.slice none 0 0,.slice none 0 0]) rfl (D5 2 0 (.bool false) rfl (A6 (E':=[⟨4,[],pt b3⟩,⟨5,[],pt b4⟩]) [] [4,5] (k:=A0 ?_))))))))
      refine B0 (N_retM [.cell 4 30,.cell 5 4] [.agg #[.int .i64 0,.string eB,.slice none 0 0,.slice none 0 0],.bool false] rfl rfl (.cons (.agg (b:=b3) (off:=0) (l:=[.int .i64 0,.string eB,.slice none 0 0,.slice none 0 0]) kr kr kr (At.grp 2 0 rfl rfl) kr) (.cons (.one (b:=b4) (off:=0) kr kr (At.grp 1 0 rfl rfl) rfl) (.nil))) rfl ⟨H,?_,fun w h=>(((((h.erase 0).erase 0).erase 0).erase 0).erase 0)⟩)
      rw [hG]; exact ⟨_,_,_,_,jrd_nul,rfl,rfl⟩
    ·
      rintro D1 c pre H' ⟨k,hk,hp⟩ ⟨rfl,pre0,z,h0,hI,hz,rfl⟩
      have hzm:=z.2
      have hzl:z.1<x.list.length:=by omega
      have hG:=getP_some hk6 hm hk hp h0 hI hz hzl
      obtain ⟨y,yan,ycn,yal,ycl,ycs,hyx,hye,hyn,hyl,hyc⟩:=hrc.get hzl
      have hE:=elC_take hye
      refine G_heap (H':=([(D1,.deferred (some []))]::[(kb6,.cells #[.slice al m cl] 28 (0,0))]::[(b4,.cells #[.bool true] 4 (0,0))]::[(b3,.cells #[.int .i64 y.kind,.string (bk y.text),.slice yan y.names.length ycn,.slice yal y.list.length ycl] 30 (0,0))]::[(b2,.cells #[.string (bk name)] 9 (0,0))]::[(b1,.cells #[.int .i64 x.kind,.string (bk x.text),.slice an x.names.length cn,.slice al x.list.length cl] 30 (0,0))]::H)) (fun w h=>by rw [hE] at h; exact h) (B0 (B4 (A5 (N_retM [.cell 4 30,.cell 5 4] [.agg #[.int .i64 y.kind,.string (bk y.text),.slice yan y.names.length ycn,.slice yal y.list.length ycl],.bool true] rfl rfl (.cons (.agg (b:=b3) (off:=0) (l:=[.int .i64 y.kind,.string (bk y.text),.slice yan y.names.length ycn,.slice yal y.list.length ycl]) kr kr kr (At.grp 2 0 rfl rfl) kr) (.cons (.one (b:=b4) (off:=0) kr kr (At.grp 1 0 rfl rfl) rfl) (.nil))) rfl ⟨H,?_,fun w h=>(((((h.erase 0).erase 0).erase 0).erase 0).erase 0)⟩))))
      rw [hG]; refine ⟨_,_,_,_,?_,rfl,rfl⟩; show JRd S x.list[z.1] _; rw [← hyx]; exact jrd_mk hyn hyl hyc
end Go.Proofs.YtmnihmfifpaaoaaGreatDoor
namespace Go.Gr
open Go.Sw
theorem mget_none {m:SM} {k:ByteArray}:mget m k=none ↔ ∀ e∈m,(k==e.1)=false:=by
  have h:∀ (m:SM) (i:Nat),I5 k m i=none ↔ ∀ e∈m,(k==e.1)=false:=by
    intro m
    induction m with
    | nil=>intro i; simp [I5]
    | cons e m ih =>
      intro i
      rw [I5]
      cases hk:k==e.1
      · simp only [Bool.false_eq_true,if_false,ih (i+1)]
        constructor
        · intro h x hx; rcases List.mem_cons.1 hx with rfl | hx
          · exact hk
          · exact h x hx
        · intro h x hx; exact h x (List.mem_cons_of_mem _ hx)
      · simp only [if_true,reduceCtorEq,false_iff]
        intro h; rw [h e List.mem_cons_self] at hk; cases hk
  unfold mget
  rw [Option.map_eq_none_iff]
  exact h m 0
theorem mfind_i (k:ByteArray):∀ (m:SM) (i j:Nat),(I5 k m i).map (·.2)=(I5 k m j).map (·.2)
  | [],_,_=>rfl
  | e::m,i,j=>by
    rw [I5,I5]
    split
    · rfl
    · exact mfind_i k m _ _
theorem G0 (e:ByteArray × Value × Nat) (m:SM) (k:ByteArray):mget (e::m) k=if k==e.1 then some e.2.1 else mget m k:=by
  unfold mget
  rw [I5]
  split
  · rfl
  · exact mfind_i k m _ _
theorem _root_.Go.Sw.MapOk.nodup {m:SM} {c:Nat} (h:MapOk m c):(m.map Prod.fst).Nodup:=pw_keys.1 h.keys
theorem mget_put {m:SM} {c:Nat} {k p:ByteArray} {v:Value}:mget (mput m c k v) p=if p==k then some v else mget m p:=by
  induction m with
  | nil =>
    rw [mput,G0]
  | cons e m ih =>
    rw [mput]
    cases hk:k==e.1
    · simp only [Bool.false_eq_true,if_false]
      rw [G0,G0,ih]
      cases hp:p==e.1
      · simp
      · simp only [if_true]
        rw [baEq] at hp; subst hp
        rw [if_neg]
        intro h; rw [baEq] at h; rw [baNe] at hk; exact hk h.symm
    · simp only [if_true]
      rw [G0,G0]
      rw [baEq] at hk; subst hk
      cases hp:p==e.1 <;> simp
theorem mget_del {m:SM} {k p:ByteArray} (hn:(m.map Prod.fst).Nodup):mget (mdel m k) p=if p==k then none else mget m p:=by
  induction m with
  | nil=>rw [mdel]; split <;> rfl
  | cons e m ih =>
    rw [List.map_cons,List.nodup_cons] at hn
    rw [mdel]
    cases hk:k==e.1
    · simp only [Bool.false_eq_true,if_false]
      rw [G0,G0,ih hn.2]
      cases hp:p==e.1
      · simp
      · simp only [if_true]
        rw [baEq] at hp; subst hp
        rw [if_neg]
        intro h; rw [baEq] at h; rw [baNe] at hk; exact hk h.symm
    · simp only [if_true]
      rw [G0]
      rw [baEq] at hk; subst hk
      cases hp:p==e.1
      · simp
      · simp only [if_true]
        rw [baEq] at hp; subst hp
        exact mget_none.2 fun x hx=>by
          rw [baNe]; intro he
          exact hn.1 (List.mem_map.2 ⟨x,hx,he.symm⟩)
end Go.Gr
namespace Go.Gr
open Go.Sw Go.Json Go.Esc Go.Lib
def itB (n:Int):ByteArray:=⟨(Lib.itoa n).toArray⟩
def shB (x:JV):ByteArray:=(itB x.kind++ByteArray.mk #[32])++bk x.text
def Flat (x:JV):Prop:=0≤x.kind∧x.kind≤4
theorem flat_nul:Flat nul:=⟨by decide,by decide⟩
def atJ (x:JV) (p:List UInt8):JV:=(getP x p).getD nul
theorem it_size {n:Int} (h:0≤n∧n≤4):(itB n).size=1:=by
  unfold itB itoa
  rw [if_neg (by omega)]
  show (decDigits n.toNat).toArray.size=1
  rw [decDigits_one (by omega)]; rfl
theorem it_dl {n:Int} (h:0≤n∧n≤4):(itB n).data.toList=[UInt8.ofNat (48+n.toNat)]:=by
  unfold itB itoa
  rw [if_neg (by omega)]
  show (decDigits n.toNat).toArray.toList=_
  rw [List.toList_toArray,decDigits_one (by omega)]
theorem sh_dl {x:JV} (h:Flat x):(shB x).data.toList=UInt8.ofNat (48+x.kind.toNat)::32::x.text:=by
  unfold shB
  rw [ByteArray.data_append,ByteArray.data_append,Array.toList_append,Array.toList_append,it_dl h]
  rfl
theorem sh_eq {x y:JV} (hx:Flat x) (hy:Flat y) (h:shB x=shB y):x.kind=y.kind∧x.text=y.text:=by
  have:=congrArg (fun b:ByteArray=>b.data.toList) h
  simp only [sh_dl hx,sh_dl hy] at this
  injection this with h1 h2
  injection h2 with _ h2
  refine ⟨?_,h2⟩
  have h3:=congrArg UInt8.toNat h1
  rw [UInt8.toNat_ofNat',UInt8.toNat_ofNat'] at h3
  have:=hx.1; have:=hx.2; have:=hy.1; have:=hy.2
  omega
end Go.Gr
namespace Go.Xml
open Go.Esc Go.Json
structure XA where
  space:List UInt8
  name:List UInt8
  value:List UInt8
  deriving DecidableEq
inductive XN where
  | mk (space name:List UInt8) (attrs:List XA) (kids:List XN) (text:List UInt8)
def XN.space:XN→List UInt8 | .mk s _ _ _ _=>s
def XN.name:XN→List UInt8 | .mk _ n _ _ _=>n
def XN.attrs:XN→List XA | .mk _ _ a _ _=>a
def XN.kids:XN→List XN | .mk _ _ _ k _=>k
def XN.text:XN→List UInt8 | .mk _ _ _ _ t=>t
abbrev XS:=List UInt8 × Int
def fltX (e:Int) (q:XS):XS:=(q.1,if q.2=0 then e else q.2)
def mustX (w:List UInt8) (q:XS):XS:=if w.isPrefixOf q.1 then (q.1.drop w.length,q.2) else fltX 70 q
def idxL (w:List UInt8):List UInt8→Option Nat
  | []=>if w=[] then some 0 else none
  | b::t=>if w.isPrefixOf (b::t) then some 0 else (idxL w t).map (·+1)
def fstX (b:UInt8):Bool:=(decide (97≤b.toNat)&&decide (b.toNat≤122))||(decide (65≤b.toNat)&&decide (b.toNat≤90))||b==95||decide (128≤b.toNat)
def nxtX (b:UInt8):Bool:=fstX b||dgB b||b==45||b==46
def nmX:List UInt8→Nat
  | []=>0
  | b::t=>if fstX b then 1+(t.takeWhile nxtX).length else 0
def linesX:List UInt8→List UInt8
  | []=>[]
  | 13::10::t=>10::linesX t
  | b::t=>(if b=13 then 10 else b)::linesX t
def E8 (c:UInt8):List UInt8→List UInt8 × List (List UInt8)
  | []=>([],[])
  | b::t=>let r:=E8 c t; if b=c then ([],r.1::r.2) else (b::r.1,r.2)
def badX (p:List UInt8):Bool :=
  match idxL [59] p with
  | none=>true
  | some i=>unL (38::p.take (i+1))==38::p.take (i+1)
def refsX (s:List UInt8) (q:XS):List UInt8 × XS :=
  let s1:=linesX s
  let q1:=if (E8 38 s1).2.any badX then fltX 70 q else q
  (unL s1,if plainL (unL s1)≠unL s1 then fltX 70 q1 else q1)
end Go.Xml
namespace Go.Xml
open Go.Esc Go.Json
theorem flt_len (e:Int) (q:XS):(fltX e q).1=q.1:=rfl
theorem flt_ne {e:Int} {q:XS} (h:q.2≠0):fltX e q=q:=by unfold fltX; rw [if_neg h]
theorem must_le (w:List UInt8) (q:XS):(mustX w q).1.length≤q.1.length:=by
  unfold mustX; split
  · show (q.1.drop _).length≤_; rw [List.length_drop]; omega
  · rw [flt_len]; exact Nat.le_refl _
theorem must_ne {w:List UInt8} {q:XS} (h:q.2≠0):(mustX w q).2=q.2:=by
  unfold mustX; split
  · rfl
  · rw [flt_ne h]
theorem refs_ne {s:List UInt8} {q:XS} (h:q.2≠0):(refsX s q).2=q:=by
  unfold refsX; dsimp only
  split <;> split <;> simp only [flt_ne h]
end Go.Xml
namespace Go.Xml
open Go.Esc Go.Json Go.Lib
theorem enc_split:∀ (ps:List Int) (a b:List UInt8),(∀ p∈ps,isR p)→encL ps=a++b→(∀ c t,b=c::t→c.toNat<128)→∃ pa pb,ps=pa++pb∧a=encL pa∧b=encL pb
  | ps,[],b,_,h,_=>⟨[],ps,rfl,rfl,by rw [h]; rfl⟩
  | [],x::a,b,_,h,_=>by rw [encL_nil] at h; cases h
  | p::ps,x::a,b,hp,h,hb=>by
    rw [encL_cons] at h
    have hpR:=hp p List.mem_cons_self
    by_cases hl:(encodeRune p).length≤(x::a).length
    · have e:x::a=encodeRune p++(x::a).drop (encodeRune p).length:=by
        have h1:=congrArg (List.take (encodeRune p).length) h
        rw [List.take_left,List.take_append_of_le_length hl] at h1
        conv=>lhs; rw [← List.take_append_drop (encodeRune p).length (x::a),← h1]
      rw [e,List.append_assoc] at h
      obtain ⟨pa,pb,e1,e2,e3⟩:=enc_split ps _ b (fun q hq=>hp q (List.mem_cons_of_mem _ hq)) (List.append_cancel_left h) hb
      exact ⟨p::pa,pb,by rw [e1]; rfl,by rw [encL_cons,← e2]; exact e,e3⟩
    · cases b with
      | nil =>
        rw [List.append_nil] at h
        have:=congrArg List.length h
        rw [List.length_append] at this; omega
      | cons c t =>
        have hc:=hb c t rfl
        have hin:(encodeRune p)[(x::a).length]? = some c:=by
          have h1:(encodeRune p++encL ps)[(x::a).length]? = some c:=by rw [h,List.getElem?_append_right (Nat.le_refl _),Nat.sub_self]; rfl
          rwa [List.getElem?_append_left (by omega)] at h1
        have hm:=List.mem_of_getElem? hin
        by_cases hpc:p=(c.toNat:Int)
        · exfalso
          have h1:(encodeRune p).length=1:=by rw [enc_one (by omega) (by omega)]; rfl
          rw [h1,List.length_cons] at hl; omega
        · exact absurd (by simp) (enc_no hpR (c:=c.toNat) hc hpc c hm)
def Pl (l:List UInt8):Prop:=∃ ps,(∀ p∈ps,isR p∧plainR p=true)∧l=encL ps
theorem Pl.nil:Pl []:=⟨[],fun _ h=>absurd h List.not_mem_nil,rfl⟩
theorem Pl.split {a b:List UInt8} (h:Pl (a++b)) (hb:∀ c t,b=c::t→c.toNat<128):Pl a∧Pl b:=by
  obtain ⟨ps,h1,h2⟩:=h
  obtain ⟨pa,pb,rfl,e1,e2⟩:=enc_split ps a b (fun p hp=>(h1 p hp).1) h2.symm hb
  exact ⟨⟨pa,fun p hp=>h1 p (List.mem_append_left _ hp),e1⟩,⟨pb,fun p hp=>h1 p (List.mem_append_right _ hp),e2⟩⟩
end Go.Xml
namespace Go.Xml
open Go.Esc Go.Json Go.Lib
theorem enc_tail {ps:List Int} {c:UInt8} {u:List UInt8} (hp:∀ p∈ps,isR p) (hc:c.toNat<128) (h:encL ps=c::u):∃ qs,ps=(c.toNat:Int)::qs∧u=encL qs:=by
  cases ps with
  | nil=>cases h
  | cons q qs =>
    rw [encL_cons] at h
    have hq:=hp q List.mem_cons_self
    rcases enc_byte hq with ⟨h1,e⟩ | ⟨h1,e⟩
    · rw [e] at h
      injection h with e1 e2
      refine ⟨qs,?_,e2.symm⟩
      have h0:0≤q:=hq.1
      rw [← e1,byteZ q h0 (by omega)]
      congr 1; omega
    · have hne:=enc_ne q []
      cases he:encodeRune q with
      | nil=>rw [he] at hne; exact absurd rfl hne
      | cons b t =>
        rw [he] at h e
        injection h with e1 _
        have:=e b List.mem_cons_self
        rw [e1] at this; omega
end Go.Xml
namespace Go.Xml
open Go.Esc Go.Json Go.Lib
theorem Pl.tail {c:UInt8} {u:List UInt8} (h:Pl (c::u)) (hc:c.toNat<128):Pl u:=by
  obtain ⟨ps,h1,h2⟩:=h
  obtain ⟨qs,e1,e2⟩:=enc_tail (fun p hp=>(h1 p hp).1) hc h2.symm
  exact ⟨qs,fun q hq=>h1 q (by rw [e1]; exact List.mem_cons_of_mem _ hq),e2⟩
theorem Pl.behind:∀ {w r:List UInt8},Pl (w++r)→(∀ b∈w,b.toNat<128)→Pl r
  | [],_,h,_=>h
  | b::w,_,h,hw=>Pl.behind (w:=w) (Pl.tail h (hw b List.mem_cons_self)) (fun c hc=>hw c (List.mem_cons_of_mem _ hc))
theorem pre_eq {w l:List UInt8} (h:w.isPrefixOf l=true):l=w++l.drop w.length:=by
  obtain ⟨t,rfl⟩:=List.isPrefixOf_iff_prefix.1 h
  rw [List.drop_left]
theorem Pl.pre {w l:List UInt8} (h:Pl l) (hp:w.isPrefixOf l=true) (hw:∀ b∈w,b.toNat<128):Pl (l.drop w.length):=Pl.behind (w:=w) (by rw [← pre_eq hp]; exact h) hw
theorem idx_pre:∀ {w l:List UInt8} {i:Nat},idxL w l=some i→w.isPrefixOf (l.drop i)=true
  | w,[],i,h=>by
    unfold idxL at h
    split at h
    · rename_i hw; subst hw; rfl
    · cases h
  | w,b::t,i,h=>by
    unfold idxL at h
    split at h
    · rename_i hp; injection h with h; subst h; exact hp
    · cases hq:idxL w t with
      | none=>rw [hq] at h; cases h
      | some j=>rw [hq] at h; injection h with h; have h2:j+1=i:=h; rw [← h2,List.drop_succ_cons]; exact idx_pre hq
theorem Pl.at {w l:List UInt8} {i:Nat} (h:Pl l) (hi:idxL w l=some i) (hw:w≠[]) (ha:∀ b∈w,b.toNat<128):Pl (l.take i)∧Pl (l.drop i)∧Pl (l.drop (i+w.length)):=by
  have hp:=idx_pre hi
  have h1:Pl (l.take i++l.drop i):=by rw [List.take_append_drop]; exact h
  have h2:=h1.split (fun c t e=>by
    have h3:=pre_eq hp
    rw [e] at h3
    cases w with
    | nil=>exact absurd rfl hw
    | cons b w=>injection h3 with h3 _; rw [h3]; exact ha b List.mem_cons_self)
  refine ⟨h2.1,h2.2,?_⟩
  have h4:=h2.2.pre hp ha
  rwa [List.drop_drop] at h4
theorem nm_cons (b:UInt8) (l:List UInt8):nmX (b::l)=if fstX b=true then 1+(l.takeWhile nxtX).length else 0:=rfl
theorem nm_split (l:List UInt8):∀ c t,l.drop (nmX l)=c::t→nmX l=0∨c.toNat<128:=by
  cases l with
  | nil=>intro c t h; exact .inl rfl
  | cons b l =>
    intro c t h
    rw [nm_cons] at h ⊢
    by_cases hb:fstX b=true
    · rw [if_pos hb] at h
      refine .inr ?_
      rw [Nat.add_comm,List.drop_succ_cons,show l.drop (l.takeWhile nxtX).length=l.dropWhile nxtX from by
        conv=>lhs; arg 2; rw [← List.takeWhile_append_dropWhile (p:=nxtX) (l:=l)]
        rw [List.drop_left]] at h
      have hh:nxtX c=false:=by
        have h2:=List.head?_dropWhile_not nxtX l
        rw [h] at h2
        simpa using h2
      by_cases hc:c.toNat<128
      · exact hc
      · exfalso
        unfold nxtX fstX at hh
        simp [show 128≤c.toNat by omega] at hh
    · exact .inl (if_neg hb)
theorem Pl.nm {l:List UInt8} (h:Pl l) (h0:nmX l≠0):Pl (l.take (nmX l))∧Pl (l.drop (nmX l)) :=
  Pl.split (by rw [List.take_append_drop]; exact h) (fun c t e=>(nm_split l c t e).resolve_left h0)
theorem Pl.blk:∀ {l:List UInt8},Pl l→Pl (blk l)
  | [],h=>h
  | b::t,h=>by
    show Pl ((b::t).dropWhile wsB)
    rw [List.dropWhile_cons]
    split
    · rename_i hb
      refine Pl.blk (h.tail ?_)
      unfold wsB at hb
      simp only [Bool.or_eq_true,beq_iff_eq] at hb
      rcases hb with ((rfl | rfl) | rfl) | rfl <;> decide
    · exact h
end Go.Xml
namespace Go.Xml
open Go.Esc Go.Json Go.Lib
def valX (v:List UInt8 × XS):List UInt8 × XS:=refsX v.1 (if (60:UInt8)∈v.1 then fltX 70 v.2 else v.2)
theorem val_ne {v:List UInt8 × XS} (h:v.2.2≠0):(valX v).2.2=v.2.2:=by
  unfold valX
  have:(if (60:UInt8)∈v.1 then fltX 70 v.2 else v.2)=v.2:=by split; exact flt_ne h; rfl
  rw [this,refs_ne h]
end Go.Xml
namespace Go.Xml
open Go.Esc Go.Json
theorem idx_lib:∀ (l w:List UInt8),Lib.index l w=match idxL w l with | some i=>(i:Int) | none=>-1
  | [],w=>by
    unfold Lib.index idxL
    cases w with
    | nil=>rfl
    | cons b w=>rfl
  | b::l,w=>by
    rw [Lib.index,idxL,idx_lib l w]
    by_cases h:w.isPrefixOf (b::l)=true
    · rw [if_pos h,if_pos h]; rfl
    · rw [if_neg h,if_neg h]
      cases idxL w l with
      | none=>rfl
      | some i =>
        dsimp only [Option.map]
        show (if ((i:Int)==-1)=true then (-1:Int) else (i:Int)+1)=((i+1:Nat):Int)
        rw [if_neg (show ¬ ((i:Int)==-1)=true by rw [beq_iff_eq]; intro h; have:=Int.natCast_nonneg i; omega)]; rfl
theorem idx_mem (c:UInt8):∀ l:List UInt8,(idxL [c] l).isSome=decide (c∈l)
  | []=>rfl
  | b::l=>by
    rw [idxL]
    by_cases h:b=c
    · subst h; rw [if_pos (by simp [List.isPrefixOf])]; simp
    · rw [if_neg (by simpa [List.isPrefixOf] using fun e=>h e.symm)]
      have ih:=idx_mem c l
      rw [Option.isSome_map,ih]
      simp [show ¬ c=b from fun e=>h e.symm]
end Go.Xml
namespace Go.Xml
open Go.Esc Go.Json
theorem idx_part {c:UInt8}:∀ {l:List UInt8} {i:Nat},idxL [c] l=some i→l=l.take i++c::l.drop (i+1)∧(∀ b∈l.take i,b≠c)∧i<l.length
  | [],i,h=>by cases h
  | b::l,i,h=>by
    rw [idxL] at h
    by_cases hb:b=c
    · subst hb
      rw [if_pos (by simp [List.isPrefixOf])] at h
      injection h with h; subst h
      exact ⟨rfl,fun _ h=>absurd h List.not_mem_nil,Nat.succ_pos _⟩
    · rw [if_neg (by simpa [List.isPrefixOf] using fun e=>hb e.symm)] at h
      cases hi:idxL [c] l with
      | none=>rw [hi] at h; cases h
      | some j =>
        rw [hi] at h
        injection h with h; subst h
        obtain ⟨h1,h2,h3⟩:=idx_part hi
        refine ⟨?_,fun x hx=>?_,by simpa using h3⟩
        · show b::l=b::(l.take j++c::l.drop (j+1)); rw [← h1]
        · rcases List.mem_cons.1 (show x∈b::l.take j from hx) with rfl | hx
          · exact hb
          · exact h2 x hx
theorem idx_no {c:UInt8} {l:List UInt8} (h:idxL [c] l=none):∀ b∈l,b≠c:=by
  intro b hb e
  have:=idx_mem c l
  rw [h] at this
  subst e
  simp [hb] at this
theorem piecesC_keep (c:UInt8):∀ (a t:List UInt8),(∀ b∈a,b≠c)→E8 c (a++t)=(a++(E8 c t).1,(E8 c t).2)
  | [],t,_=>rfl
  | b::a,t,h=>by
    rw [List.cons_append,E8,piecesC_keep c a t (fun x hx=>h x (List.mem_cons_of_mem _ hx))]
    dsimp only
    rw [if_neg (h b List.mem_cons_self)]; rfl
theorem pieces_sign (c:UInt8) (t:List UInt8):E8 c (c::t)=([],(E8 c t).1::(E8 c t).2):=by
  rw [E8]; (try dsimp only); rw [if_pos rfl]
theorem split_pieces (c:UInt8):∀ (n:Nat) (s:List UInt8),s.length≤n→Lib.splitK [c] 0 (Lib.count s [c]) s=(E8 c s).1::(E8 c s).2∧Lib.count s [c]=(E8 c s).2.length:=by
  intro n
  induction n with
  | zero =>
    intro s h
    have:s=[]:=List.eq_nil_of_length_eq_zero (by omega)
    subst this
    rw [Lib.count_miss (by rw [idx_lib]; rfl)]
    exact ⟨rfl,rfl⟩
  | succ n ih =>
    intro s h
    have hx:=idx_lib s [c]
    cases hi:idxL [c] s with
    | none =>
      rw [hi] at hx
      rw [Lib.count_miss hx]
      have h1:=piecesC_keep c s [] (idx_no hi)
      rw [List.append_nil] at h1
      have h2:E8 c s=(s,[]):=by rw [h1]; show (s++[],[])=_; rw [List.append_nil]
      rw [h2]; exact ⟨rfl,rfl⟩
    | some i =>
      rw [hi] at hx
      dsimp only at hx
      obtain ⟨h1,h2,h3⟩:=idx_part hi
      obtain ⟨h4,h5⟩:=ih (s.drop (i+1)) (by clear hx; rw [List.length_drop]; have:=Nat.zero_le i; omega)
      have h6:E8 c s=(s.take i,(E8 c (s.drop (i+1))).1::(E8 c (s.drop (i+1))).2):=by
        conv=>lhs; rw [h1]
        rw [piecesC_keep c _ _ h2,pieces_sign,List.append_nil]
      have h7:=Lib.count_hit (s:=s) (sub:=[c]) (by simp) hx
      have h8:([c]:List UInt8).length=1:=rfl
      rw [h8] at h7
      rw [h7,h6]
      dsimp only
      refine ⟨?_,by rw [h5,List.length_cons]; omega⟩
      rw [Nat.add_comm 1,Lib.splitK,if_neg (by rw [hx,beq_iff_eq]; have:=Int.natCast_nonneg i; omega),hx,Int.toNat_natCast,Nat.add_zero,h8,h4]
end Go.Xml
namespace Go.Proofs
open Go.Shelf
def Tryz.lays171_ren:Go.Shelf.Ren:=⟨fun | 171=>21 | 243=>34 | 246=>51 | 283=>73 | 284=>74 | 285=>75 | 286=>76 | 129=>100 | 317=>101 | 318=>102 | 319=>103 | 320=>104 | 337=>122 | 338=>123 | n=>n,fun | 3=>3 | 9=>9 | 2=>2 | 4=>4 | 171=>121 | 0=>0 | 53=>122 | 37=>40 | 5=>5 | 173=>125 | 212=>149 | 51=>146 | 20=>20 | 213=>150 | 46=>120 | 232=>174 | 233=>175 | n=>n,fun | 17=>2 | 18=>6 | 19=>7 | n=>n⟩
theorem Tryz.lays171:Go.Proofs.Lays.n171 Tryz.prog Tryz.lays171_ren:={
  mixed:=by kernel_rfl
  f129:=Tryz.func100.trans (congrArg some (by kernel_rfl))
  f171:=Tryz.func21.trans (congrArg some (by kernel_rfl))
  f243:=Tryz.func34.trans (congrArg some (by kernel_rfl))
  f246:=Tryz.func51.trans (congrArg some (by kernel_rfl))
  f283:=Tryz.func73.trans (congrArg some (by kernel_rfl))
  f284:=Tryz.func74.trans (congrArg some (by kernel_rfl))
  f285:=Tryz.func75.trans (congrArg some (by kernel_rfl))
  f286:=Tryz.func76.trans (congrArg some (by kernel_rfl))
  f317:=Tryz.func101.trans (congrArg some (by kernel_rfl))
  f318:=Tryz.func102.trans (congrArg some (by kernel_rfl))
  f319:=Tryz.func103.trans (congrArg some (by kernel_rfl))
  f320:=Tryz.func104.trans (congrArg some (by kernel_rfl))
  f337:=Tryz.func122.trans (congrArg some (by kernel_rfl))
  f338:=Tryz.func123.trans (congrArg some (by kernel_rfl))
  t0:=Tryz.underlying0
  a0:=Tryz.isAgg0
  z0:=Tryz.sizeOf0
  v0:=Tryz.zeroValue0
  t2:=Tryz.underlying2
  a2:=Tryz.isAgg2
  z2:=Tryz.sizeOf2
  v2:=Tryz.zeroValue2
  t3:=Tryz.underlying3
  a3:=Tryz.isAgg3
  z3:=Tryz.sizeOf3
  v3:=Tryz.zeroValue3
  t4:=Tryz.underlying4
  a4:=Tryz.isAgg4
  z4:=Tryz.sizeOf4
  v4:=Tryz.zeroValue4
  t5:=Tryz.underlying5
  a5:=Tryz.isAgg5
  z5:=Tryz.sizeOf5
  v5:=Tryz.zeroValue5
  t9:=Tryz.underlying9
  a9:=Tryz.isAgg9
  z9:=Tryz.sizeOf9
  v9:=Tryz.zeroValue9
  t20:=Tryz.underlying20
  a20:=Tryz.isAgg20
  z20:=Tryz.sizeOf20
  v20:=Tryz.zeroValue20
  t37:=Tryz.underlying40
  a37:=Tryz.isAgg40
  z37:=Tryz.sizeOf40
  v37:=Tryz.zeroValue40
  t46:=Tryz.underlying120
  a46:=Tryz.isAgg120
  z46:=Tryz.sizeOf120
  v46:=Tryz.zeroValue120
  t51:=Tryz.underlying146
  a51:=Tryz.isAgg146
  z51:=Tryz.sizeOf146
  v51:=Tryz.zeroValue146
  t53:=Tryz.underlying122
  a53:=Tryz.isAgg122
  z53:=Tryz.sizeOf122
  v53:=Tryz.zeroValue122
  t171:=Tryz.underlying121
  a171:=Tryz.isAgg121
  z171:=Tryz.sizeOf121
  v171:=Tryz.zeroValue121
  t173:=Tryz.underlying125
  a173:=Tryz.isAgg125
  z173:=Tryz.sizeOf125
  v173:=Tryz.zeroValue125
  t212:=Tryz.underlying149
  a212:=Tryz.isAgg149
  z212:=Tryz.sizeOf149
  v212:=Tryz.zeroValue149
  t213:=Tryz.underlying150
  a213:=Tryz.isAgg150
  z213:=Tryz.sizeOf150
  t232:=Tryz.underlying174
  a232:=Tryz.isAgg174
  z232:=Tryz.sizeOf174
  v232:=Tryz.zeroValue174
  t233:=Tryz.underlying175
  a233:=Tryz.isAgg175
  z233:=Tryz.sizeOf175
  v233:=Tryz.zeroValue175
  g17:=by kernel_rfl
  g18:=by kernel_rfl
  g19:=by kernel_rfl }
open Go.RowKit Go.Sort Go.Lib in
/-- THE ROAD WITHOUT THE TABLE: 0 <= i < 100: NO PREMISE ON THE WORLD, AND THE WORLD IS AS IT WAS: a row that keeps its argument in that range need list no table ('laid = []'). (LAID: no walk: one application.) -/
theorem Tryz.strconv_Itoa_small (i:Nat) (hi:i<100) (w:World) :
    Calls Tryz.prog 21 #[.int .i64 i] w fun e w'=>e=.returned (.string ⟨(Lib.decDigits i).toArray⟩)∧w'=w:=Any.strconv_Itoa_small Tryz.lays171 i hi w
def Tryz.lays146_ren:Go.Shelf.Ren:=⟨fun | 146=>22 | 221=>35 | 268=>52 | 138=>53 | 143=>54 | 195=>77 | 197=>68 | 218=>78 | 219=>79 | 260=>88 | 217=>105 | 225=>106 | 224=>107 | 267=>108 | 266=>124 | 314=>125 | n=>n,fun | 9=>9 | 31=>22 | 3=>3 | 4=>4 | 0=>0 | 105=>114 | 21=>21 | 5=>5 | 46=>120 | 119=>157 | 139=>160 | 138=>159 | 146=>170 | 51=>146 | n=>n,fun | 1=>3 | 3=>4 | 4=>5 | n=>n⟩
theorem Tryz.lays146:Go.Proofs.Lays.n146 Tryz.prog Tryz.lays146_ren:={
  mixed:=by kernel_rfl
  f138:=Tryz.func53.trans (congrArg some (by kernel_rfl))
  f143:=Tryz.func54.trans (congrArg some (by kernel_rfl))
  f146:=Tryz.func22.trans (congrArg some (by kernel_rfl))
  f195:=Tryz.func77.trans (congrArg some (by kernel_rfl))
  f197:=Tryz.func68.trans (congrArg some (by kernel_rfl))
  f217:=Tryz.func105.trans (congrArg some (by kernel_rfl))
  f218:=Tryz.func78.trans (congrArg some (by kernel_rfl))
  f219:=Tryz.func79.trans (congrArg some (by kernel_rfl))
  f221:=Tryz.func35.trans (congrArg some (by kernel_rfl))
  f224:=Tryz.func107.trans (congrArg some (by kernel_rfl))
  f225:=Tryz.func106.trans (congrArg some (by kernel_rfl))
  f260:=Tryz.func88.trans (congrArg some (by kernel_rfl))
  f266:=Tryz.func124.trans (congrArg some (by kernel_rfl))
  f267:=Tryz.func108.trans (congrArg some (by kernel_rfl))
  f268:=Tryz.func52.trans (congrArg some (by kernel_rfl))
  f314:=Tryz.func125.trans (congrArg some (by kernel_rfl))
  t0:=Tryz.underlying0
  a0:=Tryz.isAgg0
  z0:=Tryz.sizeOf0
  v0:=Tryz.zeroValue0
  t3:=Tryz.underlying3
  a3:=Tryz.isAgg3
  z3:=Tryz.sizeOf3
  v3:=Tryz.zeroValue3
  t4:=Tryz.underlying4
  a4:=Tryz.isAgg4
  z4:=Tryz.sizeOf4
  v4:=Tryz.zeroValue4
  t5:=Tryz.underlying5
  a5:=Tryz.isAgg5
  z5:=Tryz.sizeOf5
  v5:=Tryz.zeroValue5
  t9:=Tryz.underlying9
  a9:=Tryz.isAgg9
  z9:=Tryz.sizeOf9
  v9:=Tryz.zeroValue9
  t21:=Tryz.underlying21
  a21:=Tryz.isAgg21
  z21:=Tryz.sizeOf21
  v21:=Tryz.zeroValue21
  t31:=Tryz.underlying22
  a31:=Tryz.isAgg22
  z31:=Tryz.sizeOf22
  v31:=Tryz.zeroValue22
  t46:=Tryz.underlying120
  a46:=Tryz.isAgg120
  z46:=Tryz.sizeOf120
  v46:=Tryz.zeroValue120
  t51:=Tryz.underlying146
  a51:=Tryz.isAgg146
  z51:=Tryz.sizeOf146
  v51:=Tryz.zeroValue146
  t105:=Tryz.underlying114
  a105:=Tryz.isAgg114
  z105:=Tryz.sizeOf114
  v105:=Tryz.zeroValue114
  t119:=Tryz.underlying157
  a119:=Tryz.isAgg157
  z119:=Tryz.sizeOf157
  t138:=Tryz.underlying159
  a138:=Tryz.isAgg159
  z138:=Tryz.sizeOf159
  v138:=Tryz.zeroValue159
  t139:=Tryz.underlying160
  a139:=Tryz.isAgg160
  z139:=Tryz.sizeOf160
  v139:=Tryz.zeroValue160
  t146:=Tryz.underlying170
  a146:=Tryz.isAgg170
  z146:=Tryz.sizeOf170
  v146:=Tryz.zeroValue170
  g1:=by kernel_rfl
  g3:=by kernel_rfl
  g4:=by kernel_rfl }
open Go.RowKit Go.Lib in
/-- strings.Split. (LAID: no walk: one application.) -/
theorem Tryz.strings_Split (s sep:ByteArray) (m:Int) (w:World) (hs:s.size<4294967281) (hm:w.cell? ⟨3,0,none⟩=some (.int .i64 m)) (h1:1≤sep.size) :
    Calls Tryz.prog 22 #[.string s,.string sep] w fun e w' =>
      e=.returned (.slice (some ⟨w.heap.size,0,none⟩) (Lib.countB s sep+1) (Lib.countB s sep+1))∧w'=w.alloc (.cells ((Lib.splitB sep 0 (Lib.countB s sep) s).map Value.string).toArray 9):=Any.strings_Split Tryz.lays146 (by kernel_rfl) s sep m w hs hm h1
end Go.Proofs
namespace Go.Proofs.YtmnihmfifpaaoaaGreatDoor
open Go.Sw Go.Sha Go.Esc Go.RowKit Go.Json Go.Xml Go.Gr
structure K6 (W0:World):Prop where
  base:F2 W0
  max:∃ m,3<W0.heap.size∧W0.cell? ⟨3,0,none⟩=some (.int .i64 m)
theorem Tri_alloc {P:Program} {f:FuncId} {args:Array Value} {W0:World} {H:List Grp} {v:Nat→Value} {o:Obj} (h:∀ w,Sat W0 H w→Calls P f args w fun e w'=>e=.returned (v w.heap.size)∧w'=w.alloc o):Tri P f args W0 H (fun u H'=>∃ b,u=v b∧H'=[(b,o)]::H) :=
  fun w hs=>(h w hs).mono fun e w' ⟨he,hw⟩=>⟨_,_,he,⟨w.heap.size,rfl,rfl⟩,by subst hw; exact hs.new rfl rfl rfl rfl⟩
theorem piece_one {c p:UInt8} (h:p≠c):E8 c [p]=([p],[]):=by
  rw [E8]; (try dsimp only); rw [if_neg h]; rfl
theorem split1 (p:UInt8) (hp:p≠47) (W0:World) (H:List Grp) (hX:K6 W0):Tri Tryz.prog 22 #[.string (bk [p]),.string (mB #[47])] W0 H (fun v H'=>∃ b,v=.slice (some ⟨b,0,none⟩) 1 1∧H'=[(b,.cells #[.string (bk [p])] 9 (0,0))]::H):=by
  obtain ⟨m,h1,h2⟩:=hX.max
  have hs:=split_pieces 47 1 [p] (Nat.le_refl _)
  rw [piece_one hp] at hs
  have hc:Lib.countB (bk [p]) (mB #[47])=0:=hs.2
  have hd:(Lib.splitB (mB #[47]) 0 (Lib.countB (bk [p]) (mB #[47])) (bk [p])).map Value.string=[Value.string (bk [p])]:=by
    have h3:=Lib.splitB_data (mB #[47]) 0 (Lib.countB (bk [p]) (mB #[47])) (bk [p])
    have h4:Lib.splitK [47] 0 (Lib.countB (bk [p]) (mB #[47])) [p]=[[p]]:=hs.1
    have h5:(Lib.splitB (mB #[47]) 0 (Lib.countB (bk [p]) (mB #[47])) (bk [p])).map (·.data.toList)=[[p]]:=h3.trans h4
    generalize Lib.splitB (mB #[47]) 0 (Lib.countB (bk [p]) (mB #[47])) (bk [p])=L at h5 ⊢
    obtain ⟨s,rfl⟩:=List.length_eq_one_iff.1 (show L.length=1 by have:=congrArg List.length h5; rwa [List.length_map] at this)
    rw [List.map_cons,List.map_nil] at h5
    injection h5 with h5 _
    rw [List.map_cons,List.map_nil,show s=bk [p] from ByteArray.ext (Array.toList_inj.1 h5)]
  refine (Tri_alloc (v:=fun b=>.slice (some ⟨b,0,none⟩) (Lib.countB (bk [p]) (mB #[47])+1) (Lib.countB (bk [p]) (mB #[47])+1)) (o:=.cells ((Lib.splitB (mB #[47]) 0 (Lib.countB (bk [p]) (mB #[47])) (bk [p])).map Value.string).toArray 9 (0,0)) (fun w' hs=>Tryz.strings_Split (bk [p]) (mB #[47]) m w' (by rw [bk_size]; show 1<4294967281; omega) (cell_base hs h1 h2) (Nat.le_refl _))).post fun v H' ⟨b,hv,hH⟩=>⟨H',⟨b,?_,?_⟩,fun _ h=>h⟩
  · rw [hv,hc]
  · rw [hH,hd]
theorem itoa1 (k:Int) (hk:0≤k∧k≤4) (W0:World) (H:List Grp):Tri Tryz.prog 21 #[.int .i64 k] W0 H (fun v H'=>v=.string (itB k)∧H'=H) :=
  by
  obtain ⟨i,rfl⟩:=Int.eq_ofNat_of_zero_le hk.1
  exact Tri_below (fun w _=>(Tryz.strconv_Itoa_small i (by omega) w).mono fun _ _ ⟨h1,h2⟩=>⟨by rw [h1]; unfold itB Lib.itoa; rw [if_neg (by omega)]; rfl,by rw [h2]; exact ⟨rfl,rfl,rfl,Nat.le_refl _,fun _ _=>rfl⟩⟩)
abbrev plB (p:UInt8):ByteArray:=ByteArray.mk #[47,p]
theorem pl_ne (p:UInt8):((plB p).toList==eB.toList)=false:=(eqBf (plB p) eB).2 (by simp [])
theorem pl_at (p:UInt8):C7 (plB p) 0=47:=rfl
theorem at_ (x:JV) (an:Option Addr) (cn:Nat) (al:Option Addr) (cl:Nat) (cs:List Value) (S:Nat→Obj→Prop) (hrn:Rd S an (strV x.names)) (hrl:Rd S al cs) (hrc:JRdL S x.list cs) (hcl:x.list.length≤cl) (hcn:cnJ x≤1000000000) (hk5:x.kind≠5) (p:UInt8) (hp:p≠47) (W0:World) (H:List Grp) (hS:∀ y o,S y o→At W0 H y o) (hX:K6 W0):Tri Tryz.prog 13 #[.agg #[.int .i64 x.kind,.string (bk x.text),.slice an x.names.length cn,.slice al x.list.length cl],.string (plB p)] W0 H (fun v H'=>∃ an n cn al m cl,v=.agg #[.int .i64 (atJ x [p]).kind,.string (bk (atJ x [p]).text),.slice an n cn,.slice al m cl]∧H'=H):=by
 refine D4 66 Tryz.func13 ?_
 refine A1 (A2 (G4 (.agg #[.int .i64 x.kind,.string (bk x.text),.slice an x.names.length cn,.slice al x.list.length cl]) (fun b1=>I1 (.agg #[.int .i64 0,.string eB,.slice none 0 0,.slice none 0 0]) (fun b2=>?_))))
 refine A7 [] [1,2,4] (k:=A0 (A1 (A1 (A2 (A3 (j:=2) [0,0] (k:=D2 11 (x:=.bool ((plB p).toList==eB.toList)) (y:=.bool false) (by rw [pl_ne]) (A7 [] [1,2,4,11] (k:=A0 ?_))))))))
 refine C2 kr (A8 (A0 (A1 (A1 (A2 (A3 (j:=1) [0] (k:=GL_ixq (plB p) 0 (by intro _; exact ⟨by omega,by show (0:Int)<2; omega⟩) ?_)))))))
 have hb3:=D0 (plB p) 0
 refine D2 14 (x:=.int .u8 (C7 (plB p) 0)) (y:=.int .u8 47) (by rw [pl_at]) (A7 [0] [1,2,4,15] (k:=A0 (C2 kr (A8 (A0 (A1 (A1 (A2 ?_))))))))
 refine A3 (j:=1) [0] (k:=I4 (plB p) 1 ((plB p).size:Int) (by intro _; exact ⟨by omega,by show (1:Int)≤2; omega,by show (2:Int)≤2; omega⟩) (GL_env (E':=[⟨18,[],.string (bk [p])⟩,⟨17,[],.string (plB p)⟩,⟨1,[],.string (plB p)⟩,⟨2,[],pt b1⟩,⟨4,[],pt b2⟩,⟨15,[],.bool false⟩]) (by have hz:([⟨18,[],.string ((plB p).extract 1 (plB p).size)⟩,⟨17,[],.string (plB p)⟩,⟨1,[],.string (plB p)⟩,⟨2,[],pt b1⟩,⟨4,[],pt b2⟩,⟨15,[],.bool false⟩]:List Sl)=[⟨18,[],.string (bk [p])⟩,⟨17,[],.string (plB p)⟩,⟨1,[],.string (plB p)⟩,⟨2,[],pt b1⟩,⟨4,[],pt b2⟩,⟨15,[],.bool false⟩]:=kr; exact Eq.trans kr hz) (C3 Tryz.func22 (split1 p hp _ _ hX) ?_)))
 rintro _ _ ⟨sb,rfl,rfl⟩
 refine A7 [0,0] [2,4,19,20,21] (k:=A0 (C8 (L3 2 (F3 (A1 (G_p [0] [2,4,19,20,21,22] (k:=A0 (A1 ?_))))))))
 refine D3 kr (A8 (A0 (A1 (C8 (A1 (A2 (GL_iq (a:=(some ⟨sb,0,none⟩)) (S:=(inG [(sb,.cells #[.string (bk [p])] 9 (0,0))])) (cs:=[.string (bk [p])]) 1 0 1 Rd.lit (by exact ⟨by omega,by show (0:Int)<1; omega,List.cons_ne_nil _ _⟩) (GL_lsq (a:=(some ⟨sb,0,none⟩)) (S:=(inG [(sb,.cells #[.string (bk [p])] 9 (0,0))])) (cs:=[.string (bk [p])]) (0 * 1) (.string (bk [p])) Rd.lit (H7 0 rfl) (fun _=>rfl) ?_))))))))
 refine A6 (E':=[⟨2,[],pt b1⟩,⟨4,[],pt b2⟩,⟨6,[],.string (bk [p])⟩,⟨19,[],.slice (some ⟨sb,0,none⟩) 1 1⟩,⟨20,[],.int .i64 1⟩,⟨21,[],.int .i64 0⟩]) [0] [2,4,6,19,20,21] (k:=A0 (A1 (A2 (I1 (.agg #[.int .i64 0,.string eB,.slice none 0 0,.slice none 0 0]) (fun b4=>A7 [] [2,4,6,7,19,20,21] (k:=A0 (A1 (A1 ?_))))))))
 refine A2 (A3 (j:=1) [0] (k:=B8 3 0 rfl rfl (A3 (j:=3) [0] (k:=D2 27 (x:=.bool (x.kind==5)) (y:=.bool false) (by rw [beq_eq_false_iff_ne.2 hk5]) (A7 [] [2,4,6,7,19,20,21,27] (k:=A0 (C2 kr (A2 ?_))))))))
 refine F1 3 0 4 rfl (A3 (j:=2) [0] (k:=C3 Tryz.func24 (jget_ x an cn al cl cs S hrn hrl hrc hcl hcn [p] _ _ (fun y o h=>At.cons (At.cons (At.cons (At.cons (hS y o h)))))) ?_))
 rintro _ _ ⟨c0,c1,c2,c3,hG,rfl,rfl⟩
 obtain ⟨y,hy⟩:∃ y,y=(getP x [p]).getD nul:=⟨_,rfl⟩
 rw [← hy] at hG
 obtain ⟨yan,yal,ycn,ycl,ycs,hE,_,_,_⟩:=hG.shape
 injection hE with e1 hE; injection hE with e2 hE; injection hE with e3 hE; injection hE with e4 _
 subst e1 e2 e3 e4
 refine A3 (j:=6) [0,0,0] (k:=D5 0 0 (.agg #[.int .i64 y.kind,.string (bk y.text),.slice yan y.names.length ycn,.slice yal y.list.length ycl]) rfl (A7 [] [2,4,7,19,20,21] (k:=A0 (A2 (F1 0 0 4 rfl (D5 3 0 (.agg #[.int .i64 y.kind,.string (bk y.text),.slice yan y.names.length ycn,.slice yal y.list.length ycl]) rfl (A7 [] [2,4,19,20,21] (k:=D8 ?_))))))))
 refine A0 (G_p [0,0] [2,4,19,20,21] (k:=N_rd (F3 (A1 (C4 (E':=[⟨2,[],pt b1⟩,⟨4,[],pt b2⟩,⟨19,[],.slice (some ⟨sb,0,none⟩) 1 1⟩,⟨20,[],.int .i64 1⟩,⟨21,[],.int .i64 1⟩,⟨22,[],.bool false⟩]) [0] [2,4,19,20,21,22] (k:=A0 (A1 (C2 kr ?_))))))))
 refine I3 (B3 (B3 (C6 (A0 (A1 (A2 (F1 3 0 4 rfl (D5 2 0 (.agg #[.int .i64 y.kind,.string (bk y.text),.slice yan y.names.length ycn,.slice yal y.list.length ycl]) rfl ?_))))))))
 refine A6 (E':=[⟨4,[],pt b2⟩]) [] [4] (k:=A0 (B0 (F8 [.cell 4 30] [.agg #[.int .i64 y.kind,.string (bk y.text),.slice yan y.names.length ycn,.slice yal y.list.length ycl]] rfl (.cons (.aq 2 0 rfl) (.nil)) rfl ⟨_,?_,fun w h=>(h.pk 4 [])⟩)))
 subst hy; exact ⟨_,_,_,_,_,_,rfl,rfl⟩
theorem shallow_ (k:Int) (hk:0≤k∧k≤4) (t:ByteArray) (ht:t.size≤4611686018427387904) (an:Option Addr) (n cn:Nat) (al:Option Addr) (m cl:Nat) (W0:World) (H:List Grp):Tri Tryz.prog 12 #[.agg #[.int .i64 k,.string t,.slice an n cn,.slice al m cl]] W0 H (fun v H'=>v=.string ((itB k++ByteArray.mk #[32])++t)∧H'=H):=by
 have hit:=it_size hk
 refine D4 24 Tryz.func12 ?_
 refine A1 (A2 (G4 (.agg #[.int .i64 k,.string t,.slice an n cn,.slice al m cl]) (fun b1=>A6 (E':=[⟨1,[],pt b1⟩]) [0] [1] (k:=A0 (A1 (A2 (A3 (j:=1) [0] (k:=B8 0 1 rfl rfl ?_))))))))
 refine A6 (E':=[⟨1,[],pt b1⟩,⟨3,[],.string t⟩]) [0] [1,3] (k:=A0 (A1 (A1 (A2 (A3 (j:=1) [0] (k:=B8 0 0 rfl rfl (A3 (j:=3) [0] (k:=D2 8 (x:=.bool (k==5)) (y:=.bool false) (by rw [beq_eq_false_iff_ne.2 (show k≠5 by omega)]) ?_))))))))
 refine A3 (j:=5) [0,0] (k:=GL_load (ch:=[(9,false)]) (b:=b1) (off:=0) (v:=.int .i64 k) (hA:=At.grp 0 0 rfl rfl) (k:=A3 (j:=7) [0] (k:=GL_evG 12 [(9,false)] (x:=.bool (k==6)) (y:=.bool false) (by rw [beq_eq_false_iff_ne.2 (show k≠6 by omega)]) (A7 [3] [1,3,13] (k:=A0 (C2 kr (A8 (A0 ?_))))))))
 refine A1 (A2 (A3 (j:=1) [0] (k:=B8 0 0 rfl rfl (K5 Tryz.func21 (itoa1 k hk _ _) (GL_ccq (itB k) (mB #[32]) (by intro _; simp only [hit]; first | (show 1+1≤_; omega) | (show 1+1+t.size≤_; omega)) (A3 (j:=5) [0] (k:=GL_ccq ((itB k)++(mB #[32])) t (by intro _; simp only [ByteArray.size_append,hit]; first | (show 1+1≤_; omega) | (show 1+1+t.size≤_; omega)) (A7 [0] [2] (k:=?_)))))))))
 refine A0 (B0 (E6 (fun w h=>h.erase 0) (B6 [.tmp 2] [.string (((itB k)++(mB #[32]))++t)] (k:=?_))))
 exact ⟨rfl,rfl⟩
end Go.Proofs.YtmnihmfifpaaoaaGreatDoor
namespace Go.Proofs.YtmnihmfifpaaoaaGreatDoor
open Go.Sw Go.Sha Go.Esc Go.RowKit Go.Json Go.Xml Go.Gr
theorem neqB {a b:ByteArray} (h:(!(a.toList==b.toList))=true):a≠b:=by rintro rfl; simp at h
theorem eqqB {a b:ByteArray} (h:(!(a.toList==b.toList))=false):a=b:=ByteArray.ext (Array.toList_inj.1 ((eqB a b).1 (by simpa using h)))
theorem new_  (W0:World) (H:List Grp):Tri Tryz.prog 5 #[] W0 H (fun v H'=>∃ cb mb,v=pt cb∧H'=[(cb,.cells #[.map (some mb)] 45 (0,0))]::[(mb,.map (B5 []) 0)]::H):=by
 refine D4 4 Tryz.func5 ?_
 refine A1 (C4 (E':=[]) [0] [] (k:=A0 (A1 (A2 (GL_makeMap (i:=0) (ch:=[]) rfl rfl kr kr kr (fun b1=>A3 (j:=2) [0] (k:=G4 (.agg #[.map (some b1)]) (fun b2=>A6 (E':=[⟨0,[],pt b2⟩]) [0] [0] (k:=?_)))))))))
 refine A0 (B0 (B6 [.tmp 0] [pt b2] (k:=?_)))
 exact ⟨_,_,rfl,rfl⟩
theorem one_ok (k:ByteArray) (v:Value):MapOk [(k,v,0)] 1:=⟨List.pairwise_singleton _ _,by simp,fun e h=>by rw [List.mem_singleton.1 h]; show 0<1; omega⟩
theorem fresh_ (tx was:ByteArray) (rb:Nat) (x:JV) (an:Option Addr) (cn:Nat) (al:Option Addr) (cl:Nat) (cs:List Value) (S:Nat→Obj→Prop) (hrn:Rd S an (strV x.names)) (hrl:Rd S al cs) (hrc:JRdL S x.list cs) (hcl:x.list.length≤cl) (hcn:cnJ x≤1000000000) (hk5:x.kind≠5) (p:UInt8) (hp:p≠47) (hfl:Flat (atJ x [p])) (hft:(bk (atJ x [p]).text).size≤4611686018427387904) (W0:World) (H:List Grp) (hS:∀ y o,S y o→At W0 H y o) (hX:K6 W0):Tri Tryz.prog 14 #[.agg #[.string tx,.map (some rb)],.agg #[.int .i64 x.kind,.string (bk x.text),.slice an x.names.length cn,.slice al x.list.length cl]] W0 ([(rb,.map (B5 ([(plB p,.string was,0)])) 1)]::H) (fun v H'=>v=.bool (decide (shB (atJ x [p])=was))∧H'=([(rb,.map (B5 ([(plB p,.string was,0)])) 1)]::H)):=by
 have hmok:=one_ok (plB p) (.string was)
 refine D4 21 Tryz.func14 ?_
 refine A1 (A2 (G4 (.agg #[.string tx,.map (some rb)]) (fun b1=>G4 (.agg #[.int .i64 x.kind,.string (bk x.text),.slice an x.names.length cn,.slice al x.list.length cl]) (fun b2=>?_))))
 refine A6 (E':=[⟨2,[],pt b1⟩,⟨3,[],pt b2⟩]) [0] [2,3] (k:=A0 (A1 (A1 (A2 (A3 (j:=1) [0] (k:=B8 1 1 rfl rfl (GL_range (i:=2) (ch:=[]) (kt:=9) (et:=9) (r:=rb) (c:=1) (m:=[(plB p,.string was,0)]) rfl rfl kr kr kr kr kr (At.grp 2 0 rfl rfl) (fun it3=>A6 (E':=[⟨3,[],pt b2⟩,⟨9,[],pt it3⟩]) [] [3,9] (k:=?_)))))))))
 refine A0 (C8 (G_loop (EI:=(fun ξ:SM × SM=>[⟨3,[],pt b2⟩,⟨9,[],pt it3⟩])) (HI:=(fun ξ:SM × SM=>([(it3,.mapIter (some rb) 1 (H4 ξ.1) 1)]::[(b2,.cells #[.int .i64 x.kind,.string (bk x.text),.slice an x.names.length cn,.slice al x.list.length cl] 30 (0,0))]::[(b1,.cells #[.string tx,.map (some rb)] 48 (0,0))]::[(rb,.map (B5 ([(plB p,.string was,0)])) 1)]::H))) (Φ:=(fun ξ:SM × SM=>((ξ.1++ξ.2).Perm [(plB p,.string was,0)])∧(∀ e∈ξ.1,e.2.1=.string (shB (atJ x [p]))))) (μ:=(fun ξ:SM × SM=>ξ.2.length)) (s0:=([],[(plB p,.string was,0)])) [3,9] kr (by rfl) ⟨(List.Perm.refl _),(fun e h=>absurd h List.not_mem_nil)⟩ ?_))
 rintro ⟨dn,rest⟩ ⟨hpm,hok⟩
 refine A1 (A2 (GL_next (i:=0) (ch:=[]) (it:=it3) (r:=rb) (c:=1) (j:=0) (q:=0) (m:=[(plB p,.string was,0)]) (dn:=dn) (rest:=rest) rfl rfl kr kr kr kr rfl rfl (At.grp 3 0 rfl rfl) hmok hpm (fun hend8=>?_) (fun e4 rest5 hp6 hq7=>?_)))
 ·
  refine A7 [0] [3,9,11] (k:=A0 (A1 (C2 kr (I3 (B3 (B3 (C6 (A0 ?_))))))))
  refine A1 (C4 (E':=[⟨4,[],.bool true⟩]) [0] [4] (k:=A0 (B0 (E6 (fun w h=>h.erase 2) (E6 (fun w h=>h.erase 1) (E6 (fun w h=>h.erase 0) (B6 [.tmp 4] [.bool true] (k:=?_))))))))
  exact ⟨congrArg Value.bool (decide_eq_true (by have h1:=hpm.mem_iff.2 (List.mem_singleton.2 rfl); rw [hend8,List.append_nil] at h1; have h2:=hok _ h1; injection h2 with h2; exact h2.symm)).symm,rfl⟩
 ·
  have hmm:e4=(plB p,.string was,0):=List.mem_singleton.1 (hq7.mem_iff.1 (by simp))
  subst hmm
  refine A7 [0] [3,9,11] (k:=A0 (A1 (D3 kr (A8 (A0 (C8 (A1 (A2 ?_))))))))
  refine GL_entry (i:=0) (ch:=[]) (it:=it3) (r:=rb) (c:=1) (m:=[(plB p,.string was,0)]) (dn:=dn) (e:=((plB p,.string was,0):ByteArray × Value × Nat)) rfl rfl kr kr kr kr (At.grp 0 0 rfl rfl) (At.grp 3 0 rfl rfl) hmok (hq7.mem_iff.1 (by simp)) (A7 [0,0,0,0] [3,5,6,9] (k:=A0 (A1 (A2 (F1 1 0 4 rfl (A3 (j:=2) [0] (k:=C3 Tryz.func13 (at_ x an cn al cl cs S hrn hrl hrc hcl hcn hk5 p hp _ _ (fun y o h=>At.cons (At.cons (At.cons (At.cons (hS y o h))))) hX) ?_)))))))
  rintro _ _ ⟨an9,n9,cn9,al9,m9,cl9,rfl,rfl⟩
  refine K5 (vs:=[.agg #[.int .i64 ((atJ x [p]).kind),.string (bk (atJ x [p]).text),.slice an9 n9 cn9,.slice al9 m9 cl9]]) Tryz.func12 (shallow_ ((atJ x [p]).kind) hfl (bk (atJ x [p]).text) hft _ _ _ _ _ _ _ _) (A7 [0,0] [3,9,20] (k:=A0 (C5 (b:=!(((itB ((atJ x [p]).kind)++ByteArray.mk #[32])++(bk (atJ x [p]).text)).toList==was.toList)) kr (fun hc10=>?_) (fun hc10=>?_))))
  ·
   have hne:shB (atJ x [p])≠was:=neqB hc10
   refine A1 (C4 (E':=[⟨4,[],.bool false⟩]) [0] [4] (k:=A0 (B0 (B4 (A5 (B4 (A5 (E6 (fun w h=>h.erase 2) ?_))))))))
   refine E6 (fun w h=>h.erase 1) (E6 (fun w h=>h.erase 0) (B6 [.tmp 4] [.bool false] (k:=?_)))
   exact ⟨congrArg Value.bool (decide_eq_false hne).symm,rfl⟩
  ·
   have hsm:shB (atJ x [p])=was:=eqqB hc10
   refine A8 (D8 (J1 (s':=(dn++[((plB p,.string was,0):ByteArray × Value × Nat)],rest5)) [3,9] kr (by rfl) ⟨hq7,(fun e h=>by rcases List.mem_append.1 h with h | h; exact hok e h; rw [List.mem_singleton.1 h]; exact congrArg Value.string hsm.symm)⟩ (by have:=hp6.length_eq; simp only [List.length_cons] at this; show rest5.length<rest.length; omega)))
theorem get_ (cb mb:Nat) (ms:SM) (mc:Nat) (name:ByteArray) (tx was:ByteArray) (rb:Nat) (hg:mget ms name=some (.agg #[.string tx,.map (some rb)])) (x:JV) (an:Option Addr) (cn:Nat) (al:Option Addr) (cl:Nat) (cs:List Value) (S:Nat→Obj→Prop) (hrn:Rd S an (strV x.names)) (hrl:Rd S al cs) (hrc:JRdL S x.list cs) (hcl:x.list.length≤cl) (hcn:cnJ x≤1000000000) (hk5:x.kind≠5) (p:UInt8) (hp:p≠47) (hfl:Flat (atJ x [p])) (hft:(bk (atJ x [p]).text).size≤4611686018427387904) (W0:World) (H:List Grp) (hS:∀ y o,S y o→At W0 H y o) (hX:K6 W0):Tri Tryz.prog 8 #[pt cb,.string name,.agg #[.int .i64 x.kind,.string (bk x.text),.slice an x.names.length cn,.slice al x.list.length cl]] W0 ([(cb,.cells #[.map (some mb)] 45 (0,0))]::[(mb,.map (B5 ms) mc)]::[(rb,.map (B5 ([(plB p,.string was,0)])) 1)]::H) (fun v H'=>v=.tuple #[.string (if shB (atJ x [p])=was then tx else ByteArray.mk #[]),.bool (decide (shB (atJ x [p])=was))]∧H'=([(cb,.cells #[.map (some mb)] 45 (0,0))]::[(mb,.map (B5 ms) mc)]::[(rb,.map (B5 ([(plB p,.string was,0)])) 1)]::H)):=by
 refine D4 31 Tryz.func8 ?_
 refine A1 (A2 (G4 (.agg #[.int .i64 x.kind,.string (bk x.text),.slice an x.names.length cn,.slice al x.list.length cl]) (fun b1=>A7 [0,0] [0,1,5] (k:=A0 (A1 (A1 (G_p [0,0] [0,1,5,11] (k:=A0 ?_))))))))
 refine C2 kr (A8 (A0 (A1 (A2 (A3 (j:=3) [0,0,0] (k:=B8 1 0 rfl rfl (A3 (j:=5) [0] (k:=GL_lookup (i:=5) (ch:=[]) (kt:=9) (et:=48) (r:=mb) (c:=mc) (m:=ms) (k:=name) (z:=.agg #[.string eB,.map none]) (ov:=(some (.agg #[.string tx,.map (some rb)]))) rfl rfl kr kr kr kr kr kr kr kr (At.grp 2 0 rfl rfl) (fun _=>hg) ?_))))))))
 refine A3 (j:=9) [0,0,0] (k:=I1 (.agg #[.string eB,.map none]) (fun b2=>D5 0 0 (.agg #[.string tx,.map (some rb)]) rfl (A7 [0] [5,8,9] (k:=A0 (A1 (A1 (A2 (A3 (j:=3) [0,0,0] (k:=?_)))))))))
 refine GL_loadA (ch:=[(23,false)]) (b:=b2) (off:=0) (l:=[.string tx,.map (some rb)]) (hA:=At.grp 0 0 rfl rfl) (k:=GL_loadA (ch:=[(23,false)]) (b:=b1) (off:=0) (l:=[.int .i64 x.kind,.string (bk x.text),.slice an x.names.length cn,.slice al x.list.length cl]) (hA:=At.grp 1 0 rfl rfl) (k:=J6 0 [4] (GL_call (ch:=[(23,false)]) (f:=14) (fst:=#[]) (caps:=#[]) (vs:=[.agg #[.string tx,.map (some rb)],.agg #[.int .i64 x.kind,.string (bk x.text),.slice an x.names.length cn,.slice al x.list.length cl]]) (hf:=Tryz.func14) (hsure:=K3 kr) (hc:=fresh_ tx was rb x an cn al cl cs S hrn hrl hrc hcl hcn hk5 p hp hfl hft _ _ (fun y o h=>At.cons (At.cons (At.cons (At.cons (hS y o h))))) hX) (k:=?_))))
 rintro _ _ ⟨rfl,rfl⟩
 refine A7 [0,3] [8,28] (k:=A0 (C5 (b:=!(decide (shB (atJ x [p])=was))) kr (fun hc3=>?_) (fun hc3=>?_)))
 ·
  have hne:shB (atJ x [p])≠was:=by simpa using hc3
  refine A1 (G_p [0,0] [6,7] (k:=A0 (B0 (A5 (N_pk 2 [3,3,0] (B6 [.tmp 6,.tmp 7] [.string eB,.bool false] (k:=?_)))))))
  exact ⟨by rw [if_neg hne,decide_eq_false hne]; rfl,(by kernel_rfl)⟩
 ·
  have hsm:shB (atJ x [p])=was:=by simpa using hc3
  refine A8 (A0 (A1 (A2 (A3 (j:=1) [0] (k:=B8 1 0 rfl rfl (A7 [0,0] [6,7] (k:=A0 (B0 ?_))))))))
  refine N_pk 2 [3,3,0] (B6 [.tmp 6,.tmp 7] [.string tx,.bool true] (k:=?_))
  exact ⟨by rw [if_pos hsm,decide_eq_true hsm]; rfl,(by kernel_rfl)⟩
theorem put_ (cb mb:Nat) (ms:SM) (mc:Nat) (name:ByteArray) (tx:ByteArray) (sb:Nat) (z:Int) (x:JV) (an:Option Addr) (cn:Nat) (al:Option Addr) (cl:Nat) (cs:List Value) (S:Nat→Obj→Prop) (hrn:Rd S an (strV x.names)) (hrl:Rd S al cs) (hrc:JRdL S x.list cs) (hcl:x.list.length≤cl) (hcn:cnJ x≤1000000000) (hk5:x.kind≠5) (p:UInt8) (hp:p≠47) (hfl:Flat (atJ x [p])) (hft:(bk (atJ x [p]).text).size≤4611686018427387904) (W0:World) (H:List Grp) (hS:∀ y o,S y o→At W0 H y o) (hX:K6 W0):Tri Tryz.prog 6 #[pt cb,.string name,.agg #[.int .i64 x.kind,.string (bk x.text),.slice an x.names.length cn,.slice al x.list.length cl],.agg #[.string tx,.slice (some ⟨sb,0,none⟩) 1 1,.int .i64 z]] W0 ([(cb,.cells #[.map (some mb)] 45 (0,0))]::[(mb,.map (B5 ms) mc)]::[(sb,.cells #[.string (plB p)] 9 (0,0))]::H) (fun v H'=>∃ rb,v=.tuple #[]∧H'=([(rb,.map (B5 ([(plB p,.string (shB (atJ x [p])),0)])) 1)]::[(cb,.cells #[.map (some mb)] 45 (0,0))]::[(mb,.map (B5 (mput ms mc name (.agg #[.string tx,.map (some rb)]))) (if mhas ms name then mc else mc+1))]::[(sb,.cells #[.string (plB p)] 9 (0,0))]::H)):=by
 refine D4 38 Tryz.func6 ?_
 refine A1 (A2 (G4 (.agg #[.int .i64 x.kind,.string (bk x.text),.slice an x.names.length cn,.slice al x.list.length cl]) (fun b1=>G4 (.agg #[.string tx,.slice (some ⟨sb,0,none⟩) 1 1,.int .i64 z]) (fun b2=>?_))))
 refine A7 [] [0,1,6,7] (k:=A0 (A1 (A1 (G_p [0,0] [0,1,6,7,12] (k:=A0 (C2 kr (A8 (A0 ?_))))))))
 refine A1 (A2 (A3 (j:=1) [0] (k:=B8 0 0 rfl rfl (GL_makeMap (i:=2) (ch:=[]) rfl rfl kr kr kr (fun b3=>A3 (j:=4) [0] (k:=I1 (.agg #[.string eB,.map none]) (fun b4=>D5 0 0 (.agg #[.string tx,.map (some b3)]) rfl (A7 [] [0,1,6,7,8] (k:=?_)))))))))
 refine A0 (A1 (A1 (A2 (A3 (j:=1) [0] (k:=B8 2 1 rfl rfl (A7 [0,0] [0,1,6,8,18,19,20] (k:=A0 (C8 ?_))))))))
 refine L3 2 (F3 (A1 (G_p [0] [0,1,6,8,18,19,20,21] (k:=A0 (A1 (D3 kr (A8 (A0 ?_))))))))
 refine A1 (C8 (A1 (A2 (GL_iq (a:=(some ⟨sb,0,none⟩)) (S:=(inG [(sb,.cells #[.string (plB p)] 9 (0,0))])) (cs:=[.string (plB p)]) 1 0 1 Rd.lit (by exact ⟨by omega,by omega,by first | exact List.cons_ne_nil _ _ | (intro h; simp [strs] at h; simp [h] at *; omega)⟩) (GL_lsq (a:=(some ⟨sb,0,none⟩)) (S:=(inG [(sb,.cells #[.string (plB p)] 9 (0,0))])) (cs:=[.string (plB p)]) (0 * 1) (.string (plB p)) Rd.lit (H7 6 rfl) (fun _=>rfl) (A6 (E':=[⟨0,[],pt cb⟩,⟨1,[],.string name⟩,⟨6,[],pt b1⟩,⟨8,[],pt b4⟩,⟨10,[],.string (plB p)⟩,⟨18,[],.slice (some ⟨sb,0,none⟩) 1 1⟩,⟨19,[],.int .i64 1⟩,⟨20,[],.int .i64 0⟩]) [0] [0,1,6,8,10,18,19,20] (k:=A0 (H9 ([(b4,.cells #[.string tx,.map (some b3)] 48 (0,0))]::[(b2,.cells #[.string tx,.slice (some ⟨sb,0,none⟩) 1 1,.int .i64 z] 32 (0,0))]::[(b1,.cells #[.int .i64 x.kind,.string (bk x.text),.slice an x.names.length cn,.slice al x.list.length cl] 30 (0,0))]::[(cb,.cells #[.map (some mb)] 45 (0,0))]::[(sb,.cells #[.string (plB p)] 9 (0,0))]::H) kr ?_))))))))
 refine GH_p (fuel:=7) [(0,0)] (fun w h=>(h.pkT 2 [0,1,1,1,2])) (k:=I7 1 kr (fun w h=>(h.pkT 2 [0,1,1,1,2])) (B8 0 1 rfl rfl (J5 kr rfl)) (GH_p (fuel:=5) [(2,0)] (fun w h=>(h.pkT 2 [0,1,1,1,2])) (k:=I7 3 kr (fun w h=>(h.pkT 2 [0,1,1,1,2])) (F1 2 0 4 rfl (J5 kr rfl)) (GH_p (fuel:=3) [(4,0)] (fun w h=>(h.pkT 2 [0,1,1,1,2])) (k:=C9 5 (k:=C3 Tryz.func13 (at_ x an cn al cl cs S hrn hrl hrc hcl hcn hk5 p hp _ _ (fun y o h=>At.cons (At.cons (At.cons (At.cons (At.cons (At.cons (At.cons (hS y o h)))))))) hX) ?_))))))
 rintro _ _ ⟨an5,n5,cn5,al5,m5,cl5,rfl,rfl⟩
 refine B9 kr (fun w h=>(h.pkT 2 [0,1,1,1,2])) (C9 6 (k:=K5 (vs:=[.agg #[.int .i64 ((atJ x [p]).kind),.string (bk (atJ x [p]).text),.slice an5 n5 cn5,.slice al5 m5 cl5]]) Tryz.func12 (shallow_ ((atJ x [p]).kind) hfl (bk (atJ x [p]).text) hft _ _ _ _ _ _ _ _) (B9 kr (fun w h=>(h.pkT 2 [0,1,1,1,2])) (C9 7 (k:=GL_mapPut (i:=7) (ch:=[]) (kt:=9) (et:=9) (r:=b3) (c:=0) (j:=1) (q:=0) (m:=[]) (k:=(plB p)) (v:=.string ((itB ((atJ x [p]).kind)++ByteArray.mk #[32])++(bk (atJ x [p]).text))) (H':=([(b4,.cells #[.string tx,.map (some b3)] 48 (0,0))]::[(b3,.map (B5 ([((plB p),.string ((itB ((atJ x [p]).kind)++ByteArray.mk #[32])++(bk (atJ x [p]).text)),0)])) 1)]::[(b2,.cells #[.string tx,.slice (some ⟨sb,0,none⟩) 1 1,.int .i64 z] 32 (0,0))]::[(b1,.cells #[.int .i64 x.kind,.string (bk x.text),.slice an x.names.length cn,.slice al x.list.length cl] 30 (0,0))]::[(cb,.cells #[.map (some mb)] 45 (0,0))]::[(mb,.map (B5 ms) mc)]::[(sb,.cells #[.string (plB p)] 9 (0,0))]::H)) rfl (.inl rfl) kr kr kr kr kr kr kr kr rfl rfl rfl (B9 kr (fun w h=>(h.pkT 2 [0,1,1,1,2])) (G6 (E':=[⟨0,[],pt cb⟩,⟨1,[],.string name⟩,⟨6,[],pt b1⟩,⟨8,[],pt b4⟩,⟨18,[],.slice (some ⟨sb,0,none⟩) 1 1⟩,⟨19,[],.int .i64 1⟩,⟨20,[],.int .i64 0⟩]) [0,1,6,8,18,19,20] (k:=D8 ?_))))))))
 refine A0 (G_p [0,0] [0,1,6,8,18,19,20] (k:=N_rd (F3 (A1 (G_p [0] [0,1,6,8,18,19,20,21] (k:=A0 (A1 (C2 kr ?_))))))))
 refine I3 (B3 (B3 (C6 (A0 (H9 ([(b4,.cells #[.string tx,.map (some b3)] 48 (0,0))]::[(b2,.cells #[.string tx,.slice (some ⟨sb,0,none⟩) 1 1,.int .i64 z] 32 (0,0))]::[(b1,.cells #[.int .i64 x.kind,.string (bk x.text),.slice an x.names.length cn,.slice al x.list.length cl] 30 (0,0))]::[(cb,.cells #[.map (some mb)] 45 (0,0))]::[(sb,.cells #[.string (plB p)] 9 (0,0))]::H) kr (GH_p (fuel:=6) [(0,0)] (fun w h=>(h.pkT 2 [0,1,1,1,2])) (k:=GH_nil (ad:=⟨cb,0,none⟩) 1 (hL:=(fun w h=>(h.pkT 2 [0,1,1,1,2]))) (k:=GH_p (fuel:=4) [(2,0)] (fun w h=>(h.pkT 2 [0,1,1,1,2])) (k:=?_)))))))))
 refine I7 3 kr (fun w h=>(h.pkT 2 [0,1,1,1,2])) (B8 3 0 rfl rfl (J5 kr rfl)) (GH_p (fuel:=2) [(4,0)] (fun w h=>(h.pkT 2 [0,1,1,1,2])) (k:=I7 5 kr (fun w h=>(h.pkT 2 [0,1,1,1,2])) (F1 0 0 2 rfl (J5 kr rfl)) (C9 6 (k:=GL_mapPut (i:=6) (ch:=[]) (kt:=9) (et:=48) (r:=mb) (c:=mc) (j:=5) (q:=0) (m:=ms) (k:=name) (v:=.agg #[.string tx,.map (some b3)]) (H':=([(b4,.cells #[.string tx,.map (some b3)] 48 (0,0))]::[(b3,.map (B5 ([((plB p),.string ((itB ((atJ x [p]).kind)++ByteArray.mk #[32])++(bk (atJ x [p]).text)),0)])) 1)]::[(b2,.cells #[.string tx,.slice (some ⟨sb,0,none⟩) 1 1,.int .i64 z] 32 (0,0))]::[(b1,.cells #[.int .i64 x.kind,.string (bk x.text),.slice an x.names.length cn,.slice al x.list.length cl] 30 (0,0))]::[(cb,.cells #[.map (some mb)] 45 (0,0))]::[(mb,.map (B5 (mput ms mc name (.agg #[.string tx,.map (some b3)]))) (if mhas ms name then mc else mc+1))]::[(sb,.cells #[.string (plB p)] 9 (0,0))]::H)) rfl (.inl rfl) kr kr kr kr kr kr kr kr rfl rfl rfl (B9 kr (fun w h=>(h.pkT 2 [0,1,1,1,2])) (G6 (E':=[]) [] (k:=N_pk 3 [1,3,3,3] (B6 [] [] (k:=?_)))))))))
 exact ⟨b3,rfl,(by kernel_rfl)⟩
theorem drop_ (cb mb:Nat) (ms:SM) (mc:Nat) (name:ByteArray) (sb:Nat) (W0:World) (H:List Grp):Tri Tryz.prog 7 #[pt cb,.slice (some ⟨sb,0,none⟩) 1 1] W0 ([(cb,.cells #[.map (some mb)] 45 (0,0))]::[(mb,.map (B5 ms) mc)]::[(sb,.cells #[.string name] 9 (0,0))]::H) (fun v H'=>v=.tuple #[]∧H'=([(cb,.cells #[.map (some mb)] 45 (0,0))]::[(mb,.map (B5 (mdel ms name)) mc)]::[(sb,.cells #[.string name] 9 (0,0))]::H)):=by
 refine D4 27 Tryz.func7 ?_
 refine A1 (A1 (G_p [0,0] [0,1,7] (k:=A0 (C2 kr (A8 (A0 (A1 (A1 ?_))))))))
 refine G_p [0,0,0] [0,1,10] (k:=A0 (C2 kr (A8 (A0 (A1 (G_p [0,0,0] [0,15,16,17] (k:=A0 (C8 ?_))))))))
 refine L3 2 (F3 (A1 (G_p [0] [0,15,16,17,18] (k:=A0 (A1 (D3 kr (A8 (A0 ?_))))))))
 refine A1 (C8 (A1 (A2 (GL_iq (a:=(some ⟨sb,0,none⟩)) (S:=(inG [(sb,.cells #[.string name] 9 (0,0))])) (cs:=[.string name]) 1 0 1 Rd.lit (by exact ⟨by omega,by omega,by first | exact List.cons_ne_nil _ _ | (intro h; simp [strs] at h; simp [h] at *; omega)⟩) (GL_lsq (a:=(some ⟨sb,0,none⟩)) (S:=(inG [(sb,.cells #[.string name] 9 (0,0))])) (cs:=[.string name]) (0 * 1) (.string name) Rd.lit (H7 2 rfl) (fun _=>rfl) (A7 [0] [0,5,15,16,17] (k:=A0 (A2 ?_))))))))
 refine A3 (j:=3) [0,0,0] (k:=B8 0 0 rfl rfl (A3 (j:=5) [0] (k:=GL_delete (i:=5) (ch:=[]) (ts:=#[43,9]) (t:=43) (kt:=9) (et:=48) (r:=mb) (c:=mc) (j:=1) (q:=0) (m:=ms) (k:=name) (H':=([(cb,.cells #[.map (some mb)] 45 (0,0))]::[(mb,.map (B5 (mdel ms name)) mc)]::[(sb,.cells #[.string name] 9 (0,0))]::H)) rfl rfl rfl rfl rfl kr kr kr kr kr kr rfl rfl rfl (A6 (E':=[⟨0,[],pt cb⟩,⟨15,[],.slice (some ⟨sb,0,none⟩) 1 1⟩,⟨16,[],.int .i64 1⟩,⟨17,[],.int .i64 0⟩]) [] [0,15,16,17] (k:=D8 (A0 (G_p [0,0] [0,15,16,17] (k:=N_rd ?_))))))))
 refine F3 (A1 (G_p [0] [0,15,16,17,18] (k:=A0 (A1 (C2 kr (I3 (B3 (B3 ?_))))))))
 refine C6 (B6 [] [] (k:=?_))
 exact ⟨rfl,rfl⟩
end Go.Proofs.YtmnihmfifpaaoaaGreatDoor
namespace Go.Proofs
open Go.Shelf
def Tryz.keys41_ren:Go.Shelf.Ren:=⟨fun | 7=>33 | 10=>50 | n=>n,fun | 23=>43 | 26=>9 | 3=>48 | 28=>77 | 0=>0 | 27=>76 | 33=>60 | 4=>4 | n=>n,fun | n=>n⟩
theorem Tryz.keys41:Go.Proofs.SlLaysZ.n7 Tryz.prog Tryz.keys41_ren:={
  mixed:=by kernel_rfl
  f7:=⟨Tryz.f33.name,by decide,Tryz.func33.trans (congrArg some (by kernel_rfl))⟩
  f10:=⟨Tryz.f50.name,by decide,Tryz.func50.trans (congrArg some (by kernel_rfl))⟩
  t0:=Tryz.underlying0
  a0:=Tryz.isAgg0
  z0:=Tryz.sizeOf0
  v0:=Tryz.zeroValue0
  t4:=Tryz.underlying4
  a4:=Tryz.isAgg4
  z4:=Tryz.sizeOf4
  v4:=Tryz.zeroValue4
  t23:=Tryz.underlying43
  a23:=Tryz.isAgg43
  z23:=Tryz.sizeOf43
  v23:=Tryz.zeroValue43
  t26:=Tryz.underlying9
  a26:=Tryz.isAgg9
  z26:=Tryz.sizeOf9
  v26:=Tryz.zeroValue9
  t27:=Tryz.underlying76
  a27:=Tryz.isAgg76
  z27:=Tryz.sizeOf76
  v27:=Tryz.zeroValue76
  t28:=Tryz.underlying77
  a28:=Tryz.isAgg77
  z28:=Tryz.sizeOf77
  v28:=Tryz.zeroValue77
  t33:=Tryz.underlying60
  a33:=Tryz.isAgg60
  z33:=Tryz.sizeOf60
  v33:=Tryz.zeroValue60 }
def Tryz.sorted40_ren:Go.Shelf.Ren:=⟨fun | 6=>32 | 8=>48 | 9=>49 | 11=>70 | 13=>72 | 12=>71 | 23=>99 | 24=>100 | 14=>90 | 15=>91 | 16=>92 | 17=>93 | 18=>94 | 19=>95 | 20=>96 | 21=>97 | 22=>98 | 25=>116 | 26=>117 | 27=>118 | 28=>119 | 29=>120 | 30=>121 | 31=>126 | n=>n,fun | 26=>9 | 28=>77 | 24=>22 | 0=>0 | 3=>3 | 37=>120 | 48=>146 | 50=>122 | 4=>4 | 40=>139 | 39=>138 | 45=>143 | 5=>5 | 9=>9 | 51=>164 | 55=>168 | 57=>172 | 58=>110 | 33=>60 | n=>n,fun | n=>n⟩
theorem Tryz.sorted40:Go.Proofs.SlLaysZ.n6 Tryz.prog Tryz.sorted40_ren:={
  mixed:=by kernel_rfl
  f6:=⟨Tryz.f32.name,by decide,Tryz.func32.trans (congrArg some (by kernel_rfl))⟩
  f8:=⟨Tryz.f48.name,by decide,Tryz.func48.trans (congrArg some (by kernel_rfl))⟩
  f11:=⟨Tryz.f70.name,by decide,Tryz.func70.trans (congrArg some (by kernel_rfl))⟩
  t0:=Tryz.underlying0
  a0:=Tryz.isAgg0
  z0:=Tryz.sizeOf0
  v0:=Tryz.zeroValue0
  t24:=Tryz.underlying22
  a24:=Tryz.isAgg22
  z24:=Tryz.sizeOf22
  v24:=Tryz.zeroValue22
  t26:=Tryz.underlying9
  a26:=Tryz.isAgg9
  z26:=Tryz.sizeOf9
  v26:=Tryz.zeroValue9
  t28:=Tryz.underlying77
  a28:=Tryz.isAgg77
  z28:=Tryz.sizeOf77
  v28:=Tryz.zeroValue77
  i26:=by kernel_rfl }
end Go.Proofs
namespace Go.Proofs
open Go.Shelf
def Tryz.lays190_ren:Go.Shelf.Ren:=⟨fun | 190=>49 | 125=>72 | 258=>71 | 128=>99 | 129=>100 | 302=>90 | 303=>91 | 304=>92 | 305=>93 | 306=>94 | 307=>95 | 308=>96 | 309=>97 | 310=>98 | 333=>116 | 329=>117 | 330=>118 | 334=>119 | 335=>120 | 336=>121 | 344=>126 | n=>n,fun | 31=>22 | 9=>9 | 3=>3 | 46=>120 | 0=>0 | 51=>146 | 53=>122 | 4=>4 | 183=>139 | 182=>138 | 131=>143 | 5=>5 | 218=>164 | 222=>168 | 228=>172 | 229=>110 | n=>n,fun | n=>n⟩
theorem Tryz.lays190:Go.Proofs.Lays.n190 Tryz.prog Tryz.lays190_ren:={
  mixed:=by kernel_rfl
  f125:=Tryz.func72.trans (congrArg some (by kernel_rfl))
  f128:=Tryz.func99.trans (congrArg some (by kernel_rfl))
  f129:=Tryz.func100.trans (congrArg some (by kernel_rfl))
  f190:=Tryz.func49.trans (congrArg some (by kernel_rfl))
  f258:=Tryz.func71.trans (congrArg some (by kernel_rfl))
  f302:=Tryz.func90.trans (congrArg some (by kernel_rfl))
  f303:=Tryz.func91.trans (congrArg some (by kernel_rfl))
  f304:=Tryz.func92.trans (congrArg some (by kernel_rfl))
  f305:=Tryz.func93.trans (congrArg some (by kernel_rfl))
  f306:=Tryz.func94.trans (congrArg some (by kernel_rfl))
  f307:=Tryz.func95.trans (congrArg some (by kernel_rfl))
  f308:=Tryz.func96.trans (congrArg some (by kernel_rfl))
  f309:=Tryz.func97.trans (congrArg some (by kernel_rfl))
  f310:=Tryz.func98.trans (congrArg some (by kernel_rfl))
  f329:=Tryz.func117.trans (congrArg some (by kernel_rfl))
  f330:=Tryz.func118.trans (congrArg some (by kernel_rfl))
  f333:=Tryz.func116.trans (congrArg some (by kernel_rfl))
  f334:=Tryz.func119.trans (congrArg some (by kernel_rfl))
  f335:=Tryz.func120.trans (congrArg some (by kernel_rfl))
  f336:=Tryz.func121.trans (congrArg some (by kernel_rfl))
  f344:=Tryz.func126.trans (congrArg some (by kernel_rfl))
  t0:=Tryz.underlying0
  a0:=Tryz.isAgg0
  z0:=Tryz.sizeOf0
  v0:=Tryz.zeroValue0
  t3:=Tryz.underlying3
  a3:=Tryz.isAgg3
  z3:=Tryz.sizeOf3
  v3:=Tryz.zeroValue3
  t4:=Tryz.underlying4
  a4:=Tryz.isAgg4
  z4:=Tryz.sizeOf4
  v4:=Tryz.zeroValue4
  t5:=Tryz.underlying5
  a5:=Tryz.isAgg5
  z5:=Tryz.sizeOf5
  v5:=Tryz.zeroValue5
  t9:=Tryz.underlying9
  a9:=Tryz.isAgg9
  z9:=Tryz.sizeOf9
  v9:=Tryz.zeroValue9
  t31:=Tryz.underlying22
  a31:=Tryz.isAgg22
  z31:=Tryz.sizeOf22
  v31:=Tryz.zeroValue22
  t46:=Tryz.underlying120
  a46:=Tryz.isAgg120
  z46:=Tryz.sizeOf120
  v46:=Tryz.zeroValue120
  t51:=Tryz.underlying146
  a51:=Tryz.isAgg146
  z51:=Tryz.sizeOf146
  v51:=Tryz.zeroValue146
  t53:=Tryz.underlying122
  a53:=Tryz.isAgg122
  z53:=Tryz.sizeOf122
  v53:=Tryz.zeroValue122
  t131:=Tryz.underlying143
  a131:=Tryz.isAgg143
  z131:=Tryz.sizeOf143
  v131:=Tryz.zeroValue143
  t182:=Tryz.underlying138
  a182:=Tryz.isAgg138
  z182:=Tryz.sizeOf138
  v182:=Tryz.zeroValue138
  t183:=Tryz.underlying139
  a183:=Tryz.isAgg139
  z183:=Tryz.sizeOf139
  v183:=Tryz.zeroValue139
  t218:=Tryz.underlying164
  a218:=Tryz.isAgg164
  z218:=Tryz.sizeOf164
  v218:=Tryz.zeroValue164
  t222:=Tryz.underlying168
  a222:=Tryz.isAgg168
  z222:=Tryz.sizeOf168
  v222:=Tryz.zeroValue168
  t228:=Tryz.underlying172
  a228:=Tryz.isAgg172
  z228:=Tryz.sizeOf172
  v228:=Tryz.zeroValue172
  t229:=Tryz.underlying110
  a229:=Tryz.isAgg110
  z229:=Tryz.sizeOf110
  v229:=Tryz.zeroValue110 }
open Go.Sort Go.RowKit in
theorem Tryz.slices_Sort_string (blk off cap:Nat) (ss:List (List UInt8)) (w:World) (hH:Holds encStr w blk off ss.toArray) (hblk:blk<w.heap.size) (hsz:ss.length<4611686018427387904) :
    Calls Tryz.prog 49 #[.slice (some ⟨blk,off,none⟩) ss.length cap] w fun e w' =>
      e=.returned (.tuple #[])∧∃ n os,w'=grow (putRow encStr (Sort.ahead w n) blk off (ss.mergeSort fun x y=>decide (x≤y)).toArray) os:=Any.slices_Sort_string Tryz.lays190 blk off cap ss w hH hblk hsz
end Go.Proofs
namespace Go.Vf
open Go.Sw Go.RowKit Go.Sort Go.Proofs
def sortB (ws:List ByteArray):List ByteArray:=((ws.map fun s=>s.data.toList).mergeSort fun x y=>decide (x≤y)).map fun l=>⟨l.toArray⟩
theorem strs_sort (ws:List ByteArray):strs (sortB ws)=((ws.map fun s=>s.data.toList).mergeSort fun x y=>decide (x≤y)).map encStr:=by
  unfold strs sortB
  rw [List.map_map]
  rfl
end Go.Vf
namespace Go.Vf
open Go.Sw Go.RowKit Go.Sort Go.Proofs Go.Shelf
open Go.WideElems (Fit rg)
def anyR:Value→Option (DataW Nat × List MemPlace):=fun _=>some (.lit (.bool false),[])
def datM (P:Program) (cm:SM):DataW Nat:=.map (((B5 cm).toList.map (rg P 9 anyR)).foldr DataW.insert [])
theorem rd_ent {e:ByteArray × Value × Nat} (h:e.1.size≤9223372036854775807):WideElems.rd Tryz.prog 9 anyR (entM e)=some (.string e.1.data.toList,.lit (.bool false)):=by
  unfold WideElems.rd
  rw [show keyOf Tryz.prog 9 (entM e).key=some (.string e.1.data.toList) from WideMaps.keyOf_string_mk Tryz.underlying9 (by unfold maxLen; omega)]
  rfl
theorem rg_ent {e:ByteArray × Value × Nat} (h:e.1.size≤9223372036854775807):rg Tryz.prog 9 anyR (entM e)=(.string e.1.data.toList,.lit (.bool false)):=by
  unfold rg
  rw [rd_ent h]
  rfl
theorem J9 (cm:SM):(B5 cm).toList=cm.map entM:=by unfold B5; rfl
theorem ent_apart {cm:SM} (h:cm.Pairwise fun x y=>(x.1==y.1)=false):(cm.map entM).Pairwise fun x y=>x.key≠y.key :=
  List.pairwise_map.2 (h.imp fun {x y} hxy e=>by
    have:x.1=y.1:=by
      have e':Value.string x.1=Value.string y.1:=e
      injection e'
    exact (baNe.1 hxy) this)
theorem own_map {cm:SM} {cc cb:Nat} {w:World} (hm:MapOk cm cc) (hks:∀ e∈cm,e.1.size≤9223372036854775807) (hl:cm.length≤1000000000) (hb:w.heap[cb]? = some (.map (B5 cm) cc)) :
    w.ownsMap Tryz.prog 9 anyR cb cm.length (datM Tryz.prog cm):=by
  refine ⟨B5 cm,cc,hb,⟨?_,?_,?_⟩,?_,rfl⟩
  · rw [← Array.length_toList,J9,List.length_map]; unfold maxLen; omega
  · rw [MapKept.stamped_iff,J9]
    refine ⟨?_,?_,ent_apart hm.keys⟩
    · intro x hx
      obtain ⟨e,he,rfl⟩:=List.mem_map.1 hx
      exact hm.lt e he
    · rw [List.map_map]; exact hm.born
  · intro x hx
    rw [J9] at hx
    obtain ⟨e,he,rfl⟩:=List.mem_map.1 hx
    exact ⟨_,rd_ent (hks e he)⟩
  · rw [← Array.length_toList,J9,List.length_map]; exact Nat.le_refl _
theorem keys_dat {cm:SM} (hks:∀ e∈cm,e.1.size≤9223372036854775807):(strKeys (datM Tryz.prog cm)).Perm ((cm.map Prod.fst).map fun s=>s.data.toList):=by
  have h1:(strKeys (datM Tryz.prog cm)).Perm ((((B5 cm).toList.map (rg Tryz.prog 9 anyR))).map fun p=>strOf p.1):=(WideShapes.sorted_perm _).map _
  have h2:(((B5 cm).toList.map (rg Tryz.prog 9 anyR))).map (fun p=>strOf p.1)=(cm.map Prod.fst).map fun s=>s.data.toList:=by
    rw [J9,List.map_map,List.map_map,List.map_map]
    refine List.map_congr_left fun e he=>?_
    simp only [Function.comp_apply]
    rw [rg_ent (hks e he)]
    unfold strOf
    rfl
  rwa [h2] at h1
theorem dat_size (P:Program) (cm:SM):Maps.size (datM P cm)=cm.length:=by
  have e:Maps.size (datM P cm)=(((B5 cm).toList.map (rg P 9 anyR)).foldr DataW.insert []).length:=rfl
  rw [e,(WideShapes.sorted_perm _).length_eq,List.length_map,J9,List.length_map]
theorem sorts40 (m:Nat):AnyZ.SortsIn Tryz.prog Tryz.sorted40_ren Fence.wide m :=
  ⟨fun blk off cap ss W hH hblk hsz=>callsIn_wide.2 (Tryz.slices_Sort_string blk off cap ss W hH hblk hsz),
   fun p cap W=>callsIn_wide.2 (Any.slices_Sort_string_none Tryz.lays190 p cap W)⟩
set_option maxHeartbeats 1000000 in
theorem sortedC (cm:SM) (cc cb kb:Nat) (hm:MapOk cm cc) (hks:∀ e∈cm,e.1.size≤9223372036854775807) (hl:cm.length≤1000000000) (W0:World) (H:List Grp) :
    Tri Tryz.prog 32 #[.func (.func 50) #[] #[.pointer (some ⟨kb,0,none⟩)]] W0
      ([(kb,.cells #[.map (some cb)] 43 (0,0))]::[(cb,.map (B5 cm) cc)]::H)
      (fun v H'=>∃ g,Go.Sw.Own 9 1 v g cm.length (strs (sortB (cm.map Prod.fst)))∧H'=g::[(kb,.cells #[.map (some cb)] 43 (0,0))]::[(cb,.map (B5 cm) cc)]::H):=by
  intro w hs
  have hk:w.heap[kb]? = some (.cells #[.map (some cb)] 43 (0,0)):=hs.has (kb,_) (by simp)
  have hb:w.heap[cb]? = some (.map (B5 cm) cc):=hs.has (cb,_) (by simp)
  have hown:=own_map hm hks hl hb
  have hcell:w.cell? ⟨kb,0,none⟩=some (.map (some cb)):=by
    unfold World.cell?
    rw [hk]
    rfl
  have hseq:SeqGives Fence.wide 2 Tryz.prog 50 #[.pointer (some ⟨kb,0,none⟩)] encStr (fun ss=>ss.Perm (strKeys (datM Tryz.prog cm))) (Maps.size (datM Tryz.prog cm)) w :=
    AnyZ.keys_gives (ρ:=Tryz.keys41_ren) { Tryz.keys41 with } Fence.wide 2 trivial rfl (by omega) kb cb cm.length (datM Tryz.prog cm) w (Array.getElem?_eq_some_iff.1 hk).1 hcell hown
  have hc:=AnyZ.sorted_in Tryz.sorted40 Fence.wide 5 trivial trivial trivial trivial rfl (by omega) (sorts40 _) (enters_of Tryz.func49 (by kernel_rfl) rfl) 50 #[.pointer (some ⟨kb,0,none⟩)] trivial (enters_of Tryz.func50 (by kernel_rfl) rfl) _ (Maps.size (datM Tryz.prog cm)) (by rw [dat_size]; unfold maxLen; omega) (by rw [dat_size]; omega) w hseq
  refine (callsIn_wide.1 hc).mono fun e w' ⟨v,ss,h1,h2,h3,_,h5⟩=>?_
  have hp:ss.Perm ((cm.map Prod.fst).map fun s=>s.data.toList):=h2.trans (keys_dat hks)
  have hlen:ss.length=cm.length:=by rw [hp.length_eq,List.length_map,List.length_map]
  have hss:(ss.mergeSort fun x y=>decide (x≤y)).map encStr=strs (sortB (cm.map Prod.fst)):=by
    rw [strs_sort]
    exact congrArg (List.map encStr) (mergeSort_of_perm hp)
  rw [hss,hlen] at h3
  have hbel:Below W0.heap.size W0 w':=⟨h5.os.trans hs.below.os,h5.tape.trans hs.below.tape,h5.output.trans hs.below.output,Nat.le_trans hs.below.size h5.size,fun k hk=>by
    rw [h5.block k (Nat.lt_of_lt_of_le hk hs.below.size),hs.below.block k hk]⟩
  have hhas:∀ p,p∈([(kb,.cells #[.map (some cb)] 43 (0,0))]::[(cb,.map (B5 cm) cc)]::H:List Grp).flatten→w'.heap[p.1]? = some p.2:=fun p hp=>by
    have h0:=hs.has p hp
    rw [h5.block p.1 (Array.getElem?_eq_some_iff.1 h0).1,h0]
  obtain ⟨l1,⟨rfl,l2⟩ | ⟨g,cap,cur,rfl,g1,g2,g3,g4,g5,g6⟩⟩:=h3
  · exact ⟨_,_,h1,⟨[],⟨l1,.inl ⟨rfl,rfl,l2⟩⟩,rfl⟩,⟨hbel,by simpa using hs.nodup,fun p hp=>hhas p (by simpa using hp),fun p hp=>hs.high p (by simpa using hp)⟩⟩
  · have hcur:cur.toList=strs (sortB (cm.map Prod.fst))++cur.toList.drop (cm.length * 1):=by
      rw [← g6,List.take_append_drop]
    have hcur2:cur=(strs (sortB (cm.map Prod.fst))++cur.toList.drop (cm.length * 1)).toArray:=by
      rw [← hcur]
    refine ⟨_,_,h1,⟨[(g,.cells (strs (sortB (cm.map Prod.fst))++cur.toList.drop (cm.length * 1)).toArray 9 (0,0))],⟨l1,.inr ⟨g,cap,cur.toList.drop (cm.length * 1),rfl,rfl,g3,?_⟩⟩,rfl⟩,⟨hbel,?_,?_,?_⟩⟩
    · rw [← hcur,Array.length_toList,g5]
    · rw [List.flatten_cons,List.singleton_append,List.map_cons,List.nodup_cons]
      refine ⟨fun hin=>?_,hs.nodup⟩
      obtain ⟨p,hp,he⟩:=List.mem_map.1 hin
      have h0:=(Array.getElem?_eq_some_iff.1 (hs.has p hp)).1
      have he':p.1=g:=he
      omega
    · intro p hp
      rw [List.flatten_cons,List.singleton_append,List.mem_cons] at hp
      rcases hp with rfl | hp
      · show w'.heap[g]? = _
        rw [← hcur2]
        exact g2
      · exact hhas p hp
    · intro p hp
      rw [List.flatten_cons,List.singleton_append,List.mem_cons] at hp
      rcases hp with rfl | hp
      · exact Nat.le_trans hs.below.size g1
      · exact hs.high p hp
end Go.Vf
