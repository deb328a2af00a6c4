/- Append, and slices.Clip. Conditions: the numbers are ints; what the blocks hold is told. (and what it stands on) -/
import Derived.Test.YtdolpaagdpeagaaGreatDoorZ1
import Derived.Laws.Externs
import Derived.Test.YtdolpaagdpeagaaGreatDoorRows
import Derived.Lib.Strings
import Derived.Laws.IdiomStrings
import Derived.Shelf.Sort.Plain
import Derived.Shelf.Slices.In.SortNone
import Derived.Sort.OwnSorted
import Derived.Shelf.SlIter.Nil
import Derived.ProofKit
import Derived.OpenShut
import Derived.ChangeMaps5
namespace Go.Sw
open Go.RowKit
theorem baEq {a b:ByteArray}:(a==b)=true ↔ a=b:=by
  constructor
  · intro h
    have h':(a.data==b.data)=true:=h
    cases a; cases b; simpa using h'
  · intro h
    subst h
    show (a.data==a.data)=true
    simp
theorem baNe {a b:ByteArray}:(a==b)=false ↔ a≠b:=by
  rw [← Bool.not_eq_true,ne_eq,baEq]
abbrev SM:=List (ByteArray × Value × Nat)
def entM (e:ByteArray × Value × Nat):MapEntry:=⟨.string e.1,e.2.1,e.2.2⟩
def B3 (m:SM):Array MapEntry:=(m.map entM).toArray
def V5 (k:ByteArray):SM→Nat→Option (Nat × Value)
  | [],_=>none
  | e::r,i=>if k==e.1 then some (i,e.2.1) else V5 k r (i+1)
def R9 (m:SM) (k:ByteArray):Option Value:=(V5 k m 0).map (·.2)
def H8:SM→Nat→ByteArray→Value→SM
  | [],c,k,v=>[(k,v,c)]
  | e::r,c,k,v=>if k==e.1 then (k,v,e.2.2)::r else e::H8 r c k v
def mdel:SM→ByteArray→SM
  | [],_=>[]
  | e::r,k=>if k==e.1 then r else e::mdel r k
def T1 (m:SM) (k:ByteArray):Bool:=m.any fun e=>k==e.1
theorem findNow_enc (k:ByteArray):∀ (m:SM) (i:Nat),Instr.findNow .string (.string k) (m.map entM) i=some (V5 k m i)
  | [],i=>rfl
  | e::r,i=>by
    simp only [List.map_cons,Instr.findNow,entM,Instr.sameNow,V5]
    cases h:k==e.1
    · simp only [Bool.false_eq_true,if_false]; exact findNow_enc k r (i+1)
    · simp
theorem run_checkKey {P:Program} {b:Bool} {kt:TypeId} (h:P.underlying kt=some .string) (k:ByteArray) (w:World):∀ d,(Instr.checkKey b (d+1) kt (.string k)).run P w=.ok () w:=by
  intro d
  simp [Instr.checkKey,run_underlying h]
theorem A0g {P:Program} {kt:TypeId} (h:P.underlying kt=some .string) (k:ByteArray) (m:SM) (w:World):(Instr.findKey kt (.string k) (B3 m).toList).run P w=.ok (V5 k m 0) w:=by
  simp only [Instr.findKey,Sem.run_bind,run_underlying h,Result.andThen_ok,B3,List.toList_toArray,findNow_enc]
  rfl
theorem K8 {P:Program} {w:World} {r:Nat} {es:Array MapEntry} {c:Nat} (h:w.heap[r]? = some (.map es c)):(getObj r).run P w=.ok (.map es c) w:=by
  simp [getObj,Sem.run,h]
def lookV (ok:Bool) (z:Value):Option Value→Value
  | some v=>if ok then .tuple #[v,.bool true] else v
  | none=>if ok then .tuple #[z,.bool false] else z
theorem J5 {d:Bool} {P:Program} {ops:Array Oper} {i:Nat} {Q:D7} {n:Fr} {E:Env} {W0:World} {H:List Grp} {o:Oper} {ch:List (Nat × Bool)} {t kt et:TypeId} {x ix:Operand} {ok:Bool} {r c:Nat} {m:SM} {k:ByteArray} {z:Value} {ov:Option Value}
    (ho:ops[i]? = some o:=by exact rfl) (hop:o.op=.lookup t x ix ok:=by exact rfl) (hx:evO E ch x=some (.map (some r)):=by kernel_rfl) (hix:evO E ch ix=some (.string k):=by kernel_rfl) (hu:P.underlying t=some (.map kt et):=by kernel_rfl) (hkt:P.underlying kt=some .string:=by kernel_rfl) (hz:zeroV P et=some z:=by kernel_rfl)
    (hch:D4 ops E o.guard=some ch:=by kernel_rfl) (hd:F5 n ch o.dst=true:=by kernel_rfl) (hk:J3 E ch=true:=by kernel_rfl)
    (hA:At W0 H r (.map (B3 m) c)) (hg:chB E ch→R9 m k=ov)
    (kk:GL d P ops (i+1) Q n (Env.put E o.dst ch (lookV ok z ov)) W0 H):GL d P ops i Q n E W0 H:=by
  refine I2 ho hch hd hk (fun rr hr hcb w hs=>?_) kk
  have hg':=hg hcb
  unfold R9 at hg'
  unfold execOp
  simp only [hop]
  rw [hr _ _ hx,hr _ _ hix]
  have hck:=run_checkKey (P:=P) (b:=(B3 m).isEmpty) hkt k w 9999
  simp only [Instr.lookup,Sem.run_bind,run_underlying hu,Result.andThen_ok,K8 (hs.at hA),Sem.run_pure]
  rw [hck]
  simp only [Result.andThen_ok,A0g hkt]
  cases hf:V5 k m 0 with
  | none=>rw [hf] at hg'; simp at hg'; subst hg'; simp only [Sem.run_bind,W6 hz,Result.andThen_ok,Sem.run_pure]; exact ⟨rfl,by cases ok <;> rfl⟩
  | some p=>rw [hf] at hg'; simp at hg'; subst hg'; exact ⟨rfl,by cases ok <;> rfl⟩
theorem Wr_setObj {P:Program} {w:World} {b:Nat} {o o':Obj} (h:w.heap[b]? = some o) (hc:(match o with | .cells ..=>false | _=>true)=true) :
    ∃ w',(setObj b o').run P w=.ok () w'∧Wr b o' w w':=by
  have hb:b<w.heap.size:=by
    rcases Nat.lt_or_ge b w.heap.size with h' | h'
    · exact h'
    · simp [Array.getElem?_eq_none h'] at h
  refine ⟨{ w with heap:=w.heap.setIfInBounds b o' },?_,rfl,rfl,rfl,by simp,by simp [hb],fun k hk=>?_⟩
  · simp only [setObj,Sem.run,h]
    cases o <;> simp at hc <;> rfl
  · show (w.heap.setIfInBounds b o')[k]? = _
    rw [Array.getElem?_setIfInBounds_ne (fun e=>hk e.symm)]
theorem mfind_put {k:ByteArray}:∀ (m:SM) (i:Nat) (c:Nat) (v:Value),(V5 k m i=none→H8 m c k v=m++[(k,v,c)]∧T1 m k=false) ∧
    (∀ j u,V5 k m i=some (j,u)→i≤j∧T1 m k=true∧(m.map entM).toArray.modify (j - i) (fun e=>{ e with key:=.string k,val:=v })=(H8 m c k v |>.map entM).toArray∧((m.map entM)[j - i]?).isSome=true∧(∃ k',((m.map entM)[j - i]?).map (·.key)=some (.string k')∧(k==k')=true))
  | [],i,c,v=>by
    constructor
    · intro _; exact ⟨rfl,rfl⟩
    · intro j u h; simp [V5] at h
  | e::r,i,c,v=>by
    obtain ⟨ih1,ih2⟩:=mfind_put (k:=k) r (i+1) c v
    simp only [V5,H8,T1,List.any_cons]
    cases hk:k==e.1
    · simp only [Bool.false_eq_true,if_false,Bool.false_or]
      constructor
      · intro h; obtain ⟨h1,h2⟩:=ih1 h; exact ⟨by rw [h1]; rfl,h2⟩
      · intro j u h
        obtain ⟨h1,h2,h3,h4,h5⟩:=ih2 j u h
        refine ⟨by omega,h2,?_,?_,?_⟩
        · have e1:j - i=(j - (i+1))+1:=by omega
          apply Array.ext'
          have h3':=congrArg Array.toList h3
          simp only [Array.toList_modify] at h3' ⊢
          rw [e1,List.map_cons,List.modify_succ_cons,h3',List.map_cons]
        · have e1:j - i=(j - (i+1))+1:=by omega
          rw [e1,List.map_cons,List.getElem?_cons_succ]; exact h4
        · have e1:j - i=(j - (i+1))+1:=by omega
          rw [e1,List.map_cons,List.getElem?_cons_succ]; exact h5
    · simp only [if_true,Bool.true_or]
      constructor
      · intro h; simp at h
      · intro j u h
        simp only [Option.some.injEq,Prod.mk.injEq] at h
        obtain ⟨rfl,_⟩:=h
        refine ⟨Nat.le_refl _,trivial,?_,?_,?_⟩
        · apply Array.ext'
          simp [entM]
        · simp
        · exact ⟨e.1,by simp [entM],hk⟩
theorem run_mapUpdate {P:Program} {t kt et:TypeId} (hu:P.underlying t=some (.map kt et)) (hkt:P.underlying kt=some .string) {w:World} {r c:Nat} {m:SM} (h:w.heap[r]? = some (.map (B3 m) c)) (k:ByteArray) (v:Value) :
    ∃ w',(Instr.mapUpdate t (.map (some r)) (.string k) v).run P w=.ok () w'∧Wr r (.map (B3 (H8 m c k v)) (if T1 m k then c else c+1)) w w':=by
  have hck:=run_checkKey (P:=P) (b:=false) hkt k w 9999
  obtain ⟨hp1,hp2⟩:=mfind_put (k:=k) m 0 c v
  cases hf:V5 k m 0 with
  | none =>
    obtain ⟨h1,h2⟩:=hp1 hf
    obtain ⟨w',hr',hw'⟩:=Wr_setObj (P:=P) h (o':=.map (B3 (H8 m c k v)) (c+1)) rfl
    refine ⟨w',?_,by rw [h2]; exact hw'⟩
    simp only [Instr.mapUpdate,Sem.run_bind,run_underlying hu,Result.andThen_ok,K8 h]
    rw [hck]
    simp only [Result.andThen_ok,A0g hkt,hf]
    rw [← hr']
    congr 3
    rw [h1]
    simp [B3,entM]
  | some p =>
    obtain ⟨j,u⟩:=p
    obtain ⟨_,h2,h3,h4,k',h5,h6⟩:=hp2 j u hf
    simp only [Nat.sub_zero] at h3 h4 h5
    obtain ⟨w',hr',hw'⟩:=Wr_setObj (P:=P) h (o':=.map (B3 (H8 m c k v)) c) rfl
    refine ⟨w',?_,by rw [h2]; exact hw'⟩
    simp only [Instr.mapUpdate,Sem.run_bind,run_underlying hu,Result.andThen_ok,K8 h]
    rw [hck]
    simp only [Result.andThen_ok,A0g hkt,hf]
    have hks:(Instr.keyThatStays ((((B3 m)[j]?).map (·.key)).getD (.string k)) (.string k)).run P w=.ok (.string k) w:=by
      have e1:((B3 m)[j]?).map (·.key)=some (.string k'):=by rw [← h5]; simp [B3]
      have e2:(k'==k)=true:=by
        rw [baEq] at h6 ⊢
        exact h6.symm
      rw [e1]
      simp only [Option.getD_some,Instr.keyThatStays]
      have:Instr.sameBits 10000 (.string k') (.string k)=true:=by
        show Instr.sameBits (9999+1) _ _=true
        simpa [Instr.sameBits] using e2
      rw [if_pos this]
      rfl
    simp only [Sem.run_bind,hks,Result.andThen_ok]
    rw [← hr']
    congr 3
theorem I1 {P:Program} {ops:Array Oper} {i:Nat} {Q:D7} {n:Fr} {E:Env} {W0:World} {H H':List Grp} {o:Oper} {ch:List (Nat × Bool)} {t kt et:TypeId} {x y u:Operand} {r c j q:Nat} {m:SM} {k:ByteArray} {v:Value} {g:Grp}
    (ho:ops[i]? = some o:=by exact rfl) (hop:o.op=.mapUpdate t x y u∨o.op=.insert t x y u) (hx:evO E ch x=some (.map (some r)):=by kernel_rfl) (hy:evO E ch y=some (.string k):=by kernel_rfl) (hv:evO E ch u=some v:=by kernel_rfl)
    (hu:P.underlying t=some (.map kt et):=by kernel_rfl) (hkt:P.underlying kt=some .string:=by kernel_rfl)
    (hch:D4 ops E o.guard=some ch:=by kernel_rfl) (hd:F5 n ch o.dst=true:=by kernel_rfl) (hsure:N9 E ch=true:=by kernel_rfl)
    (hj:H[j]? = some g:=by exact rfl) (hi:g[q]? = some (r,.map (B3 m) c):=by exact rfl) (hH':H.set j (g.set q (r,.map (B3 (H8 m c k v)) (if T1 m k then c else c+1)))=H':=by exact rfl)
    (kk:GL false P ops (i+1) Q n (Env.put E o.dst ch undef) W0 H'):GL false P ops i Q n E W0 H:=by
  refine Z1 (R:=fun v H1=>v=undef∧H1=H') ho hch hd hsure (fun rr hr w hs=>?_) (by rintro v H1 ⟨rfl,rfl⟩; exact kk)
  have hblk:=hs.has _ (List.mem_flatten.2 ⟨g,List.mem_of_getElem? hj,List.mem_of_getElem? hi⟩)
  obtain ⟨w',hr',hw'⟩:=run_mapUpdate hu hkt hblk k v
  refine ⟨undef,w',H',⟨rfl,rfl⟩,by rw [← hH']; exact hs.wr hj hi hw',.inr ⟨?_,rfl⟩⟩
  unfold execOp
  rcases hop with hop | hop <;>
    (simp only [hop]
     rw [hr _ _ hx,hr _ _ hy,hr _ _ hv]
     simp only [Sem.run_bind,hr',Result.andThen_ok]
     rfl)
theorem mfind_del {k:ByteArray}:∀ (m:SM) (i:Nat),(V5 k m i=none→mdel m k=m)∧(∀ j u,V5 k m i=some (j,u)→i≤j∧(m.map entM).toArray.eraseIdxIfInBounds (j - i)=(mdel m k |>.map entM).toArray)
  | [],i=>by simp [V5,mdel]
  | e::r,i=>by
    obtain ⟨ih1,ih2⟩:=mfind_del (k:=k) r (i+1)
    simp only [V5,mdel]
    cases hk:k==e.1
    · simp only [Bool.false_eq_true,if_false]
      constructor
      · intro h; rw [ih1 h]
      · intro j u h
        obtain ⟨h1,h3⟩:=ih2 j u h
        refine ⟨by omega,?_⟩
        have e1:j - i=(j - (i+1))+1:=by omega
        apply Array.ext'
        have h3':=congrArg Array.toList h3
        simp only [Array.toList_eraseIdxIfInBounds] at h3' ⊢
        rw [e1,List.map_cons,List.eraseIdx_cons_succ,h3',List.map_cons]
    · simp only [if_true]
      constructor
      · intro h; simp at h
      · intro j u h
        simp only [Option.some.injEq,Prod.mk.injEq] at h
        obtain ⟨rfl,_⟩:=h
        refine ⟨Nat.le_refl _,?_⟩
        apply Array.ext'
        simp
theorem GL_delete {P:Program} {ops:Array Oper} {i:Nat} {Q:D7} {n:Fr} {E:Env} {W0:World} {H H':List Grp} {o:Oper} {ch:List (Nat × Bool)} {cl:Call} {t kt et:TypeId} {ts:Array TypeId} {r c j q:Nat} {m:SM} {k:ByteArray} {g:Grp}
    (ho:ops[i]? = some o:=by exact rfl) (hop:o.op=.call cl:=by exact rfl) (hce:cl.callee=.builtin .delete:=by exact rfl) (hts:cl.argTypes=ts:=by exact rfl) (hat:ts[0]? = some t:=by exact rfl) (hargs:evL (evO E ch) cl.args.toList=some [.map (some r),.string k]:=by kernel_rfl)
    (hu:P.underlying t=some (.map kt et):=by kernel_rfl) (hkt:P.underlying kt=some .string:=by kernel_rfl)
    (hch:D4 ops E o.guard=some ch:=by kernel_rfl) (hd:F5 n ch o.dst=true:=by kernel_rfl) (hsure:N9 E ch=true:=by kernel_rfl)
    (hj:H[j]? = some g:=by exact rfl) (hi:g[q]? = some (r,.map (B3 m) c):=by exact rfl) (hH':H.set j (g.set q (r,.map (B3 (mdel m k)) c))=H':=by exact rfl)
    (kk:GL false P ops (i+1) Q n (Env.put E o.dst ch (.tuple #[])) W0 H'):GL false P ops i Q n E W0 H:=by
  refine Z1 (R:=fun v H1=>v=.tuple #[]∧H1=H') ho hch hd hsure (fun rr hr w hs=>?_) (by rintro v H1 ⟨rfl,rfl⟩; exact kk)
  have hblk:=hs.has _ (List.mem_flatten.2 ⟨g,List.mem_of_getElem? hj,List.mem_of_getElem? hi⟩)
  obtain ⟨w',hr',hw'⟩:=Wr_setObj (P:=P) hblk (o':=.map (B3 (mdel m k)) c) rfl
  refine ⟨.tuple #[],w',H',⟨rfl,rfl⟩,by rw [← hH']; exact hs.wr hj hi hw',.inl ?_⟩
  have hck:=run_checkKey (P:=P) (b:=(B3 m).isEmpty) hkt k w 9999
  obtain ⟨hp1,hp2⟩:=mfind_del (k:=k) m 0
  have hrun:(Builtin.delete_ ts o.type #[.map (some r),.string k]).run P w=.ok (.tuple #[]) w':=by
    have h0:(#[.map (some r),.string k]:Array Value)[0]? = some (.map (some r)):=rfl
    have h1:(#[.map (some r),.string k]:Array Value)[1]? = some (.string k):=rfl
    simp only [Builtin.delete_,hat,h0,h1,Sem.run_bind,run_underlying hu,Result.andThen_ok,K8 hblk]
    rw [hck]
    simp only [Result.andThen_ok,A0g hkt]
    cases hf:V5 k m 0 with
    | none =>
      rw [hp1 hf] at hr'
      simp only [Sem.run_bind,hr',Result.andThen_ok]; rfl
    | some p =>
      obtain ⟨jj,u⟩:=p
      obtain ⟨_,h3⟩:=hp2 jj u hf
      simp only [Nat.sub_zero] at h3
      have e1:(B3 m).eraseIdxIfInBounds jj=B3 (mdel m k):=h3
      simp only [e1,Sem.run_bind,hr',Result.andThen_ok]; rfl
  unfold execOp
  simp only [hop,resolve,hce,hts,O1 hr hargs,Sem.run_bind,Sem.run_pure,Result.andThen_ok,invoke,Go.builtin,hrun]
structure MapOk (m:SM) (c:Nat):Prop where
  keys:m.Pairwise fun x y=>(x.1==y.1)=false
  born:(m.map (·.2.2)).Nodup
  lt:∀ e,e∈m→e.2.2<c
theorem GL_range {P:Program} {ops:Array Oper} {i:Nat} {Q:D7} {n:Fr} {E:Env} {W0:World} {H:List Grp} {o:Oper} {ch:List (Nat × Bool)} {t kt et:TypeId} {x:Operand} {r c:Nat} {m:SM}
    (ho:ops[i]? = some o:=by exact rfl) (hop:o.op=.range t x:=by exact rfl) (hx:evO E ch x=some (.map (some r)):=by kernel_rfl) (hu:P.underlying t=some (.map kt et):=by kernel_rfl)
    (hch:D4 ops E o.guard=some ch:=by kernel_rfl) (hd:F5 n ch o.dst=true:=by kernel_rfl) (hsure:N9 E ch=true:=by kernel_rfl)
    (hA:At W0 H r (.map (B3 m) c))
    (kk:∀ b,GL false P ops (i+1) Q n (Env.put E o.dst ch (.pointer (some ⟨b,0,none⟩))) W0 ([(b,.mapIter (some r) c #[] c)]::H)):GL false P ops i Q n E W0 H:=by
  refine Z1 (R:=fun v H1=>∃ b,v=.pointer (some ⟨b,0,none⟩)∧H1=[(b,.mapIter (some r) c #[] c)]::H) ho hch hd hsure (fun rr hr w hs=>?_) (by rintro v H1 ⟨b,rfl,rfl⟩; exact kk b)
  refine ⟨_,w.alloc (.mapIter (some r) c #[] c),_,⟨w.heap.size,rfl,rfl⟩,hs.new rfl rfl rfl rfl,.inl ?_⟩
  unfold execOp
  simp only [hop]
  rw [hr _ _ hx]
  simp only [Instr.range,Sem.run_bind,run_underlying hu,Result.andThen_ok,K8 (hs.at hA),Sem.run_pure,run_newObj]
  rfl
def O7 (dn:SM):Array Nat:=(dn.map (·.2.2)).toArray
theorem run_getObj_iter {P:Program} {w:World} {r:Nat} {o:Obj} (h:w.heap[r]? = some o) (hc:(match o with | .cells ..=>false | _=>true)=true):(getObj r).run P w=.ok o w:=by
  cases o <;> simp at hc <;> simp [getObj,Sem.run,h]
theorem GL_next {P:Program} {ops:Array Oper} {i:Nat} {Q:D7} {n:Fr} {E:Env} {W0:World} {H:List Grp} {o:Oper} {ch:List (Nat × Bool)} {x:Operand} {it r c j q:Nat} {m dn rest:SM} {g:Grp}
    (ho:ops[i]? = some o:=by exact rfl) (hop:o.op=.next x false:=by exact rfl) (hx:evO E ch x=some (.pointer (some ⟨it,0,none⟩)):=by kernel_rfl)
    (hch:D4 ops E o.guard=some ch:=by kernel_rfl) (hd:F5 n ch o.dst=true:=by kernel_rfl) (hsure:N9 E ch=true:=by kernel_rfl)
    (hj:H[j]? = some g:=by exact rfl) (hi:g[q]? = some (it,.mapIter (some r) c (O7 dn) c):=by exact rfl) (hA:At W0 H r (.map (B3 m) c)) (hok:MapOk m c) (hp:(dn++rest).Perm m)
    (kEnd:rest=[]→GL false P ops (i+1) Q n (Env.put E o.dst ch (.tuple #[.bool false])) W0 H)
    (kMore:∀ e rest',rest.Perm (e::rest')→(dn++[e]++rest').Perm m→GL false P ops (i+1) Q n (Env.put E o.dst ch (.tuple #[.bool true,.string e.1,e.2.1])) W0 (H.set j (g.set q (it,.mapIter (some r) c (O7 (dn++[e])) c)))) :
    GL false P ops i Q n E W0 H:=by
  refine Z1 (R:=fun v H1=>(rest=[]∧v=.tuple #[.bool false]∧H1=H)∨∃ e rest',rest.Perm (e::rest')∧(dn++[e]++rest').Perm m∧v=.tuple #[.bool true,.string e.1,e.2.1]∧H1=H.set j (g.set q (it,.mapIter (some r) c (O7 (dn++[e])) c)))
    ho hch hd hsure (fun rr hr w hs=>?_) (by
      rintro v H1 (⟨h1,rfl,rfl⟩ | ⟨e,rest',h1,h2,rfl,rfl⟩)
      · exact kEnd h1
      · exact kMore e rest' h1 h2)
  have hblk:=hs.has _ (List.mem_flatten.2 ⟨g,List.mem_of_getElem? hj,List.mem_of_getElem? hi⟩)
  have hmap:=hs.at hA
  -- the entries that are left
  have hborn:((dn++rest).map (·.2.2)).Nodup:=((hp.map _).nodup_iff).2 hok.born
  have hmem:∀ e,e∈m ↔ e∈dn∨e∈rest:=fun e=>by rw [← hp.mem_iff]; simp
  have hseen:∀ e,e∈m→((O7 dn).contains e.2.2=true ↔ e∈dn):=by
    intro e he
    simp only [O7,List.contains_toArray,List.contains_iff_mem,List.mem_map]
    constructor
    · rintro ⟨e',he',hb⟩
      have he'm:e'∈m:=(hmem e').2 (.inl he')
      -- stamps tell entries apart
      have:e'=e:=by
        have hnd:=hok.born
        have:∀ (l:SM),(l.map (·.2.2)).Nodup→∀ a b,a∈l→b∈l→a.2.2=b.2.2→a=b:=by
          intro l
          induction l with
          | nil=>intro _ a b ha; simp at ha
          | cons y l ih =>
            intro hn a b ha hb' hab
            simp only [List.map_cons,List.nodup_cons] at hn
            rcases List.mem_cons.1 ha with rfl | ha2 <;> rcases List.mem_cons.1 hb' with rfl | hb2
            · rfl
            · exact absurd (List.mem_map.2 ⟨b,hb2,hab.symm⟩) hn.1
            · exact absurd (List.mem_map.2 ⟨a,ha2,hab⟩:b.2.2∈l.map (·.2.2)) hn.1
            · exact ih hn.2 a b ha2 hb2 hab
        exact this m hnd e' e he'm he hb
      exact this ▸ he'
    · intro h; exact ⟨e,h,rfl⟩
  have hdisj:∀ e,e∈rest→e ∉ dn:=by
    intro e he hd'
    rw [List.map_append,List.nodup_append] at hborn
    exact hborn.2.2 _ (List.mem_map.2 ⟨e,hd',rfl⟩) _ (List.mem_map.2 ⟨e,he,rfl⟩) rfl
  let left:SM:=m.filter fun e=>!(O7 dn).contains e.2.2
  have hleft:(B3 m).filter (fun e=>!(O7 dn).contains e.born)=B3 left:=by
    apply Array.ext'
    simp only [B3,Array.toList_filter,List.toList_toArray,left,List.filter_map]
    rfl
  have hleftmem:∀ e,e∈left ↔ e∈rest:=by
    intro e
    simp only [left,List.mem_filter,Bool.not_eq_true',← Bool.not_eq_true]
    constructor
    · rintro ⟨h1,h2⟩
      rw [hseen e h1] at h2
      exact ((hmem e).1 h1).resolve_left h2
    · intro h
      have hm':=(hmem e).2 (.inr h)
      exact ⟨hm',by rw [hseen e hm']; exact hdisj e h⟩
  have hold:(B3 left).filter (fun e=>decide (e.born<c))=B3 left:=by
    apply Array.filter_eq_self.2
    intro a ha
    simp only [B3,List.mem_toArray,List.mem_map] at ha
    obtain ⟨e,he,rfl⟩:=ha
    have:=hok.lt e (by have:=(List.mem_filter.1 he).1; exact this)
    exact decide_eq_true this
  have hnew:(B3 left).filter (fun e=>decide (e.born ≥ c))=#[]:=by
    apply Array.filter_eq_empty_iff.2
    intro a ha
    simp only [B3,List.mem_toArray,List.mem_map] at ha
    obtain ⟨e,he,rfl⟩:=ha
    have:=hok.lt e (by have:=(List.mem_filter.1 he).1; exact this)
    simp [entM]; exact this
  have hgone:(!(O7 dn).isEmpty&&!(B3 m).isEmpty&&(B3 m).all (fun e=>decide (e.born ≥ c)))=false:=by
    cases hm:m with
    | nil=>simp [B3]
    | cons e m' =>
      have:=hok.lt e (by rw [hm]; exact List.mem_cons_self)
      have h2:(B3 (e::m')).all (fun e=>decide (e.born ≥ c))=false:=by
        simp only [B3,List.map_cons,List.all_toArray,List.all_cons]
        have:decide ((entM e).born ≥ c)=false:=by simp [entM]; exact this
        simp [this]
      rw [h2]; simp
  have hexec:(execOp rr o).run P w=((Instr.next (.pointer (some ⟨it,0,none⟩)) false o.type).run P w).andThen fun v w'=>.ok (.value v) w':=by
    unfold execOp
    simp only [hop]
    rw [hr _ _ hx]
    simp only [Sem.run_bind,Sem.run_pure]
  have hit:=run_getObj_iter (P:=P) hblk rfl
  have hstep:(Instr.next (.pointer (some ⟨it,0,none⟩)) false o.type).run P w =
      ((choose (.mapNext ((if (B3 left).isEmpty then #[none] else #[])++(B3 left).map some).size)).run P w).andThen fun a w1 =>
        ((match ((if (B3 left).isEmpty then #[none] else #[])++(B3 left).map some)[a]? with
          | some (some e)=>do
            setObj it (.mapIter (some r) c ((O7 dn).push e.born) c)
            pure (.tuple #[.bool true,e.key,e.val])
          | some none=>pure (.tuple #[.bool false])
          | none => stuck "Next: no such candidate" : Sem Value)).run P w1 := by
    simp only [Instr.next,Sem.run_bind,hit,Result.andThen_ok,K8 hmap,hgone,Bool.false_eq_true,if_false,hleft,hold,hnew,Array.append_empty]
    rfl
  by_cases hre:rest=[]
  · have hl:left=[]:=by
      cases hL:left with
      | nil=>rfl
      | cons e l=>have:=(hleftmem e).1 (by rw [hL]; exact List.mem_cons_self); rw [hre] at this; simp at this
    refine ⟨.tuple #[.bool false],w,H,.inl ⟨hre,rfl,rfl⟩,hs,.inl ?_⟩
    rw [hexec,hstep,hl]
    simp [B3,Question.forced]
  · have hne:left≠[]:=by
      intro h
      cases hr':rest with
      | nil=>exact hre hr'
      | cons e l=>have:=(hleftmem e).2 (by rw [hr']; exact List.mem_cons_self); rw [h] at this; simp at this
    have hne':(B3 left).isEmpty=false:=by
      cases hL:left with
      | nil=>exact absurd hL hne
      | cons e l=>simp [B3]
    have hsz:0<left.length:=by cases hL:left with | nil=>exact absurd hL hne | cons _ _=>simp
    have hch':∃ a w1,(choose (.mapNext ((#[]:Array (Option MapEntry))++(B3 left).map some).size)).run P w=.ok a w1∧a<left.length∧(w1=w∨w1={ w with drawn:=w.drawn+1 }):=by
      have e1:((#[]:Array (Option MapEntry))++(B3 left).map some).size=left.length:=by simp [B3]
      rw [e1,run_choose]
      split
      · exact ⟨0,w,rfl,hsz,.inl rfl⟩
      · exact ⟨_,_,rfl,by simp only [Question.cut]; exact Nat.mod_lt _ hsz,.inr rfl⟩
    obtain ⟨a,w1,hc1,ha,hw1⟩:=hch'
    have hs1:Sat W0 H w1:=by rcases hw1 with rfl | rfl; exact hs; exact hs.drew
    have hblk1:=hs1.has _ (List.mem_flatten.2 ⟨g,List.mem_of_getElem? hj,List.mem_of_getElem? hi⟩)
    have hel:((#[]:Array (Option MapEntry))++(B3 left).map some)[a]? = some (some (entM left[a])):=by
      simp [B3,ha]
    have hin:left[a]∈rest:=(hleftmem _).1 (List.getElem_mem ha)
    obtain ⟨s1,s2,hsplit⟩:=List.append_of_mem hin
    have hperm1:rest.Perm (left[a]::(s1++s2)):=by rw [hsplit]; exact List.perm_middle
    have hperm2:(dn++[left[a]]++(s1++s2)).Perm m:=by
      refine List.Perm.trans ?_ hp
      rw [List.append_assoc]
      exact (List.Perm.append_left dn hperm1).symm
    obtain ⟨w',hr',hw'⟩:=Wr_setObj (P:=P) hblk1 (o':=.mapIter (some r) c (O7 (dn++[left[a]])) c) rfl
    refine ⟨.tuple #[.bool true,.string left[a].1,left[a].2.1],w',_,.inr ⟨left[a],s1++s2,hperm1,hperm2,rfl,rfl⟩,hs1.wr hj hi hw',.inl ?_⟩
    have hpush:(O7 dn).push (entM left[a]).born=O7 (dn++[left[a]]):=by simp [O7,entM]
    rw [hexec,hstep,hne']
    simp only [Bool.false_eq_true,if_false,hc1,Result.andThen_ok,hel,Sem.run_bind,hpush,hr',Sem.run_pure]
    rfl
end Go.Sw
namespace Go.Sw
open Go.RowKit
theorem born_find {m:SM} {c:Nat} (hok:MapOk m c) {e:ByteArray × Value × Nat} (he:e∈m):(B3 m).find? (fun x=>x.born==e.2.2)=some (entM e):=by
  have key:∀ l:SM,(l.map (·.2.2)).Nodup→e∈l→(l.map entM).find? (fun x=>x.born==e.2.2)=some (entM e):=by
    intro l
    induction l with
    | nil=>intro _ h; cases h
    | cons x l ih =>
      intro hn h
      simp only [List.map_cons,List.nodup_cons] at hn
      rw [List.map_cons,List.find?_cons]
      rcases List.mem_cons.1 h with rfl | h
      · simp [entM]
      · have hx:((entM x).born==e.2.2)=false:=by
          rw [beq_eq_false_iff_ne]
          intro h'
          exact hn.1 (List.mem_map.2 ⟨e,h,h'.symm⟩)
        rw [hx]
        exact ih hn.2 h
  have:=key m hok.born he
  rw [B3,List.find?_toArray]
  exact this
theorem GL_entry {d:Bool} {P:Program} {ops:Array Oper} {i:Nat} {Q:D7} {n:Fr} {E:Env} {W0:World} {H:List Grp} {o:Oper} {ch:List (Nat × Bool)} {x:Operand} {it r c:Nat} {m dn:SM} {e:ByteArray × Value × Nat}
    (ho:ops[i]? = some o:=by exact rfl) (hop:o.op=.entry x:=by exact rfl) (hx:evO E ch x=some (.pointer (some ⟨it,0,none⟩)):=by kernel_rfl)
    (hch:D4 ops E o.guard=some ch:=by kernel_rfl) (hd:F5 n ch o.dst=true:=by kernel_rfl) (hk:J3 E ch=true:=by kernel_rfl)
    (hI:At W0 H it (.mapIter (some r) c (O7 (dn++[e])) c)) (hA:At W0 H r (.map (B3 m) c)) (hok:MapOk m c) (he:e∈m)
    (kk:GL d P ops (i+1) Q n (Env.put E o.dst ch (.tuple #[.string e.1,e.2.1])) W0 H):GL d P ops i Q n E W0 H:=by
  refine I2 ho hch hd hk (fun rr hr _ w hs=>?_) kk
  have hit:=run_getObj_iter (P:=P) (hs.at hI) rfl
  have hb:(O7 (dn++[e])).back? = some e.2.2:=by
    unfold O7
    rw [List.map_append,List.map_cons,List.map_nil]
    simp
  unfold execOp
  simp only [hop]
  rw [hr _ _ hx]
  simp only [Instr.entry,Sem.run_bind,hit,Result.andThen_ok,hb,K8 (hs.at hA),bne_self_eq_false,Bool.false_eq_true,if_false,born_find hok he,Sem.run_pure]
  exact ⟨rfl,rfl⟩
def stS (s:SM × Nat) (e:ByteArray × Value × Nat):SM × Nat :=
  match e.2.1 with
  | .pointer none=>(mdel s.1 e.1,s.2)
  | v=>(H8 s.1 s.2 e.1 v,if T1 s.1 e.1 then s.2 else s.2+1)
def F3 (s:SM × Nat) (l:SM):SM × Nat:=l.foldl stS s
theorem foldS_snoc (s:SM × Nat) (l:SM) (e:ByteArray × Value × Nat):F3 s (l++[e])=stS (F3 s l) e:=by
  unfold F3; rw [List.foldl_append]; rfl
theorem mhas_false {m:SM} {k:ByteArray}:T1 m k=false ↔ ∀ e∈m,(k==e.1)=false:=by
  unfold T1; rw [List.any_eq_false]
  constructor
  · intro h e he; simpa using h e he
  · intro h e he; simpa using h e he
theorem mput_new {m:SM} {k:ByteArray} (c:Nat) (v:Value) (h:T1 m k=false):H8 m c k v=m++[(k,v,c)]:=by
  induction m with
  | nil=>rfl
  | cons e m ih =>
    rw [mhas_false] at h
    have h0:=h e List.mem_cons_self
    rw [H8,h0]
    simp only [Bool.false_eq_true,if_false]
    rw [ih (mhas_false.2 (fun x hx=>h x (List.mem_cons_of_mem _ hx)))]
    rfl
theorem mput_keys (m:SM) (c:Nat) (k:ByteArray) (v:Value) (h:T1 m k=true):(H8 m c k v).map (fun e=>(e.2.2))=m.map (fun e=>(e.2.2))∧(H8 m c k v).map Prod.fst=m.map Prod.fst:=by
  induction m with
  | nil=>cases h
  | cons e m ih =>
    rw [H8]
    cases hk:k==e.1
    · simp only [Bool.false_eq_true,if_false,List.map_cons]
      unfold T1 at h
      rw [List.any_cons,hk,Bool.false_or] at h
      obtain ⟨h1,h2⟩:=ih h
      exact ⟨by rw [h1],by rw [h2]⟩
    · simp only [if_true,List.map_cons,true_and]
      rw [baEq] at hk; rw [hk]
theorem mdel_sub (m:SM) (k:ByteArray):(mdel m k).Sublist m:=by
  induction m with
  | nil=>exact List.Sublist.refl _
  | cons e m ih =>
    rw [mdel]
    split
    · exact List.sublist_cons_self e m
    · exact ih.cons_cons e
theorem MapOk.del {m:SM} {c:Nat} (h:MapOk m c) (k:ByteArray):MapOk (mdel m k) c :=
  ⟨h.keys.sublist (mdel_sub m k),h.born.sublist ((mdel_sub m k).map _),fun e he=>h.lt e ((mdel_sub m k).subset he)⟩
theorem pw_keys {m:SM}:(m.Pairwise fun x y=>(x.1==y.1)=false) ↔ (m.map Prod.fst).Nodup:=by
  rw [List.nodup_iff_pairwise_ne,List.pairwise_map]
  constructor
  · intro h; exact h.imp (fun h=>baNe.1 h)
  · intro h; exact h.imp (fun h=>baNe.2 h)
theorem MapOk.put {m:SM} {c:Nat} (h:MapOk m c) (k:ByteArray) (v:Value):MapOk (H8 m c k v) (if T1 m k then c else c+1):=by
  cases hm:T1 m k with
  | true =>
    obtain ⟨h1,h2⟩:=mput_keys m c k v hm
    refine ⟨pw_keys.2 (by rw [h2]; exact pw_keys.1 h.keys),by rw [h1]; exact h.born,fun e he=>?_⟩
    have:e.2.2∈(H8 m c k v).map (fun e=>e.2.2):=List.mem_map.2 ⟨e,he,rfl⟩
    rw [h1] at this
    obtain ⟨x,hx,hx2⟩:=List.mem_map.1 this
    have:=h.lt x hx
    simp only [if_true]; omega
  | false =>
    rw [mput_new c v hm]
    simp only [Bool.false_eq_true,if_false]
    rw [mhas_false] at hm
    refine ⟨?_,?_,?_⟩
    · rw [List.pairwise_append]
      refine ⟨h.keys,by simp,fun x hx y hy=>?_⟩
      rw [List.mem_singleton.1 hy]
      have:=hm x hx
      rw [baNe] at this ⊢
      exact fun e=>this e.symm
    · rw [List.map_append,List.nodup_append]
      refine ⟨h.born,by simp,?_⟩
      intro a ha b hb
      obtain ⟨x,hx,rfl⟩:=List.mem_map.1 ha
      simp only [List.map_cons,List.map_nil,List.mem_singleton] at hb
      have:=h.lt x hx
      omega
    · intro e he
      rcases List.mem_append.1 he with he | he
      · have:=h.lt e he; omega
      · rw [List.mem_singleton.1 he]; simp
theorem MapOk.st {s:SM × Nat} (h:MapOk s.1 s.2) (e:ByteArray × Value × Nat):MapOk (stS s e).1 (stS s e).2:=by
  unfold stS
  split
  · exact h.del _
  · exact h.put _ _
theorem MapOk.fold {s:SM × Nat} (h:MapOk s.1 s.2) (l:SM):MapOk (F3 s l).1 (F3 s l).2:=by
  induction l generalizing s with
  | nil=>exact h
  | cons e l ih=>exact ih (h.st e)
theorem GL_rem {d:Bool} {P:Program} {ops:Array Oper} {i:Nat} {Q:D7} {n:Fr} {E:Env} {W0:World} {H:List Grp} {o:Oper} {ch:List (Nat × Bool)} {t t':TypeId} {x y:Operand} {kd:IntKind} {a b:Int}
    (ho:ops[i]? = some o:=by exact rfl) (hop:o.op=.binOp .rem t x y t':=by exact rfl) (hx:evO E ch x=some (.int kd a):=by kernel_rfl) (hy:evO E ch y=some (.int kd b):=by kernel_rfl)
    (hch:D4 ops E o.guard=some ch:=by kernel_rfl) (hd:F5 n ch o.dst=true:=by kernel_rfl) (hk:J3 E ch=true:=by kernel_rfl) (hb:chB E ch→b≠0)
    (k:GL d P ops (i+1) Q n (Env.put E o.dst ch (.int kd (Int.tmod a b))) W0 H):GL d P ops i Q n E W0 H:=by
  refine I2 ho hch hd hk (fun r hr hcb w _=>?_) k
  have h0:=hb hcb
  have:=pev_sound (P:=P) (ρ:=evO E ch) hr (o:=o) (v:=.int kd (Int.tmod a b)) (by rw [hop]; simp [pev,hx,hy,binV,h0]) w
  rw [this]
  exact ⟨rfl,rfl⟩
end Go.Sw
namespace Go.Sw
theorem GL_extern {d:Bool} {P:Program} {ops:Array Oper} {i:Nat} {Q:D7} {n:Fr} {E:Env} {W0:World} {H:List Grp} {o:Oper} {ch:List (Nat × Bool)} {c:Call} {fo:Operand} {f:FuncId} {vs:List Value}
    {fn:Func} {v:Value} {e:Array Value→Sem Value}
    (ho:ops[i]? = some o) (hop:o.op=.call c) (hce:c.callee=.value fo) (hfo:evO E ch fo=some (.func (.func f) #[] #[])) (hargs:evL (evO E ch) c.args.toList=some vs)
    (hf : P.funcs[f]? = some fn) (hrt : (fn.name == "runtime.NumGoroutine") = false) (hbody : fn.body.isNone = true) (hn : Extern.findNext fn = none) (he : Extern.find fn = some e)
    (hch:D4 ops E o.guard=some ch) (hd:F5 n ch o.dst=true) (hk:J3 E ch=true)
    (hrun:∀ w,(e vs.toArray).run P w=.ok v w)
    (k:GL d P ops (i+1) Q n (Env.put E o.dst ch v) W0 H):GL d P ops i Q n E W0 H:=by
  refine I2 ho hch hd hk (fun r hr hcb w hs=>?_) k
  have hrun':(execOp r o).run P w=.ok (.value v) w:=by
    unfold execOp
    simp only [hop]
    simp only [resolve,hce]
    rw [hr _ _ hfo,O1 hr hargs]
    simp only [Deferred.ofValue,Sem.run_bind,Sem.run_pure,Result.andThen_ok,invoke]
    have:=run_callFunc_extern hf hrt hbody hn he vs.toArray w
    simp only [Array.empty_append,Array.append_empty,this,hrun,Result.andThen_ok]
  rw [hrun']
  exact ⟨rfl,rfl⟩
def noB (s:ByteArray) (c:Int) (k:Nat):Prop:=∀ j:Nat,j<k→G9 s j≠c
theorem byteAt_get {s:ByteArray} {k:Nat} (h:k<s.size):G9 s k=((s[k]!).toNat:Int):=by
  unfold G9
  have e1:s[k]! = s[k]:=getElem!_pos s k h
  have e2:(s.data.toList)[((k:Nat):Int).toNat]? = some s[k]:=by
    rw [Int.toNat_natCast,List.getElem?_eq_getElem (by simpa using h)]; rfl
  rw [e1,e2]; rfl
def bIdx (s:ByteArray) (c:Int):Int:=firstIdx s c.toNat.toUInt8
theorem bIdx_spec (s:ByteArray) {c:Int} (h0:0≤c) (h1:c<256) :
    (∃ k:Nat,k<s.size∧bIdx s c=k∧G9 s k=c∧noB s c k)∨(bIdx s c=-1∧noB s c s.size):=by
  have hc:∀ b:UInt8,(b==c.toNat.toUInt8)=true ↔ ((b.toNat:Nat):Int)=c:=by
    intro b
    rw [beq_iff_eq]
    constructor
    · intro h; rw [h]; simp [Nat.toUInt8]; omega
    · intro h; apply UInt8.toNat_inj.1; simp [Nat.toUInt8]; omega
  unfold bIdx firstIdx
  cases hf:(List.range s.size).find? fun i=>s[i]! == c.toNat.toUInt8 with
  | none =>
    right
    refine ⟨rfl,fun j hj he=>?_⟩
    have:=List.find?_eq_none.1 hf j (List.mem_range.2 hj)
    rw [hc,← byteAt_get hj] at this
    exact this he
  | some k =>
    left
    have hk:=List.mem_range.1 (List.mem_of_find?_eq_some hf)
    refine ⟨k,hk,rfl,?_,fun j hj he=>?_⟩
    · have:=List.find?_some hf
      rw [byteAt_get hk]; exact (hc _).1 this
    · rw [List.find?_range_eq_some] at hf
      have:=hf.2.2 j hj
      rw [byteAt_get (by omega)] at he
      have h2:=(hc s[j]!).2 he
      simp [h2] at this
theorem size_extract (s:ByteArray) (a b:Nat):(s.extract a b).size=min b s.size - a:=by simp
end Go.Sw
namespace Go.Proofs.YtdolpaagdpeagaaGreatDoor
open Go.Sw Go.Lib
def pbyte (c:Int):Bool:=(97≤c&&c≤122)||(65≤c&&c≤90)||(48≤c&&c≤57)||c==45||c==95||c==46
def pall (s:ByteArray) (k:Nat):Prop:=∀ j:Nat,j<k→pbyte (G9 s j)=true
def pallB (s:ByteArray):Bool:=(List.range s.size).all fun j=>pbyte (G9 s j)
def G2 (s:ByteArray):Bool:=pallB s&&!(s.toList==eB.toList)&&decide ((s.size:Int)≤80)&&!(s.toList==(mB #[46]).toList)&&!(s.toList==(mB #[46,46]).toList)
theorem pall_zero {s:ByteArray}:pall s 0:=fun j h=>absurd h (Nat.not_lt_zero j)
theorem pall_succ {s:ByteArray} {k:Nat} (h:pall s k) (hk:pbyte (G9 s k)=true):pall s (k+1):=fun j hj=>by
  rcases Nat.lt_or_ge j k with h' | h'
  · exact h j h'
  · have:j=k:=by omega
    subst this; exact hk
theorem pallB_true {s:ByteArray} {k:Nat} (h:pall s k) (hk:s.size≤k):pallB s=true:=by
  unfold pallB
  rw [List.all_eq_true]
  intro j hj
  exact h j (by have:=List.mem_range.1 hj; omega)
theorem pallB_false {s:ByteArray} {k:Nat} (hk:k<s.size) (hb:pbyte (G9 s k)=false):pallB s=false:=by
  unfold pallB
  rw [← Bool.not_eq_true,List.all_eq_true]
  intro h
  rw [h k (List.mem_range.2 hk)] at hb
  simp at hb
def K5 (s:ByteArray):Int:=bIdx s 47
def A4 (s:ByteArray):Bool:=if K5 s<0 then G2 s else G2 (s.extract 0 (K5 s).toNat)&&G2 (s.extract ((K5 s).toNat+1) s.size)
theorem X0 {s:ByteArray} (h:¬ K5 s<0):(K5 s).toNat<s.size∧(s.extract 0 (K5 s).toNat).size=(K5 s).toNat∧(s.extract ((K5 s).toNat+1) s.size).size+((K5 s).toNat+1)=s.size:=by
  rcases bIdx_spec s (c:=47) (by omega) (by omega) with ⟨k,hk,he,_,_⟩ | ⟨he,_⟩
  · have:K5 s=k:=he
    rw [this]
    simp only [ByteArray.size_extract,Int.toNat_natCast]
    omega
  · exact absurd (show K5 s<0 by rw [K5,he]; omega) h
theorem three_idx {c:Int} (h0:0≤c) (h1:c<256):decide (bIdx (mB #[45,95,46]) c ≥ 0)=(c==45||c==95||c==46):=by
  rcases bIdx_spec (mB #[45,95,46]) h0 h1 with ⟨k,hk,he,hb,_⟩ | ⟨he,hn⟩
  · rw [he]
    have hk3:k<3:=hk
    have:k=0∨k=1∨k=2:=by omega
    rcases this with rfl | rfl | rfl
    · have:c=45:=hb.symm
      subst this; rfl
    · have:c=95:=hb.symm
      subst this; rfl
    · have:c=46:=hb.symm
      subst this; rfl
  · rw [he]
    have h45:¬ c=45:=fun h=>hn 0 (by decide) h.symm
    have h95:¬ c=95:=fun h=>hn 1 (by decide) h.symm
    have h46:¬ c=46:=fun h=>hn 2 (by decide) h.symm
    simp [h45,h95,h46]
theorem len_toList (s:ByteArray):s.toList.length=s.size:=by rw [toList_data,Array.length_toList]; rfl
theorem nil_toList {s:ByteArray}:s.toList=[] ↔ s.size=0:=by rw [← len_toList,List.length_eq_zero_iff]
theorem part_no {s:ByteArray} (h:((((decide ((s.size:Int)<1))||(decide ((s.size:Int) > 80)))||(s.toList==(mB #[46]).toList))||(s.toList==(mB #[46,46]).toList))=true):G2 s=false:=by
  have e:=nil_toList (s:=s)
  simp only [G2,Bool.or_eq_true,decide_eq_true_eq,beq_iff_eq] at h ⊢
  rcases h with ((h | h) | h) | h
  · have:s.toList=[]:=e.2 (by omega)
    simp [this]
  · have:¬ (s.size:Int)≤80:=by omega
    simp [this]
  · simp [h]
  · simp [h]
theorem part_yes {s:ByteArray} (h:((((decide ((s.size:Int)<1))||(decide ((s.size:Int) > 80)))||(s.toList==(mB #[46]).toList))||(s.toList==(mB #[46,46]).toList))=false):G2 s=pallB s:=by
  have e:=nil_toList (s:=s)
  simp only [Bool.or_eq_false_iff,decide_eq_false_iff_not] at h
  obtain ⟨⟨⟨h1,h2⟩,h3⟩,h4⟩:=h
  have h5:(s.toList==eB.toList)=false:=by
    rw [beq_eq_false_iff_ne]; intro h; have:=e.1 (by simpa using h); omega
  have h6:decide ((s.size:Int)≤80)=true:=by simp; omega
  simp only [G2,h3,h4,h5,h6,Bool.not_false,Bool.and_true]
theorem slash_or (s:ByteArray):K5 s<0∨(K5 s).toNat<s.size:=by
  rcases Int.lt_or_le (K5 s) 0 with h | h
  · exact .inl h
  · exact .inr (X0 (by omega)).1
theorem slash_one {s:ByteArray} (h:(mB #[47]).toList=s.toList):K5 s=0:=by
  have:s=ByteArray.mk #[47]:=by
    rw [toList_data,toList_data] at h
    cases s with | mk d=>cases d with | mk l=>simp at h; rw [← h]
  rw [this]; rfl
def dirB (s:ByteArray):ByteArray:=if K5 s<0 then ByteArray.mk #[] else s.extract 0 (K5 s).toNat
theorem sliteIndexByte (s:ByteArray) (c:Int) (W0:World) (H:List Grp):Tri Tryz.prog 83 #[.string s,.int .u8 c] W0 H (fun v H'=>v=.int .i64 (bIdx s c)∧H'=H):=by
 refine D6 8 Tryz.func83 ?_
 refine A2 (G_p [0] [0,1] (k:=A1 (A2 (A3 (A5 (j:=2) [0,0] (k:=GL_extern (i:=2) (ch:=[]) (f:=110) (vs:=[.string s,.int .u8 c]) (v:=.int .i64 (bIdx s c)) (e:=Extern.BytealgIndexByte.indexByte) rfl rfl rfl kr kr Tryz.func110 kr rfl kr kr kr kr kr (fun w=>run_indexByte_string s c w) (D5 (E':=[⟨4,[],.int .i64 (bIdx s c)⟩]) [0] [4] (k:=A1 ?_))))))))
 refine C8 (C5 [.tmp 4] [.int .i64 (bIdx s c)] (k:=?_))
 exact ⟨rfl,rfl⟩
theorem stringsIndexByte (s:ByteArray) (c:Int) (W0:World) (H:List Grp):Tri Tryz.prog 58 #[.string s,.int .u8 c] W0 H (fun v H'=>v=.int .i64 (bIdx s c)∧H'=H):=by
 refine D6 8 Tryz.func58 ?_
 refine A2 (G_p [0] [0,1] (k:=A1 (A2 (A3 (A5 (j:=2) [0,0] (k:=G1 (vs:=[.string s,.int .u8 c]) Tryz.func83 (sliteIndexByte _ _ _ _) (D5 (E':=[⟨4,[],.int .i64 (bIdx s c)⟩]) [0] [4] (k:=A1 ?_))))))))
 refine C8 (C5 [.tmp 4] [.int .i64 (bIdx s c)] (k:=?_))
 exact ⟨rfl,rfl⟩
theorem refPart (s:ByteArray) (hs:s.size≤9223372036854775807) (W0:World) (H:List Grp):Tri Tryz.prog 66 #[.string s] W0 H (fun v H'=>v=.bool (G2 s)∧H'=H):=by
 refine D6 64 Tryz.func66 ?_
 refine A2 (B9 (E':=[⟨0,[],.string s⟩]) [0] [0] (k:=A1 (A2 (A2 (G_p [0] [0,3] (k:=A1 (B8 (I6 (EI:=(fun ξ:Nat=>[⟨0,[],.string s⟩,⟨3,[],.int .i64 ((ξ:Nat):Int)⟩])) (HI:=(fun ξ:Nat=>H)) (Φ:=(fun ξ:Nat=>(ξ≤s.size)∧(pall s ξ))) (μ:=(fun ξ:Nat=>s.size - ξ)) (s0:=(0)) [0,3] kr rfl ⟨(by omega),pall_zero⟩ ?_))))))))
 rintro k ⟨hk,hp⟩
 refine A2 (A2 (G_p [0,0,0,0] [0,3,8] (k:=A1 (D2 (b:=decide (((k:Nat):Int)<(s.size:Int))) kr (fun hc1=>?_) (fun hc1=>?_)))))
 ·
  simp at hc1
  refine B6 (A1 (A2 (B8 (A2 (A3 (A5 (j:=2) [0,0] (k:=GL_index (ch:=[]) (s:=s) (kd:=.i64) (j:=((k:Nat):Int)) (hb:=(fun _=>by omega)) (k:=?_))))))))
  have hb2:=A0b s ((k:Nat):Int)
  refine B5 [0] [0,3,4] (k:=A1 (A2 (G_p [0,0,0,0,0,6,0,0,0,0,0,0,6,5,0,0,0,0,0,0,6,5,0,0,0,5,0,0,0,5,0,0,0,5,0] [0,3,48] (k:=A1 (D2 (b:=!(((((((decide ((G9 s ((k:Nat):Int)) ≥ 97))&&(decide ((G9 s ((k:Nat):Int))≤122)))||((decide ((G9 s ((k:Nat):Int)) ≥ 65))&&(decide ((G9 s ((k:Nat):Int))≤90))))||((decide ((G9 s ((k:Nat):Int)) ≥ 48))&&(decide ((G9 s ((k:Nat):Int))≤57))))||((G9 s ((k:Nat):Int))==45))||((G9 s ((k:Nat):Int))==95))||((G9 s ((k:Nat):Int))==46))) kr (fun hc3=>?_) (fun hc3=>?_))))))
  ·
   have hpb:pbyte (G9 s k)=false:=by (simp only [pbyte]; revert hc3; simp; omega)
   refine A2 (B9 (E':=[⟨2,[],.bool false⟩]) [0] [2] (k:=A1 (C8 (G3 (C0 (C0 (G3 (C0 ?_))))))))
   refine C5 [.tmp 2] [.bool false] (k:=?_)
   exact ⟨by simp [V4,G2,pallB_false hc1 hpb],rfl⟩
  ·
   have hpb:pbyte (G9 s k)=true:=by (simp only [pbyte]; revert hc3; simp; omega)
   refine B6 (D3 (A1 (A3 (A5 (j:=2) [0,0] (k:=F0 10 (((k:Nat):Int)+1) (by omega) (by omega) kr (B5 [0] [0,3] (k:=F6 (s':=(k+1)) [0,3] kr rfl ⟨(by omega),(pall_succ hp hpb)⟩ (by omega))))))))
 ·
  simp at hc1
  refine H0 (A6 (A6 (C3 (A1 (A2 (G_p [0,0,0,0,0,0,6,0,0,0,6,0,0,0,6,0] [2] (k:=A1 (C8 ?_))))))))
  refine C5 [.tmp 2] [.bool ((((!(s.toList==eB.toList))&&(decide ((s.size:Int)≤80)))&&(!(s.toList==(mB #[46]).toList)))&&(!(s.toList==(mB #[46,46]).toList)))] (k:=?_)
  exact ⟨by simp [V4,G2,pallB_true hp hc1],rfl⟩
theorem sliteIndex (s:ByteArray) (W0:World) (H:List Grp):Tri Tryz.prog 84 #[.string s,.string (mB #[47])] W0 H (fun v H'=>v=.int .i64 (K5 s)∧H'=H):=by
 refine D6 143 Tryz.func84 ?_
 refine A2 (G_p [0] [0,1] (k:=A1 (A2 (G_p [0,0,0] [0,1,5] (k:=A1 (A2 (B8 (A2 ?_))))))))
 refine G_p [0,0,0,0,0,0,3,0] [0,1,5,16] (k:=A1 (D2 (b:=(mB #[47]).toList==s.toList) kr (fun hc1=>?_) (fun hc1=>?_)))
 ·
  have hc1:=slash_one (by simpa using hc1)
  refine A2 (B9 (E':=[⟨4,[],.int .i64 0⟩]) [0] [4] (k:=A1 (C8 (G3 (C0 (C5 [.tmp 4] [.int .i64 0] (k:=?_)))))))
  exact ⟨by rw [hc1]; rfl,rfl⟩
 ·
  simp at hc1
  refine A2 (G_p [0,0,0] [0,1,5,24] (k:=A1 (G6 kr (A2 (A3 (A5 (j:=2) [0,0] (k:=GL_index (ch:=[]) (s:=(mB #[47])) (kd:=.i64) (j:=0) (hb:=(fun _=>by decide)) (k:=G1 (vs:=[.string s,.int .u8 47]) Tryz.func83 (sliteIndexByte _ _ _ _) ?_))))))))
  refine D5 (E':=[⟨4,[],.int .i64 (bIdx s 47)⟩]) [0] [4] (k:=A1 (C8 (G3 (C0 (C5 [.tmp 4] [.int .i64 (bIdx s 47)] (k:=?_))))))
  exact ⟨rfl,rfl⟩
theorem sliteCut (s:ByteArray) (hs:s.size≤9223372036854775807) (W0:World) (H:List Grp):Tri Tryz.prog 59 #[.string s,.string (mB #[47])] W0 H (fun v H'=>v=.tuple (if K5 s<0 then #[.string s,.string eB,.bool false] else #[.string (s.extract 0 (K5 s).toNat),.string (s.extract ((K5 s).toNat+1) s.size),.bool true])∧H'=H):=by
 have hsl:=slash_or s
 refine D6 23 Tryz.func59 ?_
 refine A2 (G_p [0,0,0] [0,1] (k:=A1 (A2 (A2 (A3 (A5 (j:=2) [0,0] (k:=G1 (vs:=[.string s,.string (mB #[47])]) Tryz.func84 (sliteIndex _ _ _) (B5 [0] [0,1,7] (k:=?_)))))))))
 refine A1 (A2 (G_p [0,0] [0,1,7,12] (k:=A1 (D2 (b:=decide ((K5 s) ≥ 0)) kr (fun hc1=>?_) (fun hc1=>?_)))))
 ·
  simp at hc1
  refine A2 (K0 (k:=A5 (j:=2) [0,0] (k:=GL_sliceS (i:=2) (ch:=[]) (s:=s) (vl:=none) (vh:=(some (.int .i64 (K5 s)))) (l:=0) (h:=K5 s) rfl rfl kr kr kr kr kr kr kr kr kr (fun _=>by omega) (A5 (j:=8) [0,0,0,0,0] (k:=F0 20 ((K5 s)+1) (by omega) (by omega) kr (GL_sliceS (i:=8) (ch:=[]) (s:=s) (vl:=(some (.int .i64 ((K5 s)+1)))) (vh:=none) (l:=(K5 s)+1) (h:=(s.size:Int)) rfl rfl kr kr kr kr kr kr kr kr kr (fun _=>by omega) (B5 [0,0,0] [4,5,6] (k:=A1 ?_))))))))
  refine C8 (C0 (C5 [.tmp 4,.tmp 5,.tmp 6] [.string (s.extract 0 (Int.toNat (K5 s))),.string (s.extract (Int.toNat ((K5 s)+1)) s.size),.bool true] (k:=?_)))
  exact ⟨by rw [if_neg (by omega),show (K5 s+1).toNat=(K5 s).toNat+1 from by omega]; rfl,rfl⟩
 ·
  simp at hc1
  refine B6 (A1 (A2 (G_p [0,0,0,0] [4,5,6] (k:=A1 (C8 (C5 [.tmp 4,.tmp 5,.tmp 6] [.string s,.string eB,.bool false] (k:=?_)))))))
  exact ⟨by rw [if_pos (by omega)]; rfl,rfl⟩
theorem stringsCut (s:ByteArray) (hs:s.size≤9223372036854775807) (W0:World) (H:List Grp):Tri Tryz.prog 29 #[.string s,.string (mB #[47])] W0 H (fun v H'=>v=.tuple (if K5 s<0 then #[.string s,.string eB,.bool false] else #[.string (s.extract 0 (K5 s).toNat),.string (s.extract ((K5 s).toNat+1) s.size),.bool true])∧H'=H):=by
 refine D6 13 Tryz.func29 ?_
 refine A2 (G_p [0,0,0] [0,1] (k:=A1 (A2 (A3 (A5 (j:=2) [0,0] (k:=I3 (ch:=[]) (f:=59) (fst:=#[]) (caps:=#[]) (vs:=[.string s,.string (mB #[47])]) (hf:=Tryz.func59) (hsure:=G0 kr) (hc:=sliteCut _ hs _ _) (k:=?_)))))))
 rintro v H' ⟨rfl,rfl⟩
 by_cases hs1:K5 s<0
 ·
  rw [if_pos hs1]
  refine B5 [0,0,0,0,0,0] [4,5,6] (k:=A1 (C8 (C5 [.tmp 4,.tmp 5,.tmp 6] [.string s,.string eB,.bool false] (k:=?_))))
  exact ⟨rfl,rfl⟩
 ·
  rw [if_neg hs1]
  obtain ⟨hs1a,hs1b,hs1c⟩:=X0 hs1
  refine B5 [0,0,0,0,0,0] [4,5,6] (k:=A1 (C8 (C5 [.tmp 4,.tmp 5,.tmp 6] [.string (s.extract 0 (K5 s).toNat),.string (s.extract ((K5 s).toNat+1) s.size),.bool true] (k:=?_))))
  exact ⟨rfl,rfl⟩
theorem vfsPart (s:ByteArray) (hs:s.size≤9223372036854775807) (W0:World) (H:List Grp):Tri Tryz.prog 78 #[.string s] W0 H (fun v H'=>v=.bool (G2 s)∧H'=H):=by
 refine D6 58 Tryz.func78 ?_
 refine A2 (B9 (E':=[⟨0,[],.string s⟩]) [0] [0] (k:=A1 (A2 (A2 (G_p [0,0,0,0,0,0,0,5,0,0,0,5,0,0,0,5] [0,20] (k:=A1 (D2 (b:=(((decide ((s.size:Int)<1))||(decide ((s.size:Int) > 80)))||(s.toList==(mB #[46]).toList))||(s.toList==(mB #[46,46]).toList)) kr (fun hc1=>?_) (fun hc1=>?_))))))))
 ·
  have hf:=part_no hc1
  refine A2 (B9 (E':=[⟨2,[],.bool false⟩]) [0] [2] (k:=A1 (C8 (C0 (C5 [.tmp 2] [.bool false] (k:=?_))))))
  exact ⟨by rw [hf]; rfl,rfl⟩
 ·
  have hf:=part_yes hc1
  have hsz:s.size≤80:=by (revert hc1; simp; omega)
  refine B6 (A1 (A2 (A2 (G_p [0,0,0] [0,22,23] (k:=A1 (B8 (I6 (EI:=(fun ξ:Nat=>[⟨0,[],.string s⟩,⟨22,[],.int .i64 (s.size:Int)⟩,⟨23,[],.int .i64 ((ξ:Nat):Int)⟩])) (HI:=(fun ξ:Nat=>H)) (Φ:=(fun ξ:Nat=>(ξ≤s.size)∧(pall s ξ))) (μ:=(fun ξ:Nat=>s.size - ξ)) (s0:=(0)) [0,22,23] kr rfl ⟨(by omega),pall_zero⟩ ?_)))))))
  rintro k ⟨hk,hp⟩
  refine A2 (G_p [0] [0,22,23,24] (k:=A1 (A2 (D2 (b:=decide (((k:Nat):Int)<(s.size:Int))) kr (fun hc2=>?_) (fun hc2=>?_)))))
  ·
   simp at hc2
   refine B6 (A1 (A2 (B8 (A2 (G_p [0,0] [0,3,22,23] (k:=A1 (A2 (A3 ?_))))))))
   refine A5 (j:=2) [0,0] (k:=GL_index (ch:=[]) (s:=s) (kd:=.i64) (j:=((k:Nat):Int)) (hb:=(fun _=>by omega)) (k:=?_))
   have hb3:=A0b s ((k:Nat):Int)
   refine B5 [0] [0,4,22,23] (k:=A1 (A2 (A3 (A5 (j:=24) [0,0,0,0,0,6,0,0,0,0,0,0,6,5,0,0,0,0,0,0,6,5,0,0] (k:=A0p (vs:=[.string (mB #[45,95,46]),.int .u8 (G9 s ((k:Nat):Int))]) [(51,false)] Tryz.func58 (fun hc=>stringsIndexByte _ _ _ _) (B5 [0,5,0] [0,22,23,56] (k:=A1 (D2 (b:=!(((((decide ((G9 s ((k:Nat):Int)) ≥ 97))&&(decide ((G9 s ((k:Nat):Int))≤122)))||((decide ((G9 s ((k:Nat):Int)) ≥ 65))&&(decide ((G9 s ((k:Nat):Int))≤90))))||((decide ((G9 s ((k:Nat):Int)) ≥ 48))&&(decide ((G9 s ((k:Nat):Int))≤57))))||(decide ((bIdx (mB #[45,95,46]) (G9 s ((k:Nat):Int))) ≥ 0)))) kr (fun hc4=>?_) (fun hc4=>?_)))))))))
   ·
    rw [three_idx hb3.1 hb3.2] at hc4
    have hpb:pbyte (G9 s k)=false:=by (simp only [pbyte]; revert hc4; simp; omega)
    refine A2 (B9 (E':=[⟨2,[],.bool false⟩]) [0] [2] (k:=A1 (C8 (G3 (C0 (C0 (G3 (C0 ?_))))))))
    refine C5 [.tmp 2] [.bool false] (k:=?_)
    exact ⟨by simp [V4,hf,pallB_false hc2 hpb],rfl⟩
   ·
    rw [three_idx hb3.1 hb3.2] at hc4
    have hpb:pbyte (G9 s k)=true:=by (simp only [pbyte]; revert hc4; simp; omega)
    refine B6 (D3 (A1 (A3 (A5 (j:=1) [0] (k:=F0 57 (((k:Nat):Int)+1) (by omega) (by omega) kr (B5 [0] [0,22,23] (k:=F6 (s':=(k+1)) [0,22,23] kr rfl ⟨(by omega),(pall_succ hp hpb)⟩ (by omega))))))))
  ·
   simp at hc2
   refine H0 (A6 (A6 (C3 (A1 (A2 (B9 (E':=[⟨2,[],.bool true⟩]) [0] [2] (k:=A1 (C8 ?_))))))))
   refine C5 [.tmp 2] [.bool true] (k:=?_)
   exact ⟨by simp [V4,hf,pallB_true hp hc2],rfl⟩
theorem S7 (p:ByteArray) (hp:p.size≤9223372036854775807) (W0:World) (H:List Grp):Tri Tryz.prog 61 #[.string p] W0 H (fun v H'=>v=.bool (A4 p)∧H'=H):=by
 refine D6 22 Tryz.func61 ?_
 refine A2 (B9 (E':=[⟨0,[],.string p⟩]) [0] [0] (k:=A1 (A2 (A3 (A5 (j:=1) [0] (k:=I3 (ch:=[]) (f:=29) (fst:=#[]) (caps:=#[]) (vs:=[.string p,.string (mB #[47])]) (hf:=Tryz.func29) (hsure:=G0 kr) (hc:=stringsCut _ hp _ _) (k:=?_)))))))
 rintro v H' ⟨rfl,rfl⟩
 by_cases hs1:K5 p<0
 ·
  rw [if_pos hs1]
  refine B5 [0,0,0,0,0,0,0] [3,4,5] (k:=A1 (A2 (A3 (A5 (j:=1) [0] (k:=G1 (vs:=[.string p]) Tryz.func78 (vfsPart _ hp _ _) (D5 (E':=[⟨2,[],.bool ((G2 p)&&true)⟩]) [0,0,0,0,1,1,2,6,0] [2] (k:=A1 (C8 ?_))))))))
  refine C5 [.tmp 2] [.bool ((G2 p)&&true)] (k:=?_)
  exact ⟨by simp [V4,A4,hs1],rfl⟩
 ·
  rw [if_neg hs1]
  obtain ⟨hs1a,hs1b,hs1c⟩:=X0 hs1
  refine B5 [0,0,0,0,0,0,0] [3,4,5] (k:=A1 (A2 (A3 (A5 (j:=1) [0] (k:=G1 (vs:=[.string (p.extract 0 (K5 p).toNat)]) Tryz.func78 (vfsPart _ (by simp only [ByteArray.size_extract]; omega) _ _) (A5 (j:=7) [0,0,0,0,0] (k:=A0p (vs:=[.string (p.extract ((K5 p).toNat+1) p.size)]) [(17,false),(14,true)] Tryz.func78 (fun hc=>vfsPart _ (by simp only [ByteArray.size_extract]; omega) _ _) (B5 [3,6,0] [2] (k:=?_)))))))))
  refine A1 (C8 (C5 [.tmp 2] [.bool ((G2 (p.extract 0 (K5 p).toNat))&&(G2 (p.extract ((K5 p).toNat+1) p.size)))] (k:=?_)))
  exact ⟨by simp [V4,A4,hs1],rfl⟩
theorem N7 (p:ByteArray) (hp:p.size≤9223372036854775807) (W0:World) (H:List Grp):Tri Tryz.prog 39 #[.string p] W0 H (fun v H'=>v=.string (dirB p)∧H'=H):=by
 refine D6 15 Tryz.func39 ?_
 refine A2 (B9 (E':=[⟨0,[],.string p⟩]) [0] [0] (k:=A1 (A2 (A3 (A5 (j:=1) [0] (k:=I3 (ch:=[]) (f:=29) (fst:=#[]) (caps:=#[]) (vs:=[.string p,.string (mB #[47])]) (hf:=Tryz.func29) (hsure:=G0 kr) (hc:=stringsCut _ hp _ _) (k:=?_)))))))
 rintro v H' ⟨rfl,rfl⟩
 by_cases hs1:K5 p<0
 ·
  rw [if_pos hs1]
  refine B5 [0,0,0,0,0,0,0] [3,5] (k:=A1 (A2 (A2 (G_p [0,0] [3,13] (k:=A1 (G6 kr (A2 (B9 (E':=[⟨2,[],.string eB⟩]) [0] [2] (k:=?_)))))))))
  refine A1 (C8 (C0 (C5 [.tmp 2] [.string eB] (k:=?_))))
  exact ⟨by simp [V4,dirB,hs1],rfl⟩
 ·
  rw [if_neg hs1]
  obtain ⟨hs1a,hs1b,hs1c⟩:=X0 hs1
  refine B5 [0,0,0,0,0,0,0] [3,5] (k:=A1 (A2 (A2 (G_p [0,0] [3,13] (k:=A1 (D9 kr (B6 (A1 ?_))))))))
  refine A2 (G_p [0,0] [2] (k:=A1 (C8 (C5 [.tmp 2] [.string (p.extract 0 (K5 p).toNat)] (k:=?_)))))
  exact ⟨by simp [V4,dirB,hs1],rfl⟩
end Go.Proofs.YtdolpaagdpeagaaGreatDoor
namespace Go.Sw
def u8s (l:List UInt8):List Value:=l.map fun b=>Value.int .u8 (b.toNat:Int)
theorem GL_bytesStr {d:Bool} {P:Program} {ops:Array Oper} {i:Nat} {Q:D7} {n:Fr} {E:Env} {W0:World} {H:List Grp} {o:Oper} {ch:List (Nat × Bool)} {src dst e:TypeId} {x:Operand} {a:Addr} {cap:Nat} {S:Nat→Obj→Prop} (l:List UInt8)
    (ho:ops[i]? = some o) (hop:o.op=.convert src dst x) (hx:evO E ch x=some (.slice (some a) l.length cap)) (hs:P.underlying src=some (.slice e)) (he:P.underlying e=some (.int .u8)) (hds:P.underlying dst=some .string)
    (hch:D4 ops E o.guard=some ch) (hd:F5 n ch o.dst=true) (hk:J3 E ch=true)
    (hrd:Rd S (some a) (u8s l)) (hS:∀ b o,S b o→At W0 H b o)
    (k:GL d P ops (i+1) Q n (Env.put E o.dst ch (.string ⟨l.toArray⟩)) W0 H):GL d P ops i Q n E W0 H:=by
  refine I2 ho hch hd hk (fun r hr _ w hsat=>?_) k
  unfold execOp
  simp only [hop]
  rw [hr _ _ hx]
  have:=Go.run_convert_bytes_back (P:=P) w src dst e a cap l hs he hds (fun j hj=>by
    have hv:(u8s l)[j]? = some (.int .u8 (l[j].toNat:Int)):=by simp [u8s,hj]
    obtain ⟨b,off,c,t,fz,h1,h2,h3,h4⟩:=hrd.elt hv
    have ha:a.add j=⟨b,off+j,none⟩:=h3
    rw [ha]
    exact A0l (hsat.at (hS _ _ h2)) h4)
  simp only [Sem.run_bind,Sem.run_pure,this,Result.andThen_ok]
  exact ⟨rfl,rfl⟩
theorem C7 {d:Bool} {P:Program} {ops:Array Oper} {i:Nat} {Q:D7} {n:Fr} {E:Env} {W0:World} {H:List Grp} {o:Oper} {ch:List (Nat × Bool)} {t e:TypeId} {x ix:Operand} {b off len sz:Nat} {kd:IntKind} {j:Int}
    (ho:ops[i]? = some o:=by exact rfl) (hop:o.op=.indexAddr t x ix:=by exact rfl) (hx:evO E ch x=some (.pointer (some ⟨b,off,none⟩)):=by kernel_rfl) (hix:evO E ch ix=some (.int kd j):=by kernel_rfl) (hu:P.underlying t=some (.array len e):=by kernel_rfl) (hsz:T5 P e=some sz:=by kernel_rfl)
    (hch:D4 ops E o.guard=some ch:=by kernel_rfl) (hd:F5 n ch o.dst=true:=by kernel_rfl) (hk:J3 E ch=true:=by kernel_rfl)
    (hb:chB E ch→0≤j∧j<len)
    (k:GL d P ops (i+1) Q n (Env.put E o.dst ch (.pointer (some ⟨b,off+j.toNat * sz,none⟩))) W0 H):GL d P ops i Q n E W0 H:=by
  refine I2 ho hch hd hk (fun r hr hcb w _=>?_) k
  obtain ⟨h0,h1⟩:=hb hcb
  unfold execOp
  simp only [hop]
  rw [hr _ _ hx,hr _ _ hix]
  simp only [Instr.indexAt,asIntOf,Instr.sureAddr,Sem.run_bind,Sem.run_pure,Result.andThen_ok,run_underlying hu,if_pos (⟨h0,h1⟩:0≤j∧j<(len:Int)),J1 hsz,L5]
  exact ⟨rfl,rfl⟩
end Go.Sw
namespace Go.Vf
open Go.Sw Go.RowKit
def B7 (fails once:Bool) (calls:Int) (right:Bool):Int × Bool × Int :=
  if right=false then (2,fails,calls) else if fails=false then (0,fails,calls) else if calls > 0 then (0,fails,calls - 1) else (62,!once,calls)
theorem callS_arg {f o r:Bool} {c:Int} (h:(!r)=true):B7 f o c r=(2,f,c):=by unfold B7; cases r <;> simp at h ⊢
theorem callS_ok {f o r:Bool} {c:Int} (h:(!r)=false) (hf:(!f)=true):B7 f o c r=(0,f,c):=by unfold B7; cases r <;> cases f <;> simp at h hf ⊢
theorem callS_dec {f o r:Bool} {c:Int} (h:(!r)=false) (hf:(!f)=false) (hc:decide (c > 0)=true):B7 f o c r=(0,f,c - 1):=by
  have:=of_decide_eq_true hc
  unfold B7; cases r <;> cases f <;> simp at h hf ⊢; omega
theorem callS_no {f o r:Bool} {c:Int} (h:(!r)=false) (hf:(!f)=false) (hc:decide (c > 0)=false):B7 f o c r=(62,!o,c):=by
  have:=of_decide_eq_false hc
  unfold B7; cases r <;> cases f <;> simp at h hf ⊢; omega
def sumN (f:Value→Nat) (m:SM):Nat:=(m.map fun e=>f e.2.1).sum
theorem sumN_snoc (f:Value→Nat) (m:SM) (e:ByteArray × Value × Nat):sumN f (m++[e])=sumN f m+f e.2.1:=by
  unfold sumN; rw [List.map_append,List.sum_append]; simp
theorem sumN_perm {f:Value→Nat} {a b:SM} (h:a.Perm b):sumN f a=sumN f b:=(h.map _).sum_nat
theorem sumN_part {f:Value→Nat} {a b c:SM} (h:(a++b).Perm c):sumN f a≤sumN f c:=by
  rw [← sumN_perm h]; unfold sumN; rw [List.map_append,List.sum_append]; omega
theorem u8s_one {l:List UInt8}:∀ u∈u8s l,u.oneCell'=true:=by
  intro u hu
  unfold u8s at hu
  obtain ⟨b,_,rfl⟩:=List.mem_map.1 hu
  rfl
theorem u8s_len (l:List UInt8):(u8s l).length=l.length:=by unfold u8s; rw [List.length_map]
theorem own_nil {et:TypeId} {v:Value} {g:Grp} {n:Nat} {cs:List Value} (h:Go.Sw.Own et 1 v g (0+n) ([]++cs)):Go.Sw.Own et 1 v g n cs:=by simpa using h
theorem X5 (k:ByteArray) (v:Value):MapOk [(k,v,0)] 1:=⟨by simp,by simp,by simp⟩
theorem hv1 (k:ByteArray) (p:Nat):∀ e∈[(k,Value.pointer (some ⟨p,0,none⟩),0)],e.2.1=Value.pointer none∨∃ p,e.2.1=Value.pointer (some ⟨p,0,none⟩):=by
  intro e he
  rw [List.mem_singleton.1 he]; exact .inr ⟨p,rfl⟩
theorem hv0 (k:ByteArray):∀ e∈[(k,Value.pointer none,0)],e.2.1=Value.pointer none∨∃ p,e.2.1=Value.pointer (some ⟨p,0,none⟩):=by
  intro e he
  rw [List.mem_singleton.1 he]; exact .inl rfl
def MadeOf:List SM→SM × Nat→SM × Nat→Prop
  | [],s,s'=>s'=s
  | x::r,s,s'=>∃ dn,dn.Perm x∧MadeOf r (F3 s dn) s'
theorem made_snoc {x:SM} {dn:SM} (hd:dn.Perm x):∀ {xs:List SM} {s s1:SM × Nat},MadeOf xs s s1→MadeOf (xs++[x]) s (F3 s1 dn)
  | [],s,s1,h=>by subst h; exact ⟨dn,hd,rfl⟩
  | y::r,s,s1,⟨d,h1,h2⟩=>⟨d,h1,made_snoc hd h2⟩
theorem made_ok:∀ {xs:List SM} {s s':SM × Nat},MadeOf xs s s'→MapOk s.1 s.2→MapOk s'.1 s'.2
  | [],_,_,h,ho=>by subst h; exact ho
  | _::_,_,_,⟨_,_,h⟩,ho=>made_ok h (ho.fold _)
theorem take_snoc {α:Type} {l:List α} {k:Nat} {d:α} (h:k<l.length):l.take (k+1)=l.take k++[l.getD k d]:=by
  rw [List.take_add_one,List.getElem?_eq_getElem h,List.getD_eq_getElem?_getD,List.getElem?_eq_getElem h]; rfl
theorem map_at {qs:List Nat} {k:Nat} (h:k<qs.length):(qs.map fun q=>Value.map (some q))[k]? = some (.map (some (qs.getD k 0))):=by
  rw [List.getElem?_map,List.getElem?_eq_getElem h,List.getD_eq_getElem?_getD,List.getElem?_eq_getElem h]; rfl
theorem maps_ne {qs:List Nat} {k:Nat} (h:k<qs.length):(qs.map fun q=>Value.map (some q))≠[]:=by
  intro h'; rw [List.map_eq_nil_iff] at h'; rw [h'] at h; simp at h
def E3 (k n:Int):Int:=Int.tmod (Int.tmod k n+n) n
theorem A0h {k n:Int} (hn:0<n):0≤E3 k n∧E3 k n<n:=by
  unfold E3
  have h1:=Int.tmod_lt_of_pos k hn
  have h2:-n<Int.tmod k n:=by
    have:=Int.lt_tmod_of_pos k hn
    omega
  have h3:0≤Int.tmod k n+n:=by omega
  exact ⟨Int.tmod_nonneg n h3,Int.tmod_lt_of_pos _ hn⟩
theorem next_is {k n:Int} (hn:0<n) (hn2:n≤1000000000000) (_:-9223372036854775808≤k) (_:k≤9223372036854775807):Int.tmod (IntKind.wrap .i64 (Int.tmod k n+n)) n=E3 k n:=by
  have h1:=Int.tmod_lt_of_pos k hn
  have h2:=Int.lt_tmod_of_pos k hn
  rw [w64 (by omega) (by omega)]
  rfl
end Go.Vf
namespace Go.Proofs.YtdolpaagdpeagaaGreatDoor
open Go.Sw Go.Lib Go.Vf Go.RowKit
theorem vCall (d nb kb cb:Nat) (room calls:Int) (bv:Value) (fails once:Bool) (right:Bool) (hc:-9223372036854775808≤calls∧calls≤9223372036854775807) (W0:World) (H:List Grp):Tri Tryz.prog 72 #[pt d,.bool right] W0 ([(d,.cells #[.int .i64 room,bv,.map (some nb),.map (some kb),.map (some cb),.bool fails,.bool once,.int .i64 calls] 64 (0,0))]::H) (fun v H'=>v=.int .i64 (B7 fails once calls right).1∧H'=([(d,.cells #[.int .i64 room,bv,.map (some nb),.map (some kb),.map (some cb),.bool ((B7 fails once calls right).2.1),.bool once,.int .i64 ((B7 fails once calls right).2.2)] 64 (0,0))]::H)):=by
 refine D6 38 Tryz.func72 ?_
 refine A2 (B9 (E':=[⟨0,[],pt d⟩,⟨1,[],.bool right⟩]) [0] [0,1] (k:=A1 (A2 (B8 (A2 (G_p [0,0,0] [0,1,5] (k:=A1 (D9 kr ?_))))))))
 refine A2 (B9 (E':=[⟨0,[],pt d⟩,⟨8,[],.bool (!right)⟩]) [0,0,0] [0,8] (k:=A1 (D2 (b:=!right) kr (fun hc1=>?_) (fun hc1=>?_))))
 ·
  have hr:=hc1
  refine A2 (B9 (E':=[⟨4,[],.int .i64 2⟩]) [0] [4] (k:=A1 (C8 (G3 (C0 (C5 [.tmp 4] [.int .i64 2] (k:=?_)))))))
  rw [callS_arg hr]
  exact ⟨rfl,rfl⟩
 ·
  have hr:=hc1
  refine A2 (A3 (A5 (j:=3) [0,0,0] (k:=D0 0 5 rfl rfl (B5 [0,0] [0,11] (k:=A1 (D2 (b:=!fails) kr (fun hc2=>?_) (fun hc2=>?_)))))))
  ·
   have hf:=hc2
   refine A2 (B9 (E':=[⟨4,[],.int .i64 0⟩]) [0] [4] (k:=A1 (C8 (G3 (C0 (C5 [.tmp 4] [.int .i64 0] (k:=?_)))))))
   rw [callS_ok hr hf]
   exact ⟨rfl,rfl⟩
  ·
   have hf:=hc2
   refine A2 (A3 (A5 (j:=3) [0,0,0] (k:=D0 0 7 rfl rfl (B5 [0,0] [0,17] (k:=A1 (D2 (b:=decide (calls > 0)) kr (fun hc3=>?_) (fun hc3=>?_)))))))
   ·
    have hp:=hc3
    simp at hc3
    refine A2 (A3 (A5 (j:=3) [0,0,0] (k:=D0 0 7 rfl rfl (A5 (j:=5) [0] (k:=F0 27 (calls - 1) (by omega) (by omega) kr (A5 (j:=7) [0,0] (k:=M8 0 7 (.int .i64 (calls - 1)) rfl (D5 (E':=[]) [] [] (k:=?_)))))))))
    refine A1 (A2 (B9 (E':=[⟨4,[],.int .i64 0⟩]) [0] [4] (k:=A1 (C8 (G3 (C0 (C5 [.tmp 4] [.int .i64 0] (k:=?_))))))))
    rw [callS_dec hr hf hp]
    exact ⟨rfl,rfl⟩
   ·
    have hp:=hc3
    simp at hc3
    refine B6 (D3 (A1 (A2 (A3 (A5 (j:=4) [0,0,0,0] (k:=D0 0 6 rfl rfl (A5 (j:=8) [0,0,0] (k:=M8 0 5 (.bool (!once)) rfl ?_))))))))
    refine D5 (E':=[]) [] [] (k:=A1 (A2 (B9 (E':=[⟨4,[],.int .i64 62⟩]) [0] [4] (k:=A1 (C8 (C5 [.tmp 4] [.int .i64 62] (k:=?_)))))))
    rw [callS_no hr hf hp]
    exact ⟨rfl,rfl⟩
theorem vFail (d nb kb cb:Nat) (room calls:Int) (bv:Value) (fails once:Bool) (n:Int) (o:Bool) (W0:World) (H:List Grp):Tri Tryz.prog 14 #[pt d,.int .i64 n,.bool o] W0 ([(d,.cells #[.int .i64 room,bv,.map (some nb),.map (some kb),.map (some cb),.bool fails,.bool once,.int .i64 calls] 64 (0,0))]::H) (fun v H'=>v=.tuple #[]∧H'=([(d,.cells #[.int .i64 room,bv,.map (some nb),.map (some kb),.map (some cb),.bool true,.bool o,.int .i64 (if 0 > n then 0 else n)] 64 (0,0))]::H)):=by
 refine D6 20 Tryz.func14 ?_
 refine A2 (G_p [0,0] [0,1,2,7] (k:=A1 (G6 kr (A3 (A5 (j:=8) [0,0,0,0,0,0,0,0] (k:=M8 0 5 (.bool true) rfl (A5 (j:=11) [0,0] (k:=M8 0 6 (.bool o) rfl ?_))))))))
 refine A5 (j:=14) [0,0] (k:=M8 0 7 (.int .i64 (if 0 > n then 0 else n)) rfl (D5 (E':=[]) [] [] (k:=C5 [] [] (k:=?_))))
 exact ⟨rfl,rfl⟩
theorem vNew (room:Int) (W0:World) (H:List Grp):Tri Tryz.prog 8 #[.int .i64 room] W0 H (fun v H'=>∃ d nb kb cb,v=.pointer (some ⟨d,0,none⟩)∧H'=[(d,.cells #[.int .i64 (if 0 > room then 0 else room),.slice none 0 0,.map (some nb),.map (some kb),.map (some cb),.bool false,.bool false,.int .i64 0] 64 (0,0))]::[(cb,.map (B3 []) 0)]::[(kb,.map (B3 []) 0)]::[(nb,.map (B3 []) 0)]::H):=by
 refine D6 10 Tryz.func8 ?_
 refine A2 (B9 (E':=[⟨0,[],.int .i64 room⟩]) [0] [0] (k:=A1 (A2 (A3 (A5 (j:=2) [0,0] (k:=O6 (ch:=[]) (k:=(fun b1=>O6 (ch:=[]) (k:=(fun b2=>O6 (ch:=[]) (k:=(fun b3=>?_))))))))))))
 refine A5 (j:=6) [0] (k:=O9 (.agg #[.int .i64 (if 0 > room then 0 else room),.slice none 0 0,.map (some b1),.map (some b2),.map (some b3),.bool false,.bool false,.int .i64 0]) (fun b4=>D5 (E':=[⟨2,[],pt b4⟩]) [0] [2] (k:=A1 (C8 (C5 [.tmp 2] [pt b4] (k:=?_))))))
 exact ⟨_,_,_,_,rfl,rfl⟩
theorem vApply (nb q nc cc:Nat) (nm cm:SM) (_:MapOk nm nc) (hcm:MapOk cm cc) (hv:∀ e∈cm,e.2.1=.pointer none∨∃ p,e.2.1=.pointer (some ⟨p,0,none⟩)) (W0:World) (H:List Grp) (hA:At W0 H q (.map (B3 cm) cc)):Tri Tryz.prog 37 #[.map (some nb),.map (some q)] W0 ([(nb,.map (B3 nm) nc)]::H) (fun v H'=>∃ dn,dn.Perm cm∧v=.tuple #[]∧H'=[(nb,.map (B3 (F3 (nm,nc) dn).1) (F3 (nm,nc) dn).2)]::H):=by
 refine D6 20 Tryz.func37 ?_
 refine A2 (A3 (A5 (j:=1) [0] (k:=GL_range (ch:=[]) (kt:=9) (et:=70) (r:=q) (c:=cc) (m:=cm) (hA:=At.cons hA) (kk:=(fun it1=>B5 [] [0,7] (k:=A1 (B8 (I6 (EI:=(fun ξ:SM × SM=>[⟨0,[],.map (some nb)⟩,⟨7,[],pt it1⟩])) (HI:=(fun ξ:SM × SM=>([(it1,.mapIter (some q) cc (O7 ξ.1) cc)]::[(nb,.map (B3 ((F3 (nm,nc) ξ.1).1)) ((F3 (nm,nc) ξ.1).2))]::H))) (Φ:=(fun ξ:SM × SM=>((ξ.1++ξ.2).Perm cm))) (μ:=(fun ξ:SM × SM=>ξ.2.length)) (s0:=([],cm)) [0,7] kr (by rfl) (List.Perm.refl _) ?_))))))))
 rintro ⟨dn,rest⟩ hpm
 refine A2 (A3 (GL_next (ch:=[]) (it:=it1) (r:=q) (c:=cc) (j:=0) (q:=0) (m:=cm) (dn:=dn) (rest:=rest) (hA:=At.cons (At.cons hA)) (hok:=hcm) (hp:=hpm) (kEnd:=(fun hend6=>?_)) (kMore:=(fun e2 rest3 hp4 hq5=>?_))))
 ·
  refine B5 [0] [0,7,9] (k:=A1 (A2 (D9 kr (H0 (A6 (A6 (C3 (G8 (fun w h=>h.erase 0) ?_))))))))
  refine C5 [] [] (k:=?_)
  exact ⟨dn,by simpa [hend6] using hpm,rfl,rfl⟩
 ·
  have hve:=hv e2 (hq5.mem_iff.1 (by simp))
  obtain ⟨k7,v8,st9⟩:=e2
  simp only at hve
  rcases hve with rfl | ⟨p10,rfl⟩
  ·
   refine B5 [0] [0,7,9] (k:=A1 (A2 (G6 kr (B6 (A1 (B8 (A2 (A3 ?_))))))))
   refine GL_entry (ch:=[]) (it:=it1) (r:=q) (c:=cc) (m:=cm) (dn:=dn) (e:=(k7,.pointer none,st9)) (hI:=At.grp 0 0 rfl rfl) (hA:=At.cons (At.cons hA)) (hok:=hcm) (he:=hq5.mem_iff.1 (by simp)) (kk:=B5 [0,0,0,0] [0,4,5,7] (k:=A1 (A2 (G_p [0,0] [0,4,5,7,14] (k:=A1 (G6 kr (A3 (A5 (j:=2) [0,0] (k:=?_)))))))))
   refine GL_delete (ch:=[]) (ts:=#[60,9]) (t:=60) (kt:=9) (et:=70) (r:=nb) (c:=(F3 (nm,nc) dn).2) (j:=1) (q:=0) (m:=(F3 (nm,nc) dn).1) (k:=k7) (H':=([(it1,.mapIter (some q) cc (O7 (dn++[(k7,.pointer none,st9)])) cc)]::[(nb,.map (B3 (mdel ((F3 (nm,nc) dn).1) k7)) ((F3 (nm,nc) dn).2))]::H)) (kk:=B5 [] [0,7] (k:=D3 (F6 (s':=(dn++[(k7,.pointer none,st9)],rest3)) [0,7] kr (by rw [foldS_snoc]; rfl) hq5 (by have:=hp4.length_eq; simp only [List.length_cons] at this; show rest3.length<rest.length; omega))))
  ·
   refine B5 [0] [0,7,9] (k:=A1 (A2 (G6 kr (B6 (A1 (B8 (A2 (A3 ?_))))))))
   refine GL_entry (ch:=[]) (it:=it1) (r:=q) (c:=cc) (m:=cm) (dn:=dn) (e:=(k7,.pointer (some ⟨p10,0,none⟩),st9)) (hI:=At.grp 0 0 rfl rfl) (hA:=At.cons (At.cons hA)) (hok:=hcm) (he:=hq5.mem_iff.1 (by simp)) (kk:=B5 [0,0,0,0] [0,4,5,7] (k:=A1 (A2 (G_p [0,0] [0,4,5,7,14] (k:=A1 (D9 kr (A3 (A5 (j:=3) [0,0,0] (k:=?_)))))))))
   refine I1 (ch:=[]) (kt:=9) (et:=70) (r:=nb) (c:=(F3 (nm,nc) dn).2) (j:=1) (q:=0) (m:=(F3 (nm,nc) dn).1) (k:=k7) (v:=pt p10) (H':=([(it1,.mapIter (some q) cc (O7 (dn++[(k7,.pointer (some ⟨p10,0,none⟩),st9)])) cc)]::[(nb,.map (B3 (H8 ((F3 (nm,nc) dn).1) ((F3 (nm,nc) dn).2) k7 (pt p10))) (if T1 ((F3 (nm,nc) dn).1) k7 then (F3 (nm,nc) dn).2 else (F3 (nm,nc) dn).2+1))]::H)) (hop:=.inl rfl) (kk:=B5 [] [0,7] (k:=D3 (F6 (s':=(dn++[(k7,.pointer (some ⟨p10,0,none⟩),st9)],rest3)) [0,7] kr (by rw [foldS_snoc]; rfl) hq5 (by have:=hp4.length_eq; simp only [List.length_cons] at this; show rest3.length<rest.length; omega))))
end Go.Proofs.YtdolpaagdpeagaaGreatDoor
namespace Go.Proofs.YtdolpaagdpeagaaGreatDoor
open Go.Sw Go.Lib Go.Vf Go.RowKit
theorem vCloneNil  (W0:World) (H:List Grp):Tri Tryz.prog 41 #[.slice none 0 0] W0 H (fun v H'=>v=.slice none 0 0∧H'=H):=by
 refine D6 8 Tryz.func41 ?_
 refine A2 (B9 (E':=[⟨0,[],.slice none 0 0⟩]) [0] [0] (k:=A1 (A2 (A2 (G_p [0,0] [0,4] (k:=A1 (G6 kr (A2 ?_))))))))
 refine B9 (E':=[⟨2,[],.slice none 0 0⟩]) [0] [2] (k:=A1 (C8 (C0 (C5 [.tmp 2] [.slice none 0 0] (k:=?_)))))
 exact ⟨rfl,rfl⟩
theorem vClone (b off n cap:Nat) (S:Nat→Obj→Prop) (l:List UInt8) (hrd:Rd S (some ⟨b,off,none⟩) (u8s l)) (hl:l.length=n) (hn:n≤1000000000) (W0:World) (H:List Grp) (hS:∀ y o,S y o→At W0 H y o):Tri Tryz.prog 41 #[.slice (some ⟨b,off,none⟩) n cap] W0 H (fun v H'=>∃ g,Go.Sw.Own 5 1 v g n (u8s l)∧H'=g::H):=by
 refine D6 8 Tryz.func41 ?_
 refine A2 (G_p [0] [0] (k:=A1 (A2 (A2 (G_p [0,0] [0,4] (k:=A1 (D9 kr (B6 ?_))))))))
 refine A1 (A2 (A3 (N2 5 0 [] (fun b1=>A5 (j:=2) [0] (k:=M0 (i:=2) (ch:=[]) (t:=31) (tx:=31) (e:=5) (inf:=Tryz.t5) (s:=.slice (some ⟨b1,0,none⟩) 0 0) (x:=.slice (some ⟨b,off,none⟩) n cap) (n:=0) (m:=n) (j:=0) (cs:=[]) (news:=(u8s l)) (g:=[(b1,.cells #[] 5 (0,0))]) (S:=S) rfl rfl rfl rfl kr kr kr rfl rfl (.inl ⟨5,kr⟩) (fun ⟨_,h⟩=>by cases h) (fun _=>⟨5,kr⟩) kr kr kr rfl (Go.Sw.Own.lit rfl) (SrcOf.slice _ _ _ _ hrd (fun h=>by cases h)) (fun y o h=>(At.cons (hS y o h))) (by show (u8s l).length=n * 1; rw [u8s_len,hl,Nat.mul_one]) u8s_one (by omega) (by show (0+n) * 1≤140737488355328; omega) (fun v2 g3 hO4=>?_))))))
 refine D5 (E':=[⟨2,[],v2⟩]) [0] [2] (k:=A1 (C8 (C5 [.tmp 2] [v2] (k:=?_))))
 exact ⟨g3,own_nil hO4,rfl⟩
theorem vCloneE (ad:Addr) (cap:Nat) (W0:World) (H:List Grp):Tri Tryz.prog 41 #[.slice (some ad) 0 cap] W0 H (fun v H'=>∃ g,Go.Sw.Own 5 1 v g 0 []∧H'=g::H):=by
 refine D6 8 Tryz.func41 ?_
 refine A2 (B9 (E':=[⟨0,[],.slice (some ad) 0 cap⟩]) [0] [0] (k:=A1 (A2 (A2 (G_p [0,0] [0,4] (k:=A1 (D9 kr (B6 ?_))))))))
 refine A1 (A2 (A3 (N2 5 0 [] (fun b1=>A5 (j:=2) [0] (k:=M0 (i:=2) (ch:=[]) (t:=31) (tx:=31) (e:=5) (inf:=Tryz.t5) (s:=.slice (some ⟨b1,0,none⟩) 0 0) (x:=.slice (some ad) 0 cap) (n:=0) (m:=0) (j:=0) (cs:=[]) (news:=([])) (g:=[(b1,.cells #[] 5 (0,0))]) (S:=(fun _ _=>False)) rfl rfl rfl rfl kr kr kr rfl rfl (.inl ⟨5,kr⟩) (fun ⟨_,h⟩=>by cases h) (fun _=>⟨5,kr⟩) kr kr kr rfl (Go.Sw.Own.lit rfl) (SrcOf.slice _ _ _ _ (.inl rfl) (fun h=>by cases h)) (fun _ _ h=>h.elim) rfl (fun u h=>absurd h List.not_mem_nil) (by omega) (by show (0+0) * 1≤140737488355328; omega) (fun v2 g3 hO4=>?_))))))
 refine D5 (E':=[⟨2,[],v2⟩]) [0] [2] (k:=A1 (C8 (C5 [.tmp 2] [v2] (k:=?_))))
 exact ⟨g3,own_nil hO4,rfl⟩
theorem vUsed (d nb kb cb nc:Nat) (room calls:Int) (bv:Value) (fails once:Bool) (nm:SM) (szf:Value→Nat) (hn:MapOk nm nc) (hs:sumN szf nm≤1000000000000) (W0:World) (H:List Grp) (hB:∀ e∈nm,∃ p a c kv,e.2.1=.pointer (some ⟨p,0,none⟩)∧At W0 H p (.cells #[.slice a (szf e.2.1) c,kv] 72 (0,0))):Tri Tryz.prog 11 #[pt d] W0 ([(d,.cells #[.int .i64 room,bv,.map (some nb),.map (some kb),.map (some cb),.bool fails,.bool once,.int .i64 calls] 64 (0,0))]::[(nb,.map (B3 nm) nc)]::H) (fun v H'=>v=.int .i64 ((sumN szf nm:Nat):Int)∧H'=([(d,.cells #[.int .i64 room,bv,.map (some nb),.map (some kb),.map (some cb),.bool fails,.bool once,.int .i64 calls] 64 (0,0))]::[(nb,.map (B3 nm) nc)]::H)):=by
 refine D6 25 Tryz.func11 ?_
 refine A2 (B9 (E':=[⟨0,[],pt d⟩]) [0] [0] (k:=A1 (A2 (B9 (E':=[⟨0,[],pt d⟩,⟨3,[],.int .i64 0⟩]) [0] [0,3] (k:=A1 (A2 (A2 (G_p [0,0] [0,3,7] (k:=?_)))))))))
 refine A1 (G6 kr (A2 (A3 (A5 (j:=3) [0,0,0] (k:=D0 0 2 rfl rfl (GL_range (ch:=[]) (kt:=9) (et:=70) (r:=nb) (c:=nc) (m:=nm) (hA:=At.grp 1 0 rfl rfl) (kk:=(fun it1=>D5 (E':=[⟨3,[],.int .i64 0⟩,⟨12,[],pt it1⟩]) [] [3,12] (k:=A1 ?_)))))))))
 refine B8 (I6 (EI:=(fun ξ:SM × SM=>[⟨3,[],.int .i64 ((sumN szf ξ.1:Nat):Int)⟩,⟨12,[],pt it1⟩])) (HI:=(fun ξ:SM × SM=>([(it1,.mapIter (some nb) nc (O7 ξ.1) nc)]::[(d,.cells #[.int .i64 room,bv,.map (some nb),.map (some kb),.map (some cb),.bool fails,.bool once,.int .i64 calls] 64 (0,0))]::[(nb,.map (B3 nm) nc)]::H))) (Φ:=(fun ξ:SM × SM=>((ξ.1++ξ.2).Perm nm))) (μ:=(fun ξ:SM × SM=>ξ.2.length)) (s0:=([],nm)) [3,12] kr (by rfl) (List.Perm.refl _) ?_)
 rintro ⟨dn,rest⟩ hpm
 have hsp:=sumN_part (f:=szf) hpm
 refine A2 (A3 (GL_next (ch:=[]) (it:=it1) (r:=nb) (c:=nc) (j:=0) (q:=0) (m:=nm) (dn:=dn) (rest:=rest) (hA:=At.grp 2 0 rfl rfl) (hok:=hn) (hp:=hpm) (kEnd:=(fun hend6=>?_)) (kMore:=(fun e2 rest3 hp4 hq5=>?_))))
 ·
  refine B5 [0] [3,12,14] (k:=A1 (A2 (D9 kr (H0 (A6 (A6 (C3 (A1 ?_))))))))
  refine A2 (G_p [0,0] [2] (k:=A1 (C8 (G8 (fun w h=>h.erase 0) (C5 [.tmp 2] [.int .i64 ((sumN szf dn:Nat):Int)] (k:=?_))))))
  exact ⟨by rw [sumN_perm (show dn.Perm nm by simpa [hend6] using hpm)]; rfl,rfl⟩
 ·
  obtain ⟨p10,a11,c12,kv13,hve,hat14⟩:=hB e2 (hq5.mem_iff.1 (by simp))
  obtain ⟨k7,v8,st9⟩:=e2
  simp only at hve
  subst hve
  have hsq:=sumN_part (f:=szf) hq5
  rw [sumN_snoc] at hsq
  simp only at hsq
  refine B5 [0] [3,12,14] (k:=A1 (A2 (G6 kr (B6 (A1 (B8 (A2 (A3 ?_))))))))
  refine GL_entry (ch:=[]) (it:=it1) (r:=nb) (c:=nc) (m:=nm) (dn:=dn) (e:=(k7,.pointer (some ⟨p10,0,none⟩),st9)) (hI:=At.grp 0 0 rfl rfl) (hA:=At.grp 2 0 rfl rfl) (hok:=hn) (he:=hq5.mem_iff.1 (by simp)) (kk:=B5 [0,0] [3,5,12] (k:=A1 (A3 (A5 (j:=4) [0,0,0,0] (k:=F9 (ch:=[]) (b:=p10) (off:=0) (v:=.slice a11 (szf (.pointer (some ⟨p10,0,none⟩))) c12) (hA:=At.cons (At.cons (At.cons hat14))) (k:=A5 (j:=7) [0,0] (k:=F0 23 (((sumN szf dn:Nat):Int)+(((szf (.pointer (some ⟨p10,0,none⟩))):Nat):Int)) (by omega) (by omega) kr (B5 [0] [3,12] (k:=?_)))))))))
  refine D3 (N_env (E':=[⟨3,[],.int .i64 (((sumN szf dn:Nat):Int)+(((szf (.pointer (some ⟨p10,0,none⟩))):Nat):Int))⟩,⟨12,[],pt it1⟩]) kr (N_env (E':=[⟨3,[],.int .i64 ((sumN szf (dn++[(k7,.pointer (some ⟨p10,0,none⟩),st9)]):Nat):Int)⟩,⟨12,[],pt it1⟩]) (by rw [sumN_snoc]; rfl) (F6 (s':=(dn++[(k7,.pointer (some ⟨p10,0,none⟩),st9)],rest3)) [3,12] kr (by rfl) hq5 (by have:=hp4.length_eq; simp only [List.length_cons] at this; show rest3.length<rest.length; omega))))
theorem vReadNo (d nb kb cb nc:Nat) (room calls:Int) (bv:Value) (fails once:Bool) (nm:SM) (path:ByteArray) (hg:R9 nm path=none) (W0:World) (H:List Grp):Tri Tryz.prog 21 #[pt d,.string path] W0 ([(d,.cells #[.int .i64 room,bv,.map (some nb),.map (some kb),.map (some cb),.bool fails,.bool once,.int .i64 calls] 64 (0,0))]::[(nb,.map (B3 nm) nc)]::H) (fun v H'=>v=.tuple #[.slice none 0 0,.int .i64 60]∧H'=([(d,.cells #[.int .i64 room,bv,.map (some nb),.map (some kb),.map (some cb),.bool fails,.bool once,.int .i64 calls] 64 (0,0))]::[(nb,.map (B3 nm) nc)]::H)):=by
 refine D6 22 Tryz.func21 ?_
 refine A2 (B9 (E':=[⟨0,[],pt d⟩,⟨1,[],.string path⟩]) [0,0] [0,1] (k:=A1 (A2 (A2 (G_p [0,0] [0,1,8] (k:=A1 (D9 kr (B6 ?_))))))))
 refine A1 (A2 (A3 (A5 (j:=3) [0,0,0] (k:=D0 0 2 rfl rfl (A5 (j:=5) [0] (k:=J5 (ch:=[]) (kt:=9) (et:=70) (r:=nb) (c:=nc) (m:=nm) (k:=path) (z:=.pointer none) (ov:=none) (hA:=At.grp 1 0 rfl rfl) (hg:=(fun _=>hg)) (kk:=D5 (E':=[⟨6,[],.pointer none⟩]) [0] [6] (k:=A1 ?_))))))))
 refine A2 (A2 (G_p [0,0] [6,16] (k:=A1 (G6 kr (A2 (G_p [0,0] [4,5] (k:=A1 (C8 ?_))))))))
 refine C0 (C5 [.tmp 4,.tmp 5] [.slice none 0 0,.int .i64 60] (k:=?_))
 exact ⟨rfl,rfl⟩
theorem vReadNil (d nb kb cb nc:Nat) (room calls:Int) (bv:Value) (fails once:Bool) (nm:SM) (path:ByteArray) (p:Nat) (kv:Value) (hg:R9 nm path=some (.pointer (some ⟨p,0,none⟩))) (W0:World) (H:List Grp) (hp:At W0 H p (.cells #[.slice none 0 0,kv] 72 (0,0))):Tri Tryz.prog 21 #[pt d,.string path] W0 ([(d,.cells #[.int .i64 room,bv,.map (some nb),.map (some kb),.map (some cb),.bool fails,.bool once,.int .i64 calls] 64 (0,0))]::[(nb,.map (B3 nm) nc)]::H) (fun v H'=>v=.tuple #[.slice none 0 0,.int .i64 0]∧H'=([(d,.cells #[.int .i64 room,bv,.map (some nb),.map (some kb),.map (some cb),.bool fails,.bool once,.int .i64 calls] 64 (0,0))]::[(nb,.map (B3 nm) nc)]::H)):=by
 refine D6 22 Tryz.func21 ?_
 refine A2 (B9 (E':=[⟨0,[],pt d⟩,⟨1,[],.string path⟩]) [0,0] [0,1] (k:=A1 (A2 (A2 (G_p [0,0] [0,1,8] (k:=A1 (D9 kr (B6 ?_))))))))
 refine A1 (A2 (A3 (A5 (j:=3) [0,0,0] (k:=D0 0 2 rfl rfl (A5 (j:=5) [0] (k:=J5 (ch:=[]) (kt:=9) (et:=70) (r:=nb) (c:=nc) (m:=nm) (k:=path) (z:=.pointer none) (ov:=(some (pt p))) (hA:=At.grp 1 0 rfl rfl) (hg:=(fun _=>hg)) (kk:=D5 (E':=[⟨6,[],pt p⟩]) [0] [6] (k:=A1 ?_))))))))
 refine A2 (A2 (B9 (E':=[⟨6,[],pt p⟩,⟨16,[],.bool false⟩]) [0,0] [6,16] (k:=A1 (D9 kr (B6 (A1 (A2 (A3 ?_))))))))
 refine A5 (j:=3) [0,0,0] (k:=F9 (ch:=[]) (b:=p) (off:=0) (v:=.slice none 0 0) (hA:=At.cons (At.cons hp)) (k:=G1 Tryz.func41 (vCloneNil _ _) (B5 [0,0] [4,5] (k:=A1 (C8 (C5 [.tmp 4,.tmp 5] [.slice none 0 0,.int .i64 0] (k:=?_)))))))
 exact ⟨rfl,rfl⟩
theorem vReadYes (d nb kb cb nc:Nat) (room calls:Int) (bv:Value) (fails once:Bool) (nm:SM) (path:ByteArray) (b off n cap:Nat) (S:Nat→Obj→Prop) (l:List UInt8) (hrd:Rd S (some ⟨b,off,none⟩) (u8s l)) (hl:l.length=n) (hn:n≤1000000000) (p:Nat) (kv:Value) (hg:R9 nm path=some (.pointer (some ⟨p,0,none⟩))) (W0:World) (H:List Grp) (hS:∀ y o,S y o→At W0 H y o) (hp:At W0 H p (.cells #[.slice (some ⟨b,off,none⟩) n cap,kv] 72 (0,0))):Tri Tryz.prog 21 #[pt d,.string path] W0 ([(d,.cells #[.int .i64 room,bv,.map (some nb),.map (some kb),.map (some cb),.bool fails,.bool once,.int .i64 calls] 64 (0,0))]::[(nb,.map (B3 nm) nc)]::H) (fun v H'=>∃ x g,v=.tuple #[x,.int .i64 0]∧Go.Sw.Own 5 1 x g n (u8s l)∧H'=g::([(d,.cells #[.int .i64 room,bv,.map (some nb),.map (some kb),.map (some cb),.bool fails,.bool once,.int .i64 calls] 64 (0,0))]::[(nb,.map (B3 nm) nc)]::H)):=by
 refine D6 22 Tryz.func21 ?_
 refine A2 (B9 (E':=[⟨0,[],pt d⟩,⟨1,[],.string path⟩]) [0,0] [0,1] (k:=A1 (A2 (A2 (G_p [0,0] [0,1,8] (k:=A1 (D9 kr (B6 ?_))))))))
 refine A1 (A2 (A3 (A5 (j:=3) [0,0,0] (k:=D0 0 2 rfl rfl (A5 (j:=5) [0] (k:=J5 (ch:=[]) (kt:=9) (et:=70) (r:=nb) (c:=nc) (m:=nm) (k:=path) (z:=.pointer none) (ov:=(some (pt p))) (hA:=At.grp 1 0 rfl rfl) (hg:=(fun _=>hg)) (kk:=D5 (E':=[⟨6,[],pt p⟩]) [0] [6] (k:=A1 ?_))))))))
 refine A2 (A2 (B9 (E':=[⟨6,[],pt p⟩,⟨16,[],.bool false⟩]) [0,0] [6,16] (k:=A1 (D9 kr (B6 (A1 (A2 (A3 ?_))))))))
 refine A5 (j:=3) [0,0,0] (k:=F9 (ch:=[]) (b:=p) (off:=0) (v:=.slice (some ⟨b,off,none⟩) n cap) (hA:=At.cons (At.cons hp)) (k:=E4 Tryz.func41 (vClone b off n cap S l hrd hl hn _ _ (fun y o h=>(At.cons (At.cons (hS y o h))))) ?_))
 rintro v3 _ ⟨g1,hO2,rfl⟩
 refine D5 (E':=[⟨4,[],v3⟩,⟨5,[],.int .i64 0⟩]) [0,0] [4,5] (k:=A1 (C8 (C5 [.tmp 4,.tmp 5] [v3,.int .i64 0] (k:=?_))))
 exact ⟨_,g1,rfl,hO2,rfl⟩
end Go.Proofs.YtdolpaagdpeagaaGreatDoor
namespace Go.Proofs.YtdolpaagdpeagaaGreatDoor
open Go.Sw Go.Lib Go.Vf Go.RowKit
theorem vNameNew (d nb kb cb q nc cc xc:Nat) (room calls:Int) (bv:Value) (fails once:Bool) (nm cm xm:SM) (dir:ByteArray) (hn:MapOk nm nc) (hx:MapOk xm xc) (hv:∀ e∈xm,e.2.1=.pointer none∨∃ p,e.2.1=.pointer (some ⟨p,0,none⟩)) (hg:R9 cm dir=none) (W0:World) (H:List Grp) (hA:At W0 H q (.map (B3 xm) xc)):Tri Tryz.prog 73 #[pt d,.string dir,.map (some q)] W0 ([(d,.cells #[.int .i64 room,bv,.map (some nb),.map (some kb),.map (some cb),.bool fails,.bool once,.int .i64 calls] 64 (0,0))]::[(nb,.map (B3 nm) nc)]::[(cb,.map (B3 cm) cc)]::H) (fun v H'=>∃ dn x g,dn.Perm xm∧Go.Sw.Own 86 1 x g 1 [.map (some q)]∧v=.tuple #[]∧H'=([(d,.cells #[.int .i64 room,bv,.map (some nb),.map (some kb),.map (some cb),.bool fails,.bool once,.int .i64 calls] 64 (0,0))]::[(nb,.map (B3 ((F3 (nm,nc) dn).1)) ((F3 (nm,nc) dn).2))]::[(cb,.map (B3 (H8 cm cc dir x)) (if T1 cm dir then cc else cc+1))]::g::H)):=by
 refine D6 26 Tryz.func73 ?_
 refine A2 (A3 (A5 (j:=3) [0,0,0] (k:=D0 0 2 rfl rfl (A5 (j:=5) [0] (k:=Z6 0 [1] (E4 Tryz.func37 (vApply nb q nc xc nm xm hn hx hv _ _ (At.cons (At.cons hA))) ?_))))))
 rintro v H' ⟨dn1,hdn2,rfl,rfl⟩
 refine B5 [] [0,1,2] (k:=A1 (F4 ([(nb,.map (B3 ((F3 (nm,nc) dn1).1)) ((F3 (nm,nc) dn1).2))]::[(d,.cells #[.int .i64 room,bv,.map (some nb),.map (some kb),.map (some cb),.bool fails,.bool once,.int .i64 calls] 64 (0,0))]::H) kr (E2 (fuel:=14) [(0,0)] (fun w h=>(h.pkT 1 [0,0])) (k:=P0 (ad:=⟨d,0,none⟩) 1 (hL:=(fun w h=>(h.pkT 1 [0,0]))) (k:=E2 (fuel:=12) [(2,0)] (fun w h=>(h.pkT 1 [0,0])) (k:=A9 3 kr (fun w h=>(h.pkT 1 [0,0])) (D0 1 4 rfl rfl (B4 kr rfl)) (E2 (fuel:=9) [(4,0),(5,0)] (fun w h=>(h.pkT 1 [0,0])) (k:=P0 (ad:=⟨d,0,none⟩) 6 (hL:=(fun w h=>(h.pkT 1 [0,0]))) (k:=?_)))))))))
 refine E2 (fuel:=7) [(7,0)] (fun w h=>(h.pkT 1 [0,0])) (k:=A9 8 kr (fun w h=>(h.pkT 1 [0,0])) (D0 1 4 rfl rfl (B4 kr rfl)) (E2 (fuel:=4) [(9,0),(11,0)] (fun w h=>(h.pkT 1 [0,0])) (k:=P4 10 12 (k:=?_) (k':=?_))))
 ·
  refine J5 (ch:=[]) (kt:=9) (et:=85) (r:=cb) (c:=cc) (m:=cm) (k:=dir) (z:=.slice none 0 0) (ov:=none) (hA:=At.grp 2 0 rfl rfl) (hg:=(fun _=>hg)) (kk:=A7 kr (fun w h=>(h.pkT 1 [0,0])) (C2 12 (k:=N2 86 1 [.map (some q)] (fun b3=>A7 kr (fun w h=>(h.pkT 2 [1,1])) (I0 ([(b3,.cells #[.map (some q)] 86 (0,0))]::[(nb,.map (B3 ((F3 (nm,nc) dn1).1)) ((F3 (nm,nc) dn1).2))]::[(d,.cells #[.int .i64 room,bv,.map (some nb),.map (some kb),.map (some cb),.bool fails,.bool once,.int .i64 calls] 64 (0,0))]::H) (fun w h=>(h.pk 1 [1,1])) (C2 13 (k:=E0 rfl (H':=([]::[(b3,.cells #[.map (some q)] 86 (0,0))]::[(nb,.map (B3 ((F3 (nm,nc) dn1).1)) ((F3 (nm,nc) dn1).2))]::[(d,.cells #[.int .i64 room,bv,.map (some nb),.map (some kb),.map (some cb),.bool fails,.bool once,.int .i64 calls] 64 (0,0))]::[(cb,.map (B3 cm) cc)]::H)) (fun w h=>h.flat (List.Perm.refl _)) (GL_ap (inf:=Tryz.t86) (e:=86) (s:=.slice none 0 0) 1 1 0 rfl rfl Go.Sw.Own.nil (by omega) (by show (0+1) * 8≤140737488355328; omega) (fun v4 g5 hO6=>?_)))))))))
  refine A7 kr (fun w h=>(h.pkT 2 [1,1,1])) (I0 (g5::[(b3,.cells #[.map (some q)] 86 (0,0))]::[(nb,.map (B3 ((F3 (nm,nc) dn1).1)) ((F3 (nm,nc) dn1).2))]::[(d,.cells #[.int .i64 room,bv,.map (some nb),.map (some kb),.map (some cb),.bool fails,.bool once,.int .i64 calls] 64 (0,0))]::H) (fun w h=>(h.pk 1 [1,1,1])) (C2 14 (k:=I1 (ch:=[]) (kt:=9) (et:=85) (r:=cb) (c:=cc) (j:=4) (q:=0) (m:=cm) (k:=dir) (v:=v4) (H':=(g5::[(b3,.cells #[.map (some q)] 86 (0,0))]::[(nb,.map (B3 ((F3 (nm,nc) dn1).1)) ((F3 (nm,nc) dn1).2))]::[(d,.cells #[.int .i64 room,bv,.map (some nb),.map (some kb),.map (some cb),.bool fails,.bool once,.int .i64 calls] 64 (0,0))]::[(cb,.map (B3 (H8 cm cc dir (v4))) (if T1 cm dir then cc else cc+1))]::H)) (hop:=.inl rfl) (kk:=A7 kr (fun w h=>(h.pkT 1 [0,0,0,0])) (D8 (E':=[]) [] (k:=N_pk 1 [3,2,2,0] (C5 [] [] (k:=?_))))))))
  exact ⟨_,_,g5,hdn2,hO6,rfl,rfl⟩
 ·
  refine N2 86 1 [.map (some q)] (fun b7=>A7 kr (fun w h=>(h.pkT 2 [1,1])) (I0 ([(b7,.cells #[.map (some q)] 86 (0,0))]::[(nb,.map (B3 ((F3 (nm,nc) dn1).1)) ((F3 (nm,nc) dn1).2))]::[(d,.cells #[.int .i64 room,bv,.map (some nb),.map (some kb),.map (some cb),.bool fails,.bool once,.int .i64 calls] 64 (0,0))]::H) (fun w h=>(h.pk 1 [1,1])) (C2 10 (k:=J5 (ch:=[]) (kt:=9) (et:=85) (r:=cb) (c:=cc) (m:=cm) (k:=dir) (z:=.slice none 0 0) (ov:=none) (hA:=At.grp 3 0 rfl rfl) (hg:=(fun _=>hg)) (kk:=A7 kr (fun w h=>(h.pkT 1 [0,0,0])) (C2 13 (k:=E0 rfl (H':=([]::[(b7,.cells #[.map (some q)] 86 (0,0))]::[(nb,.map (B3 ((F3 (nm,nc) dn1).1)) ((F3 (nm,nc) dn1).2))]::[(d,.cells #[.int .i64 room,bv,.map (some nb),.map (some kb),.map (some cb),.bool fails,.bool once,.int .i64 calls] 64 (0,0))]::[(cb,.map (B3 cm) cc)]::H)) (fun w h=>h.flat (List.Perm.refl _)) (GL_ap (inf:=Tryz.t86) (e:=86) (s:=.slice none 0 0) 1 1 0 rfl rfl Go.Sw.Own.nil (by omega) (by show (0+1) * 8≤140737488355328; omega) (fun v8 g9 hO10=>?_)))))))))
  refine A7 kr (fun w h=>(h.pkT 2 [1,1,1])) (I0 (g9::[(b7,.cells #[.map (some q)] 86 (0,0))]::[(nb,.map (B3 ((F3 (nm,nc) dn1).1)) ((F3 (nm,nc) dn1).2))]::[(d,.cells #[.int .i64 room,bv,.map (some nb),.map (some kb),.map (some cb),.bool fails,.bool once,.int .i64 calls] 64 (0,0))]::H) (fun w h=>(h.pk 1 [1,1,1])) (C2 14 (k:=I1 (ch:=[]) (kt:=9) (et:=85) (r:=cb) (c:=cc) (j:=4) (q:=0) (m:=cm) (k:=dir) (v:=v8) (H':=(g9::[(b7,.cells #[.map (some q)] 86 (0,0))]::[(nb,.map (B3 ((F3 (nm,nc) dn1).1)) ((F3 (nm,nc) dn1).2))]::[(d,.cells #[.int .i64 room,bv,.map (some nb),.map (some kb),.map (some cb),.bool fails,.bool once,.int .i64 calls] 64 (0,0))]::[(cb,.map (B3 (H8 cm cc dir (v8))) (if T1 cm dir then cc else cc+1))]::H)) (hop:=.inl rfl) (kk:=A7 kr (fun w h=>(h.pkT 1 [0,0,0,0])) (D8 (E':=[]) [] (k:=N_pk 1 [3,2,2,0] (C5 [] [] (k:=?_))))))))
  exact ⟨_,_,g9,hdn2,hO10,rfl,rfl⟩
end Go.Proofs.YtdolpaagdpeagaaGreatDoor
namespace Go.Proofs.YtdolpaagdpeagaaGreatDoor
open Go.Sw Go.Lib Go.Vf Go.RowKit
theorem vSyncNo (d nb kb cb nc:Nat) (room calls:Int) (bv:Value) (fails once:Bool) (nm:SM) (path:ByteArray) (hpath:path.size≤9223372036854775807) (hca:-9223372036854775808≤calls∧calls≤9223372036854775807) (hg:R9 nm path=none) (W0:World) (H:List Grp):Tri Tryz.prog 77 #[pt d,.string path] W0 ([(d,.cells #[.int .i64 room,bv,.map (some nb),.map (some kb),.map (some cb),.bool fails,.bool once,.int .i64 calls] 64 (0,0))]::[(nb,.map (B3 nm) nc)]::H) (fun v H'=>((B7 fails once calls (A4 path)).1≠0∧v=.int .i64 (B7 fails once calls (A4 path)).1∧H'=([(d,.cells #[.int .i64 room,bv,.map (some nb),.map (some kb),.map (some cb),.bool ((B7 fails once calls (A4 path)).2.1),.bool once,.int .i64 ((B7 fails once calls (A4 path)).2.2)] 64 (0,0))]::[(nb,.map (B3 nm) nc)]::H))∨((B7 fails once calls (A4 path)).1=0∧v=.int .i64 60∧H'=([(d,.cells #[.int .i64 room,bv,.map (some nb),.map (some kb),.map (some cb),.bool ((B7 fails once calls (A4 path)).2.1),.bool once,.int .i64 ((B7 fails once calls (A4 path)).2.2)] 64 (0,0))]::[(nb,.map (B3 nm) nc)]::H))):=by
 refine D6 29 Tryz.func77 ?_
 refine A2 (B9 (E':=[⟨0,[],pt d⟩,⟨1,[],.string path⟩]) [0] [0,1] (k:=A1 (A2 (A2 (A3 (A5 (j:=2) [0,0] (k:=G1 (vs:=[.string path]) Tryz.func61 (S7 _ hpath _ _) (E4 Tryz.func72 (vCall d nb kb cb room calls bv fails once (A4 path) hca _ _) ?_))))))))
 rintro v H' ⟨rfl,rfl⟩
 refine B5 [0] [0,1,5] (k:=A1 (A2 (G_p [0,0] [0,1,5,12] (k:=A1 (D2 (b:=((B7 fails once calls (A4 path)).1) != 0) kr (fun hc1=>?_) (fun hc1=>?_))))))
 ·
  have hce:(B7 fails once calls (A4 path)).1≠0:=by simpa using hc1
  refine A2 (G_p [0,0] [4] (k:=A1 (C8 (C0 (C5 [.tmp 4] [.int .i64 ((B7 fails once calls (A4 path)).1)] (k:=?_))))))
  exact .inl ⟨hce,rfl,rfl⟩
 ·
  have hce:(B7 fails once calls (A4 path)).1=0:=by simpa using hc1
  refine B6 (A1 (A2 (A3 (A5 (j:=3) [0,0,0] (k:=D0 0 2 rfl rfl (A5 (j:=5) [0] (k:=J5 (ch:=[]) (kt:=9) (et:=70) (r:=nb) (c:=nc) (m:=nm) (k:=path) (z:=.pointer none) (ov:=none) (hA:=At.grp 1 0 rfl rfl) (hg:=(fun _=>hg)) (kk:=D5 (E':=[⟨6,[],.pointer none⟩]) [0] [6] (k:=?_)))))))))
  refine A1 (A2 (A2 (G_p [0,0] [6,21] (k:=A1 (G6 kr (A2 (B9 (E':=[⟨4,[],.int .i64 60⟩]) [0] [4] (k:=A1 ?_))))))))
  refine C8 (C0 (C5 [.tmp 4] [.int .i64 60] (k:=?_)))
  exact .inr ⟨hce,rfl,rfl⟩
theorem vSyncYes (d nb kb cb nc:Nat) (room calls:Int) (bv:Value) (fails once:Bool) (nm:SM) (path:ByteArray) (hpath:path.size≤9223372036854775807) (hca:-9223372036854775808≤calls∧calls≤9223372036854775807) (p n cn m ck:Nat) (an ak:Option Addr) (hg:R9 nm path=some (.pointer (some ⟨p,0,none⟩))) (W0:World) (H:List Grp):Tri Tryz.prog 77 #[pt d,.string path] W0 ([(d,.cells #[.int .i64 room,bv,.map (some nb),.map (some kb),.map (some cb),.bool fails,.bool once,.int .i64 calls] 64 (0,0))]::[(nb,.map (B3 nm) nc)]::[(p,.cells #[.slice an n cn,.slice ak m ck] 72 (0,0))]::H) (fun v H'=>((B7 fails once calls (A4 path)).1≠0∧v=.int .i64 (B7 fails once calls (A4 path)).1∧H'=([(d,.cells #[.int .i64 room,bv,.map (some nb),.map (some kb),.map (some cb),.bool ((B7 fails once calls (A4 path)).2.1),.bool once,.int .i64 ((B7 fails once calls (A4 path)).2.2)] 64 (0,0))]::[(nb,.map (B3 nm) nc)]::[(p,.cells #[.slice an n cn,.slice ak m ck] 72 (0,0))]::H))∨((B7 fails once calls (A4 path)).1=0∧v=.int .i64 0∧H'=([(d,.cells #[.int .i64 room,bv,.map (some nb),.map (some kb),.map (some cb),.bool ((B7 fails once calls (A4 path)).2.1),.bool once,.int .i64 ((B7 fails once calls (A4 path)).2.2)] 64 (0,0))]::[(nb,.map (B3 nm) nc)]::[(p,.cells #[.slice an n cn,.slice an n cn] 72 (0,0))]::H))):=by
 refine D6 29 Tryz.func77 ?_
 refine A2 (B9 (E':=[⟨0,[],pt d⟩,⟨1,[],.string path⟩]) [0] [0,1] (k:=A1 (A2 (A2 (A3 (A5 (j:=2) [0,0] (k:=G1 (vs:=[.string path]) Tryz.func61 (S7 _ hpath _ _) (E4 Tryz.func72 (vCall d nb kb cb room calls bv fails once (A4 path) hca _ _) ?_))))))))
 rintro v H' ⟨rfl,rfl⟩
 refine B5 [0] [0,1,5] (k:=A1 (A2 (G_p [0,0] [0,1,5,12] (k:=A1 (D2 (b:=((B7 fails once calls (A4 path)).1) != 0) kr (fun hc1=>?_) (fun hc1=>?_))))))
 ·
  have hce:(B7 fails once calls (A4 path)).1≠0:=by simpa using hc1
  refine A2 (G_p [0,0] [4] (k:=A1 (C8 (C0 (C5 [.tmp 4] [.int .i64 ((B7 fails once calls (A4 path)).1)] (k:=?_))))))
  exact .inl ⟨hce,rfl,rfl⟩
 ·
  have hce:(B7 fails once calls (A4 path)).1=0:=by simpa using hc1
  refine B6 (A1 (A2 (A3 (A5 (j:=3) [0,0,0] (k:=D0 0 2 rfl rfl (A5 (j:=5) [0] (k:=J5 (ch:=[]) (kt:=9) (et:=70) (r:=nb) (c:=nc) (m:=nm) (k:=path) (z:=.pointer none) (ov:=(some (pt p))) (hA:=At.grp 1 0 rfl rfl) (hg:=(fun _=>hg)) (kk:=D5 (E':=[⟨6,[],pt p⟩]) [0] [6] (k:=?_)))))))))
  refine A1 (A2 (A2 (B9 (E':=[⟨6,[],pt p⟩,⟨21,[],.bool false⟩]) [0,0] [6,21] (k:=A1 (D9 kr (B6 (A1 (A2 ?_))))))))
  refine A3 (A5 (j:=4) [0,0,0,0] (k:=D0 2 0 rfl rfl (A5 (j:=7) [0,0] (k:=M8 2 1 (.slice an n cn) rfl (D5 (E':=[]) [] [] (k:=A1 (A2 (B9 (E':=[⟨4,[],.int .i64 0⟩]) [0] [4] (k:=?_)))))))))
  refine A1 (C8 (C5 [.tmp 4] [.int .i64 0] (k:=?_)))
  exact .inr ⟨hce,rfl,rfl⟩
theorem vRemoveNo (d nb kb cb nc:Nat) (room calls:Int) (bv:Value) (fails once:Bool) (nm cm:SM) (cc:Nat) (_:MapOk nm nc) (path:ByteArray) (hpath:path.size≤9223372036854775807) (hca:-9223372036854775808≤calls∧calls≤9223372036854775807) (hg:R9 nm path=none) (W0:World) (H:List Grp):Tri Tryz.prog 42 #[pt d,.string path] W0 ([(d,.cells #[.int .i64 room,bv,.map (some nb),.map (some kb),.map (some cb),.bool fails,.bool once,.int .i64 calls] 64 (0,0))]::[(nb,.map (B3 nm) nc)]::[(cb,.map (B3 cm) cc)]::H) (fun v H'=>((B7 fails once calls (A4 path)).1≠0∧v=.int .i64 (B7 fails once calls (A4 path)).1∧H'=([(d,.cells #[.int .i64 room,bv,.map (some nb),.map (some kb),.map (some cb),.bool ((B7 fails once calls (A4 path)).2.1),.bool once,.int .i64 ((B7 fails once calls (A4 path)).2.2)] 64 (0,0))]::[(nb,.map (B3 nm) nc)]::[(cb,.map (B3 cm) cc)]::H))∨((B7 fails once calls (A4 path)).1=0∧v=.int .i64 60∧H'=([(d,.cells #[.int .i64 room,bv,.map (some nb),.map (some kb),.map (some cb),.bool ((B7 fails once calls (A4 path)).2.1),.bool once,.int .i64 ((B7 fails once calls (A4 path)).2.2)] 64 (0,0))]::[(nb,.map (B3 nm) nc)]::[(cb,.map (B3 cm) cc)]::H))):=by
 refine D6 27 Tryz.func42 ?_
 refine A2 (B9 (E':=[⟨0,[],pt d⟩,⟨1,[],.string path⟩]) [0] [0,1] (k:=A1 (A2 (A2 (A3 (A5 (j:=2) [0,0] (k:=G1 (vs:=[.string path]) Tryz.func61 (S7 _ hpath _ _) (E4 Tryz.func72 (vCall d nb kb cb room calls bv fails once (A4 path) hca _ _) ?_))))))))
 rintro v H' ⟨rfl,rfl⟩
 refine B5 [0] [0,1,5] (k:=A1 (A2 (G_p [0,0] [0,1,5,11] (k:=A1 (D2 (b:=((B7 fails once calls (A4 path)).1) != 0) kr (fun hc1=>?_) (fun hc1=>?_))))))
 ·
  have hce:(B7 fails once calls (A4 path)).1≠0:=by simpa using hc1
  refine A2 (G_p [0,0] [4] (k:=A1 (C8 (C0 (C5 [.tmp 4] [.int .i64 ((B7 fails once calls (A4 path)).1)] (k:=?_))))))
  exact .inl ⟨hce,rfl,rfl⟩
 ·
  have hce:(B7 fails once calls (A4 path)).1=0:=by simpa using hc1
  refine B6 (A1 (A2 (A2 (A3 (A5 (j:=3) [0,0,0] (k:=D0 0 2 rfl rfl (A5 (j:=5) [0] (k:=J5 (ch:=[]) (kt:=9) (et:=70) (r:=nb) (c:=nc) (m:=nm) (k:=path) (z:=.pointer none) (ov:=none) (hA:=At.grp 1 0 rfl rfl) (hg:=(fun _=>hg)) (kk:=?_)))))))))
  refine B5 [0] [0,1,19] (k:=A1 (G6 kr (A2 (B9 (E':=[⟨4,[],.int .i64 60⟩]) [0] [4] (k:=A1 (C8 (C0 (C5 [.tmp 4] [.int .i64 60] (k:=?_)))))))))
  exact .inr ⟨hce,rfl,rfl⟩
theorem vSyncDirNo (d nb kb cb kc cc:Nat) (room calls:Int) (bv:Value) (fails once:Bool) (km cm:SM) (dir:ByteArray) (hdir:dir.size≤9223372036854775807) (hca:-9223372036854775808≤calls∧calls≤9223372036854775807) (_:MapOk km kc) (hg:R9 cm dir=none) (W0:World) (H:List Grp):Tri Tryz.prog 49 #[pt d,.string dir] W0 ([(d,.cells #[.int .i64 room,bv,.map (some nb),.map (some kb),.map (some cb),.bool fails,.bool once,.int .i64 calls] 64 (0,0))]::[(kb,.map (B3 km) kc)]::[(cb,.map (B3 cm) cc)]::H) (fun v H'=>((B7 fails once calls ((dir.toList==eB.toList)||G2 dir)).1≠0∧v=.int .i64 (B7 fails once calls ((dir.toList==eB.toList)||G2 dir)).1∧H'=([(d,.cells #[.int .i64 room,bv,.map (some nb),.map (some kb),.map (some cb),.bool ((B7 fails once calls ((dir.toList==eB.toList)||G2 dir)).2.1),.bool once,.int .i64 ((B7 fails once calls ((dir.toList==eB.toList)||G2 dir)).2.2)] 64 (0,0))]::[(kb,.map (B3 km) kc)]::[(cb,.map (B3 cm) cc)]::H))∨((B7 fails once calls ((dir.toList==eB.toList)||G2 dir)).1=0∧v=.int .i64 0∧H'=([(d,.cells #[.int .i64 room,bv,.map (some nb),.map (some kb),.map (some cb),.bool ((B7 fails once calls ((dir.toList==eB.toList)||G2 dir)).2.1),.bool once,.int .i64 ((B7 fails once calls ((dir.toList==eB.toList)||G2 dir)).2.2)] 64 (0,0))]::[(kb,.map (B3 km) kc)]::[(cb,.map (B3 (mdel cm dir)) cc)]::H))):=by
 refine D6 42 Tryz.func49 ?_
 refine A2 (B9 (E':=[⟨0,[],pt d⟩,⟨1,[],.string dir⟩]) [0] [0,1] (k:=A1 (A2 (A2 (A3 (A5 (j:=5) [0,0,0,0,0] (k:=A0p (vs:=[.string dir]) [(11,false)] Tryz.func78 (fun hc=>vfsPart _ hdir _ _) (A5 (j:=7) [5] (k:=?_)))))))))
 refine E4 Tryz.func72 (vCall d nb kb cb room calls bv fails once ((dir.toList==eB.toList)||(G2 dir)) hca _ _) ?_
 rintro v H' ⟨rfl,rfl⟩
 refine B5 [0] [0,1,5] (k:=A1 (A2 (G_p [0,0] [0,1,5,17] (k:=A1 (D2 (b:=((B7 fails once calls ((dir.toList==eB.toList)||(G2 dir))).1) != 0) kr (fun hc1=>?_) (fun hc1=>?_))))))
 ·
  have hce:(B7 fails once calls ((dir.toList==eB.toList)||G2 dir)).1≠0:=by simpa using hc1
  refine A2 (G_p [0,0] [4] (k:=A1 (C8 (C0 (C5 [.tmp 4] [.int .i64 ((B7 fails once calls ((dir.toList==eB.toList)||(G2 dir))).1)] (k:=?_))))))
  exact .inl ⟨hce,rfl,rfl⟩
 ·
  have hce:(B7 fails once calls ((dir.toList==eB.toList)||G2 dir)).1=0:=by simpa using hc1
  refine B6 (A1 (A2 (A2 (A3 (A5 (j:=3) [0,0,0] (k:=D0 0 4 rfl rfl (A5 (j:=5) [0] (k:=J5 (ch:=[]) (kt:=9) (et:=85) (r:=cb) (c:=cc) (m:=cm) (k:=dir) (z:=.slice none 0 0) (ov:=none) (hA:=At.grp 2 0 rfl rfl) (hg:=(fun _=>hg)) (kk:=?_)))))))))
  refine B5 [0,0] [0,1,24,25,26] (k:=A1 (B8 (I6 (EI:=(fun ξ:Unit=>[⟨0,[],pt d⟩,⟨1,[],.string dir⟩,⟨24,[],.slice none 0 0⟩,⟨25,[],.int .i64 0⟩,⟨26,[],.int .i64 0⟩])) (HI:=(fun ξ:Unit=>([(d,.cells #[.int .i64 room,bv,.map (some nb),.map (some kb),.map (some cb),.bool ((B7 fails once calls ((dir.toList==eB.toList)||(G2 dir))).2.1),.bool once,.int .i64 ((B7 fails once calls ((dir.toList==eB.toList)||(G2 dir))).2.2)] 64 (0,0))]::[(kb,.map (B3 km) kc)]::[(cb,.map (B3 cm) cc)]::H))) (Φ:=(fun ξ:Unit=>True)) (μ:=(fun ξ:Unit=>0)) (s0:=(())) [0,1,24,25,26] kr rfl trivial ?_)))
  rintro u _
  refine A2 (G_p [0] [0,1,24,25,26,27] (k:=A1 (A2 (D9 kr (H0 (A6 (A6 (C3 ?_))))))))
  refine A1 (A2 (A3 (A5 (j:=3) [0,0,0] (k:=D0 0 4 rfl rfl (A5 (j:=5) [0] (k:=GL_delete (ch:=[]) (ts:=#[61,9]) (t:=61) (kt:=9) (et:=85) (r:=cb) (c:=cc) (j:=2) (q:=0) (m:=cm) (k:=dir) (H':=([(d,.cells #[.int .i64 room,bv,.map (some nb),.map (some kb),.map (some cb),.bool ((B7 fails once calls ((dir.toList==eB.toList)||(G2 dir))).2.1),.bool once,.int .i64 ((B7 fails once calls ((dir.toList==eB.toList)||(G2 dir))).2.2)] 64 (0,0))]::[(kb,.map (B3 km) kc)]::[(cb,.map (B3 (mdel cm dir)) cc)]::H)) (kk:=D5 (E':=[]) [] [] (k:=A1 ?_))))))))
  refine A2 (B9 (E':=[⟨4,[],.int .i64 0⟩]) [0] [4] (k:=A1 (C8 (C5 [.tmp 4] [.int .i64 0] (k:=?_)))))
  exact .inr ⟨hce,rfl,rfl⟩
end Go.Proofs.YtdolpaagdpeagaaGreatDoor
namespace Go.Proofs.YtdolpaagdpeagaaGreatDoor
open Go.Sw Go.Lib Go.Vf Go.RowKit
theorem vSyncDir (d nb kb cb kc cc:Nat) (room calls:Int) (bv:Value) (fails once:Bool) (km cm:SM) (dir:ByteArray) (hdir:dir.size≤9223372036854775807) (hca:-9223372036854775808≤calls∧calls≤9223372036854775807) (hk:MapOk km kc) (ra:Option Addr) (rc:Nat) (S:Nat→Obj→Prop) (qs:List Nat) (xs:List SM) (xcs:List Nat) (hl:xs.length=qs.length) (hq:qs.length≤1000000) (hrd:Rd S ra (qs.map fun q=>Value.map (some q))) (hg:R9 cm dir=some (.slice ra qs.length rc)) (W0:World) (H:List Grp) (hS:∀ y o,S y o→At W0 H y o) (hAll:∀ i,i<qs.length→At W0 H (qs.getD i 0) (.map (B3 (xs.getD i [])) (xcs.getD i 0))∧MapOk (xs.getD i []) (xcs.getD i 0)∧∀ e∈xs.getD i [],e.2.1=.pointer none∨∃ p,e.2.1=.pointer (some ⟨p,0,none⟩)):Tri Tryz.prog 49 #[pt d,.string dir] W0 ([(d,.cells #[.int .i64 room,bv,.map (some nb),.map (some kb),.map (some cb),.bool fails,.bool once,.int .i64 calls] 64 (0,0))]::[(kb,.map (B3 km) kc)]::[(cb,.map (B3 cm) cc)]::H) (fun v H'=>((B7 fails once calls ((dir.toList==eB.toList)||G2 dir)).1≠0∧v=.int .i64 (B7 fails once calls ((dir.toList==eB.toList)||G2 dir)).1∧H'=([(d,.cells #[.int .i64 room,bv,.map (some nb),.map (some kb),.map (some cb),.bool ((B7 fails once calls ((dir.toList==eB.toList)||G2 dir)).2.1),.bool once,.int .i64 ((B7 fails once calls ((dir.toList==eB.toList)||G2 dir)).2.2)] 64 (0,0))]::[(kb,.map (B3 km) kc)]::[(cb,.map (B3 cm) cc)]::H))∨((B7 fails once calls ((dir.toList==eB.toList)||G2 dir)).1=0∧v=.int .i64 0∧∃ km1 kc1,MadeOf xs (km,kc) (km1,kc1)∧H'=([(d,.cells #[.int .i64 room,bv,.map (some nb),.map (some kb),.map (some cb),.bool ((B7 fails once calls ((dir.toList==eB.toList)||G2 dir)).2.1),.bool once,.int .i64 ((B7 fails once calls ((dir.toList==eB.toList)||G2 dir)).2.2)] 64 (0,0))]::[(kb,.map (B3 km1) kc1)]::[(cb,.map (B3 (mdel cm dir)) cc)]::H))):=by
 refine D6 42 Tryz.func49 ?_
 refine A2 (B9 (E':=[⟨0,[],pt d⟩,⟨1,[],.string dir⟩]) [0] [0,1] (k:=A1 (A2 (A2 (A3 (A5 (j:=5) [0,0,0,0,0] (k:=A0p (vs:=[.string dir]) [(11,false)] Tryz.func78 (fun hc=>vfsPart _ hdir _ _) (A5 (j:=7) [5] (k:=?_)))))))))
 refine E4 Tryz.func72 (vCall d nb kb cb room calls bv fails once ((dir.toList==eB.toList)||(G2 dir)) hca _ _) ?_
 rintro v H' ⟨rfl,rfl⟩
 refine B5 [0] [0,1,5] (k:=A1 (A2 (G_p [0,0] [0,1,5,17] (k:=A1 (D2 (b:=((B7 fails once calls ((dir.toList==eB.toList)||(G2 dir))).1) != 0) kr (fun hc1=>?_) (fun hc1=>?_))))))
 ·
  have hce:(B7 fails once calls ((dir.toList==eB.toList)||G2 dir)).1≠0:=by simpa using hc1
  refine A2 (G_p [0,0] [4] (k:=A1 (C8 (C0 (C5 [.tmp 4] [.int .i64 ((B7 fails once calls ((dir.toList==eB.toList)||(G2 dir))).1)] (k:=?_))))))
  exact .inl ⟨hce,rfl,rfl⟩
 ·
  have hce:(B7 fails once calls ((dir.toList==eB.toList)||G2 dir)).1=0:=by simpa using hc1
  refine B6 (A1 (A2 (A2 (A3 (A5 (j:=3) [0,0,0] (k:=D0 0 4 rfl rfl (A5 (j:=5) [0] (k:=J5 (ch:=[]) (kt:=9) (et:=85) (r:=cb) (c:=cc) (m:=cm) (k:=dir) (z:=.slice none 0 0) (ov:=(some (.slice ra qs.length rc))) (hA:=At.grp 2 0 rfl rfl) (hg:=(fun _=>hg)) (kk:=?_)))))))))
  refine B5 [0,0] [0,1,24,25,26] (k:=A1 (B8 (I6 (EI:=(fun ξ:Nat × SM × Nat=>[⟨0,[],pt d⟩,⟨1,[],.string dir⟩,⟨24,[],.slice ra qs.length rc⟩,⟨25,[],.int .i64 ((qs.length:Nat):Int)⟩,⟨26,[],.int .i64 ((ξ.1:Nat):Int)⟩])) (HI:=(fun ξ:Nat × SM × Nat=>([(d,.cells #[.int .i64 room,bv,.map (some nb),.map (some kb),.map (some cb),.bool ((B7 fails once calls ((dir.toList==eB.toList)||G2 dir)).2.1),.bool once,.int .i64 ((B7 fails once calls ((dir.toList==eB.toList)||G2 dir)).2.2)] 64 (0,0))]::[(kb,.map (B3 ξ.2.1) ξ.2.2)]::[(cb,.map (B3 cm) cc)]::H))) (Φ:=(fun ξ:Nat × SM × Nat=>(ξ.1≤qs.length)∧(MadeOf (xs.take ξ.1) (km,kc) (ξ.2.1,ξ.2.2)))) (μ:=(fun ξ:Nat × SM × Nat=>qs.length - ξ.1)) (s0:=(0,km,kc)) [0,1,24,25,26] kr (by rfl) ⟨(by omega),(by rfl)⟩ ?_)))
  rintro ⟨k,km1,kc1⟩ ⟨hkk,hR⟩
  refine A2 (G_p [0] [0,1,24,25,26,27] (k:=A1 (A2 (D2 (b:=decide (((k:Nat):Int)<((qs.length:Nat):Int))) kr (fun hc2=>?_) (fun hc2=>?_)))))
  ·
   simp at hc2
   refine B6 (A1 (A2 (B8 (A2 (A3 (L2 qs.length ((k:Nat):Int) 1 hrd (by exact ⟨by omega,by omega,maps_ne (k:=k) (by omega)⟩) (O3 (k * 1) (.map (some (qs.getD k 0))) hrd (fun y o h=>(At.cons (At.cons (At.cons (hS y o h))))) (fun _=>(by rw [Nat.mul_one]; exact map_at (by omega))) (B5 [0] [0,1,7,24,25,26] (k:=?_)))))))))
   refine A1 (A3 (A5 (j:=3) [0,0,0] (k:=D0 0 3 rfl rfl (A5 (j:=5) [0] (k:=Z6 0 [1] (E4 Tryz.func37 (vApply kb (qs.getD k 0) kc1 (xcs.getD k 0) km1 (xs.getD k []) (made_ok hR hk) (hAll k (by omega)).2.1 (hAll k (by omega)).2.2 _ _ (At.cons (At.cons (hAll k (by omega)).1))) ?_))))))
   rintro v H' ⟨dn3,hdn4,rfl,rfl⟩
   refine B5 [] [0,1,24,25,26] (k:=D3 (A1 (A3 (A5 (j:=1) [0] (k:=F0 36 (((k:Nat):Int)+1) (by omega) (by omega) kr (B5 [0] [0,1,24,25,26] (k:=N_pk 0 [1,0,0] (F6 (s':=(k+1,(F3 (km1,kc1) dn3).1,(F3 (km1,kc1) dn3).2)) [0,1,24,25,26] kr kr ⟨(by omega),(by rw [take_snoc (d:=[]) (by omega)]; exact made_snoc hdn4 hR)⟩ (by omega)))))))))
  ·
   simp at hc2
   refine H0 (A6 (A6 (C3 (A1 (A2 (A3 (A5 (j:=3) [0,0,0] (k:=D0 0 4 rfl rfl ?_))))))))
   refine A5 (j:=5) [0] (k:=GL_delete (ch:=[]) (ts:=#[61,9]) (t:=61) (kt:=9) (et:=85) (r:=cb) (c:=cc) (j:=2) (q:=0) (m:=cm) (k:=dir) (H':=([(d,.cells #[.int .i64 room,bv,.map (some nb),.map (some kb),.map (some cb),.bool ((B7 fails once calls ((dir.toList==eB.toList)||G2 dir)).2.1),.bool once,.int .i64 ((B7 fails once calls ((dir.toList==eB.toList)||G2 dir)).2.2)] 64 (0,0))]::[(kb,.map (B3 km1) kc1)]::[(cb,.map (B3 (mdel cm dir)) cc)]::H)) (kk:=D5 (E':=[]) [] [] (k:=A1 (A2 (B9 (E':=[⟨4,[],.int .i64 0⟩]) [0] [4] (k:=A1 (C8 (C5 [.tmp 4] [.int .i64 0] (k:=?_)))))))))
   have hkl:k=xs.length:=by omega
   rw [hkl,List.take_length] at hR
   exact .inr ⟨hce,rfl,km1,kc1,hR,rfl⟩
theorem vNext0 (kp cap:Nat) (a:Option Addr) (n:Int) (hn:0<n∧n≤1000000000000) (W0:World) (H:List Grp):Tri Tryz.prog 34 #[.int .i64 n,pt kp] W0 ([(kp,.cells #[.slice a 0 cap] 42 (0,0))]::H) (fun v H'=>v=.int .i64 (E3 0 n)∧H'=([(kp,.cells #[.slice a 0 cap] 42 (0,0))]::H)):=by
 refine D6 20 Tryz.func34 ?_
 refine A2 (B9 (E':=[⟨0,[],.int .i64 n⟩,⟨1,[],pt kp⟩]) [0] [0,1] (k:=A1 (A2 (G_p [0] [0,1,4] (k:=A1 (A2 (A2 (A3 ?_))))))))
 refine D0 0 0 rfl rfl (B5 [0,0] [0,1,4,7] (k:=A1 (D9 kr (B6 (A1 (A2 (A3 (A5 (j:=2) [0,0] (k:=?_)))))))))
 refine GL_rem (ch:=[]) (kd:=.i64) (a:=0) (b:=n) (hb:=(fun _=>by omega)) (k:=A5 (j:=6) [0,0,0] (k:=GL_rem (ch:=[]) (kd:=.i64) (a:=IntKind.wrap .i64 ((Int.tmod 0 n)+n)) (b:=n) (hb:=(fun _=>by omega)) (k:=B5 [0] [3] (k:=A1 (C8 (C5 [.tmp 3] [.int .i64 (Int.tmod (IntKind.wrap .i64 ((Int.tmod 0 n)+n)) n)] (k:=?_)))))))
 exact ⟨by rw [next_is hn.1 hn.2 (by omega) (by omega)]; rfl,rfl⟩
theorem vNext (kp:Nat) (n:Int) (hn:0<n∧n≤1000000000000) (a:Option Addr) (m cap:Nat) (S:Nat→Obj→Prop) (k:Int) (hk:-9223372036854775808≤k∧k≤9223372036854775807) (r:List Int) (hm:m=r.length+1) (hc:m≤cap) (hm2:m≤1000000000) (hrd:Rd S a ((k::r).map (Value.int .i64))) (W0:World) (H:List Grp) (hS:∀ y o,S y o→At W0 H y o):Tri Tryz.prog 34 #[.int .i64 n,pt kp] W0 ([(kp,.cells #[.slice a m cap] 42 (0,0))]::H) (fun v H'=>v=.int .i64 (E3 k n)∧H'=([(kp,.cells #[.slice (I9 a cap 1 1) (m - 1) (cap - 1)] 42 (0,0))]::H)):=by
 refine D6 20 Tryz.func34 ?_
 refine A2 (B9 (E':=[⟨0,[],.int .i64 n⟩,⟨1,[],pt kp⟩]) [0] [0,1] (k:=A1 (A2 (G_p [0] [0,1,4] (k:=A1 (A2 (A2 (A3 ?_))))))))
 refine D0 0 0 rfl rfl (B5 [0,0] [0,1,4,7] (k:=A1 (D2 (b:=decide (((m:Nat):Int) > 0)) kr (fun hc1=>?_) (fun hc1=>?_))))
 ·
  skip
  refine F4 H kr (P4 0 3 (k:=?_) (k':=?_))
  ·
   refine D0 0 0 rfl rfl (A7 kr (fun w h=>(h.pk 1 [])) (A9 1 kr (fun w h=>(h.pk 1 [])) (L2 m 0 1 hrd (by exact ⟨by omega,by omega,by simp⟩) (B4 kr rfl)) (A9 2 kr (fun w h=>(h.pk 1 [])) (O3 (0 * 1) (.int .i64 k) hrd (fun y o h=>(hS y o h)) (fun _=>rfl) (B4 kr rfl)) (E2 (fuel:=3) [(5,0)] (fun w h=>(h.pk 1 [])) (k:=C2 3 (k:=D0 0 0 rfl rfl (A7 kr (fun w h=>(h.pk 1 [])) (A9 4 (hL:=(fun w h=>(h.pk 1 []))) (hy:=O2 (i:=4) (ch:=[]) (a:=a) (len:=m) (cap:=cap) (e:=3) (sz:=1) (vl:=(some (.int .i64 1))) (vh:=none) (l:=1) (h:=((m:Nat):Int)) (hb:=(by intro _; omega)) (k:=B4 kr rfl)) (k:=?_)))))))))
   refine C2 6 (k:=M8 0 0 (.slice (I9 a cap 1 1) (m - 1) (cap - 1)) rfl (A7 kr (fun w h=>(h.pkT 1 [])) (D8 (E':=[⟨0,[],.int .i64 n⟩,⟨4,[],.int .i64 k⟩]) [0,4] (k:=A1 (A2 (A3 (A5 (j:=2) [0,0] (k:=GL_rem (ch:=[]) (kd:=.i64) (a:=k) (b:=n) (hb:=(fun _=>by omega)) (k:=?_)))))))))
   refine A5 (j:=6) [0,0,0] (k:=GL_rem (ch:=[]) (kd:=.i64) (a:=IntKind.wrap .i64 ((Int.tmod k n)+n)) (b:=n) (hb:=(fun _=>by omega)) (k:=B5 [0] [3] (k:=A1 (C8 (C5 [.tmp 3] [.int .i64 (Int.tmod (IntKind.wrap .i64 ((Int.tmod k n)+n)) n)] (k:=?_))))))
   exact ⟨by rw [next_is hn.1 hn.2 hk.1 hk.2]; rfl,rfl⟩
  ·
   refine D0 0 0 rfl rfl (A7 kr (fun w h=>(h.pk 1 [])) (A9 4 (hL:=(fun w h=>(h.pk 1 []))) (hy:=O2 (i:=4) (ch:=[]) (a:=a) (len:=m) (cap:=cap) (e:=3) (sz:=1) (vl:=(some (.int .i64 1))) (vh:=none) (l:=1) (h:=((m:Nat):Int)) (hb:=(by intro _; omega)) (k:=B4 kr rfl)) (k:=C2 0 (k:=D0 0 0 rfl rfl (A7 kr (fun w h=>(h.pk 1 [])) (A9 1 kr (fun w h=>(h.pk 1 [])) (L2 m 0 1 hrd (by exact ⟨by omega,by omega,by simp⟩) (B4 kr rfl)) (A9 2 kr (fun w h=>(h.pk 1 [])) (O3 (0 * 1) (.int .i64 k) hrd (fun y o h=>(hS y o h)) (fun _=>rfl) (B4 kr rfl)) (E2 (fuel:=1) [(5,0)] (fun w h=>(h.pk 1 [])) (k:=?_)))))))))
   refine C2 6 (k:=M8 0 0 (.slice (I9 a cap 1 1) (m - 1) (cap - 1)) rfl (A7 kr (fun w h=>(h.pkT 1 [])) (D8 (E':=[⟨0,[],.int .i64 n⟩,⟨4,[],.int .i64 k⟩]) [0,4] (k:=A1 (A2 (A3 (A5 (j:=2) [0,0] (k:=GL_rem (ch:=[]) (kd:=.i64) (a:=k) (b:=n) (hb:=(fun _=>by omega)) (k:=?_)))))))))
   refine A5 (j:=6) [0,0,0] (k:=GL_rem (ch:=[]) (kd:=.i64) (a:=IntKind.wrap .i64 ((Int.tmod k n)+n)) (b:=n) (hb:=(fun _=>by omega)) (k:=B5 [0] [3] (k:=A1 (C8 (C5 [.tmp 3] [.int .i64 (Int.tmod (IntKind.wrap .i64 ((Int.tmod k n)+n)) n)] (k:=?_))))))
   exact ⟨by rw [next_is hn.1 hn.2 hk.1 hk.2]; rfl,rfl⟩
 ·
  simp at hc1; omega
end Go.Proofs.YtdolpaagdpeagaaGreatDoor
namespace Go.Proofs
open Go.Shelf
def Tryz.lays190_ren:Go.Shelf.Ren:=⟨fun | 190=>40 | 125=>71 | 258=>70 | 128=>99 | 129=>100 | 302=>90 | 303=>91 | 304=>92 | 305=>93 | 306=>94 | 307=>95 | 308=>96 | 309=>97 | 310=>98 | 333=>121 | 329=>122 | 330=>123 | 334=>124 | 335=>125 | 336=>75 | 344=>138 | n=>n,fun | 31=>54 | 9=>9 | 3=>3 | 46=>44 | 0=>0 | 51=>134 | 53=>136 | 4=>4 | 183=>127 | 182=>126 | 131=>131 | 5=>5 | 218=>158 | 222=>162 | 228=>179 | 229=>180 | n=>n,fun | n=>n⟩
theorem Tryz.lays190:Go.Proofs.Lays.n190 Tryz.prog Tryz.lays190_ren:={
  mixed:=by kernel_rfl
  f125:=Tryz.func71.trans (congrArg some (by kernel_rfl))
  f128:=Tryz.func99.trans (congrArg some (by kernel_rfl))
  f129:=Tryz.func100.trans (congrArg some (by kernel_rfl))
  f190:=Tryz.func40.trans (congrArg some (by kernel_rfl))
  f258:=Tryz.func70.trans (congrArg some (by kernel_rfl))
  f302:=Tryz.func90.trans (congrArg some (by kernel_rfl))
  f303:=Tryz.func91.trans (congrArg some (by kernel_rfl))
  f304:=Tryz.func92.trans (congrArg some (by kernel_rfl))
  f305:=Tryz.func93.trans (congrArg some (by kernel_rfl))
  f306:=Tryz.func94.trans (congrArg some (by kernel_rfl))
  f307:=Tryz.func95.trans (congrArg some (by kernel_rfl))
  f308:=Tryz.func96.trans (congrArg some (by kernel_rfl))
  f309:=Tryz.func97.trans (congrArg some (by kernel_rfl))
  f310:=Tryz.func98.trans (congrArg some (by kernel_rfl))
  f329:=Tryz.func122.trans (congrArg some (by kernel_rfl))
  f330:=Tryz.func123.trans (congrArg some (by kernel_rfl))
  f333:=Tryz.func121.trans (congrArg some (by kernel_rfl))
  f334:=Tryz.func124.trans (congrArg some (by kernel_rfl))
  f335:=Tryz.func125.trans (congrArg some (by kernel_rfl))
  f336:=Tryz.func75.trans (congrArg some (by kernel_rfl))
  f344:=Tryz.func138.trans (congrArg some (by kernel_rfl))
  t0:=Tryz.underlying0
  a0:=Tryz.isAgg0
  z0:=Tryz.sizeOf0
  v0:=Tryz.zeroValue0
  t3:=Tryz.underlying3
  a3:=Tryz.isAgg3
  z3:=Tryz.sizeOf3
  v3:=Tryz.zeroValue3
  t4:=Tryz.underlying4
  a4:=Tryz.isAgg4
  z4:=Tryz.sizeOf4
  v4:=Tryz.zeroValue4
  t5:=Tryz.underlying5
  a5:=Tryz.isAgg5
  z5:=Tryz.sizeOf5
  v5:=Tryz.zeroValue5
  t9:=Tryz.underlying9
  a9:=Tryz.isAgg9
  z9:=Tryz.sizeOf9
  v9:=Tryz.zeroValue9
  t31:=Tryz.underlying54
  a31:=Tryz.isAgg54
  z31:=Tryz.sizeOf54
  v31:=Tryz.zeroValue54
  t46:=Tryz.underlying44
  a46:=Tryz.isAgg44
  z46:=Tryz.sizeOf44
  v46:=Tryz.zeroValue44
  t51:=Tryz.underlying134
  a51:=Tryz.isAgg134
  z51:=Tryz.sizeOf134
  v51:=Tryz.zeroValue134
  t53:=Tryz.underlying136
  a53:=Tryz.isAgg136
  z53:=Tryz.sizeOf136
  v53:=Tryz.zeroValue136
  t131:=Tryz.underlying131
  a131:=Tryz.isAgg131
  z131:=Tryz.sizeOf131
  v131:=Tryz.zeroValue131
  t182:=Tryz.underlying126
  a182:=Tryz.isAgg126
  z182:=Tryz.sizeOf126
  v182:=Tryz.zeroValue126
  t183:=Tryz.underlying127
  a183:=Tryz.isAgg127
  z183:=Tryz.sizeOf127
  v183:=Tryz.zeroValue127
  t218:=Tryz.underlying158
  a218:=Tryz.isAgg158
  z218:=Tryz.sizeOf158
  v218:=Tryz.zeroValue158
  t222:=Tryz.underlying162
  a222:=Tryz.isAgg162
  z222:=Tryz.sizeOf162
  v222:=Tryz.zeroValue162
  t228:=Tryz.underlying179
  a228:=Tryz.isAgg179
  z228:=Tryz.sizeOf179
  v228:=Tryz.zeroValue179
  t229:=Tryz.underlying180
  a229:=Tryz.isAgg180
  z229:=Tryz.sizeOf180
  v229:=Tryz.zeroValue180 }
open Go.Sort Go.RowKit in
theorem Tryz.slices_Sort_string (blk off cap:Nat) (ss:List (List UInt8)) (w:World) (hH:Holds encStr w blk off ss.toArray) (hblk:blk<w.heap.size) (hsz:ss.length<4611686018427387904) :
    Calls Tryz.prog 40 #[.slice (some ⟨blk,off,none⟩) ss.length cap] w fun e w' =>
      e=.returned (.tuple #[])∧∃ n os,w'=grow (putRow encStr (Sort.ahead w n) blk off (ss.mergeSort fun x y=>decide (x≤y)).toArray) os:=Any.slices_Sort_string Tryz.lays190 blk off cap ss w hH hblk hsz
end Go.Proofs
namespace Go.Sw
open Go.RowKit
theorem run_clone {P:Program} {w:World} {r:Nat} {es:Array MapEntry} {clock:Nat} (t:TypeId) (hb:w.heap[r]? = some (.map es clock)) :
    (Extern.MapsClone.clone #[.iface t (.map (some r))]).run P w=.ok (.iface t (.map (some w.heap.size))) (w.alloc (.map es clock)):=by
  have e:Extern.MapsClone.clone #[.iface t (.map (some r))]=(getObj r >>= fun o=>match o with
      | .map entries clock=>(newObj (.map entries clock) >>= fun n=>pure (.iface t (.map (some n))))
      | _ => stuck "maps.clone: a map expected") := rfl
  rw [e]
  simp only [Sem.run_bind,K8 hb,Result.andThen_ok,run_newObj,Sem.run_pure]
  rfl
theorem GL_cloneX {P:Program} {ops:Array Oper} {i:Nat} {Q:D7} {n:Fr} {E:Env} {W0:World} {H:List Grp} {o:Oper} {ch:List (Nat × Bool)} {c:Call} {fo:Operand} {f:FuncId} {t:TypeId} {r clock:Nat} {es:Array MapEntry} {fn:Func}
    (ho:ops[i]? = some o) (hop:o.op=.call c) (hce:c.callee=.value fo) (hfo:evO E ch fo=some (.func (.func f) #[] #[])) (hargs:evL (evO E ch) c.args.toList=some [.iface t (.map (some r))])
    (hf : P.funcs[f]? = some fn) (hrt : (fn.name == "runtime.NumGoroutine") = false) (hbody : fn.body.isNone = true) (hn : Extern.findNext fn = none) (he : Extern.find fn = some Extern.MapsClone.clone)
    (hch:D4 ops E o.guard=some ch) (hd:F5 n ch o.dst=true) (hsure:N9 E ch=true) (hA:At W0 H r (.map es clock))
    (k:∀ b,GL false P ops (i+1) Q n (Env.put E o.dst ch (.iface t (.map (some b)))) W0 ([(b,.map es clock)]::H)):GL false P ops i Q n E W0 H:=by
  refine Z1 (R:=fun v H1=>∃ b,v=.iface t (.map (some b))∧H1=[(b,.map es clock)]::H) ho hch hd hsure (fun rr hr w hs=>?_) (by rintro v H1 ⟨b,rfl,rfl⟩; exact k b)
  refine ⟨_,w.alloc (.map es clock),_,⟨w.heap.size,rfl,rfl⟩,hs.new rfl rfl rfl rfl,.inl ?_⟩
  unfold execOp
  simp only [hop]
  simp only [resolve,hce]
  rw [hr _ _ hfo,O1 hr hargs]
  simp only [Deferred.ofValue,Sem.run_bind,Sem.run_pure,Result.andThen_ok,invoke]
  have:=run_callFunc_extern hf hrt hbody hn he #[.iface t (.map (some r))] w
  simp only [Array.empty_append,Array.append_empty,this,run_clone t (hs.at hA),Result.andThen_ok]
theorem GL_assert {d:Bool} {P:Program} {ops:Array Oper} {i:Nat} {Q:D7} {n:Fr} {E:Env} {W0:World} {H:List Grp} {o:Oper} {ch:List (Nat × Bool)} {x:Operand} {xt t k e:TypeId} {v:Value}
    (ho:ops[i]? = some o) (hop:o.op=.typeAssert x xt t false) (hx:evO E ch x=some (.iface t v)) (hu:P.underlying t=some (.map k e))
    (hch:D4 ops E o.guard=some ch) (hd:F5 n ch o.dst=true) (hk:J3 E ch=true)
    (kk:GL d P ops (i+1) Q n (Env.put E o.dst ch v) W0 H):GL d P ops i Q n E W0 H:=by
  refine I2 ho hch hd hk (fun r hr _ w _=>?_) kk
  unfold execOp
  simp only [hop]
  rw [hr _ _ hx]
  simp [Instr.typeAssert,run_underlying hu,Result.andThen]
  exact ⟨rfl,rfl⟩
theorem GL_strBytes {P:Program} {ops:Array Oper} {i:Nat} {Q:D7} {n:Fr} {E:Env} {W0:World} {H:List Grp} {o:Oper} {ch:List (Nat × Bool)} {src dst e:TypeId} {x:Operand} {s:ByteArray}
    (ho:ops[i]? = some o) (hop:o.op=.convert src dst x) (hx:evO E ch x=some (.string s)) (hs':P.underlying src=some .string) (hds:P.underlying dst=some (.slice e)) (he:P.underlying e=some (.int .u8))
    (hch:D4 ops E o.guard=some ch) (hd:F5 n ch o.dst=true) (hsure:N9 E ch=true)
    (k:∀ b cap g,s.size≤cap→Rd (inG g) (some ⟨b,0,none⟩) (u8s s.data.toList)→GL false P ops (i+1) Q n (Env.put E o.dst ch (.slice (some ⟨b,0,none⟩) s.size cap)) W0 (g::H)):GL false P ops i Q n E W0 H:=by
  refine Z1 (R:=fun v H1=>∃ b cap g,v=.slice (some ⟨b,0,none⟩) s.size cap∧s.size≤cap∧Rd (inG g) (some ⟨b,0,none⟩) (u8s s.data.toList)∧H1=g::H) ho hch hd hsure (fun rr hr w hs=>?_) (by rintro v H1 ⟨b,cap,g,rfl,h1,h2,rfl⟩; exact k b cap g h1 h2)
  have hrun:=run_bytes_of_string (P:=P) w src dst e s hs' hds he
  refine ⟨_,w.drew.alloc (.cells (bytesRow s (grownCap w s.size 0 e)) e ((bytesRow s (grownCap w s.size 0 e)).size,(bytesRow s (grownCap w s.size 0 e)).size+1)),_,⟨w.heap.size,grownCap w s.size 0 e,_,rfl,by have:=grownCap_ge w s.size 0 e; omega,?_,rfl⟩,(hs.drew).new rfl rfl rfl rfl,.inl ?_⟩
  · refine .inr ⟨_,0,_,_,_,rfl,List.mem_singleton.2 rfl,fun j u hu=>?_⟩
    unfold u8s at hu
    rw [List.getElem?_map] at hu
    cases hj:s.data.toList[j]? with
    | none=>rw [hj] at hu; simp at hu
    | some b =>
      rw [hj] at hu
      simp only [Option.map_some,Option.some.injEq] at hu
      obtain ⟨hlt,hb⟩:=List.getElem?_eq_some_iff.1 hj
      have hlt':j<s.data.size:=by simpa using hlt
      rw [Nat.zero_add,bytesRow_at s _ j hlt',← hu,← hb]
      simp
  · unfold execOp
    simp only [hop]
    rw [hr _ _ hx]
    simp only [Sem.run_bind,Sem.run_pure,hrun,Result.andThen_ok]
end Go.Sw
namespace Go.Vf
open Go.Sw Go.RowKit Go.Sort Go.Proofs
def R1 (ws:List ByteArray):List ByteArray:=((ws.map fun s=>s.data.toList).mergeSort fun x y=>decide (x≤y)).map fun l=>⟨l.toArray⟩
theorem strs_enc (ws:List ByteArray):Y5 ws=(ws.map fun s=>s.data.toList).map encStr:=by
  unfold Y5
  rw [List.map_map]
  rfl
theorem strs_sort (ws:List ByteArray):Y5 (R1 ws)=((ws.map fun s=>s.data.toList).mergeSort fun x y=>decide (x≤y)).map encStr:=by
  unfold Y5 R1
  rw [List.map_map]
  rfl
theorem sortB_len (ws:List ByteArray):(R1 ws).length=ws.length:=by unfold R1; rw [List.length_map,List.length_mergeSort,List.length_map]
theorem L8 (ws:List ByteArray):(R1 ws).Perm ws:=by
  unfold R1
  have h:((ws.map fun s=>s.data.toList).mergeSort fun x y=>decide (x≤y)).Perm (ws.map fun s=>s.data.toList):=List.mergeSort_perm _ _
  have h2:=h.map fun l=>(⟨l.toArray⟩:ByteArray)
  rw [List.map_map] at h2
  have e:ws.map ((fun l=>(⟨l.toArray⟩:ByteArray)) ∘ fun s=>s.data.toList)=ws:=by
    rw [show ((fun l:List UInt8=>(⟨l.toArray⟩:ByteArray)) ∘ fun s:ByteArray=>s.data.toList)=id from rfl,List.map_id]
  rwa [e] at h2
theorem sortC {v:Value} {ws:List ByteArray} {g:Grp} (hO:Go.Sw.Own 9 1 v g ws.length (Y5 ws)) (hw:ws.length≤1000000000) (W0:World) (H:List Grp) :
    Tri Tryz.prog 40 #[v] W0 (g::H) (fun u H'=>u=.tuple #[]∧∃ g',Go.Sw.Own 9 1 v g' ws.length (Y5 (R1 ws))∧H'=g'::H):=by
  obtain ⟨hl,⟨rfl,rfl,hn⟩ | ⟨b,cap,junk,rfl,rfl,hc,hj⟩⟩:=hO
  · intro w hs
    have hws:ws=[]:=List.eq_nil_of_length_eq_zero hn
    subst hws
    have e0:R1 []=[]:=by unfold R1; simp
    rw [e0]
    exact (Any.slices_Sort_string_none Tryz.lays190 none 0 w).mono fun e w' ⟨h1,h2⟩=>⟨_,_,h1,⟨rfl,[],Go.Sw.Own.nil,rfl⟩,by subst h2; exact hs⟩
  · intro w hs
    have hb:w.heap[b]? = some (.cells (Y5 ws++junk).toArray 9 (0,0)):=hs.has (b,_) (by simp)
    have hlt:b<w.heap.size:=(Array.getElem?_eq_some_iff.1 hb).1
    have hlen:(Y5 ws).length=ws.length:=by unfold Y5; rw [List.length_map]
    have hH:Holds encStr w b 0 (ws.map fun s=>s.data.toList).toArray:=holds_of_block hb (by
      rw [List.length_map,List.toList_toArray,← strs_enc,← hlen,List.take_left])
    have hc0:=Tryz.slices_Sort_string b 0 cap (ws.map fun s=>s.data.toList) w hH hlt (by rw [List.length_map]; omega)
    rw [List.length_map] at hc0
    refine hc0.mono fun e w' ⟨h1,n,os,h2⟩=>?_
    have hts:((ws.map fun s=>s.data.toList).mergeSort fun x y=>decide (x≤y)).length=ws.length:=by rw [List.length_mergeSort,List.length_map]
    have hcs:=heap_sorted (n:=n) (os:=os) ((ws.map fun s=>s.data.toList).mergeSort fun x y=>decide (x≤y)).toArray hb
    have hgr:=grownBy_sorted (w:=w) (g:=b) (n:=n) (os:=os) ((ws.map fun s=>s.data.toList).mergeSort fun x y=>decide (x≤y)).toArray
    rw [← h2] at hcs hgr
    have htk:=take_putCells (Y5 ws++junk).toArray ((ws.map fun s=>s.data.toList).mergeSort fun x y=>decide (x≤y)) (by rw [hts,List.size_toArray,List.length_append,hlen]; omega)
    rw [hts,← strs_sort] at htk
    have hcell:putCells encStr 0 ((ws.map fun s=>s.data.toList).mergeSort fun x y=>decide (x≤y)).toArray (Y5 ws++junk).toArray=(Y5 (R1 ws)++(putCells encStr 0 ((ws.map fun s=>s.data.toList).mergeSort fun x y=>decide (x≤y)).toArray (Y5 ws++junk).toArray).toList.drop ws.length).toArray:=by
      apply Array.ext'
      rw [List.toList_toArray]
      have h3:=List.take_append_drop ws.length (putCells encStr 0 ((ws.map fun s=>s.data.toList).mergeSort fun x y=>decide (x≤y)).toArray (Y5 ws++junk).toArray).toList
      rw [htk] at h3
      exact h3.symm
    rw [hcell] at hcs
    have hsz:(putCells encStr 0 ((ws.map fun s=>s.data.toList).mergeSort fun x y=>decide (x≤y)).toArray (Y5 ws++junk).toArray).size=(Y5 ws++junk).length:=by simp [putCells]
    obtain ⟨g1,g2,g3,g4,g5⟩:=hgr
    have hhigh:W0.heap.size≤b:=hs.high (b,.cells (Y5 ws++junk).toArray 9 (0,0)) (by simp)
    have hnd:=hs.nodup
    refine ⟨_,_,h1,⟨rfl,[(b,.cells (Y5 (R1 ws)++(putCells encStr 0 ((ws.map fun s=>s.data.toList).mergeSort fun x y=>decide (x≤y)).toArray (Y5 ws++junk).toArray).toList.drop ws.length).toArray 9 (0,0))],⟨by unfold Y5; rw [List.length_map,sortB_len,Nat.mul_one],.inr ⟨b,cap,_,rfl,rfl,hc,?_⟩⟩,rfl⟩,?_,?_,?_,?_⟩
    · have:(Y5 (R1 ws)++(putCells encStr 0 ((ws.map fun s=>s.data.toList).mergeSort fun x y=>decide (x≤y)).toArray (Y5 ws++junk).toArray).toList.drop ws.length).length=(putCells encStr 0 ((ws.map fun s=>s.data.toList).mergeSort fun x y=>decide (x≤y)).toArray (Y5 ws++junk).toArray).toList.length:=by
        have h3:=List.take_append_drop ws.length (putCells encStr 0 ((ws.map fun s=>s.data.toList).mergeSort fun x y=>decide (x≤y)).toArray (Y5 ws++junk).toArray).toList
        rw [htk] at h3
        exact congrArg List.length h3
      rw [this,Array.length_toList,hsz,hj]
    · refine ⟨g1.trans hs.below.os,g2.trans hs.below.tape,g3.trans hs.below.output,Nat.le_trans hs.below.size g4,fun k hk=>?_⟩
      have hk':k<w.heap.size:=Nat.lt_of_lt_of_le hk hs.below.size
      rw [g5 k hk' (by intro e; injection e with e; omega),hs.below.block k hk]
    · simpa using hnd
    · intro p hp
      simp only [List.flatten_cons,List.cons_append,List.nil_append,List.mem_cons] at hp
      rcases hp with rfl | hp
      · exact hcs
      · have h0:=hs.has p (by simp [hp])
        have hk':p.1<w.heap.size:=(Array.getElem?_eq_some_iff.1 h0).1
        rw [g5 p.1 hk' ?_]
        · exact h0
        · intro e
          injection e with e
          simp only [List.flatten_cons,List.cons_append,List.nil_append,List.map_cons,List.nodup_cons] at hnd
          exact hnd.1 (List.mem_map.2 ⟨p,hp,e⟩)
    · intro p hp
      simp only [List.flatten_cons,List.cons_append,List.nil_append,List.mem_cons] at hp
      rcases hp with rfl | hp
      · exact hhigh
      · exact hs.high p (by simp [hp])
def Y3 (dir:ByteArray) (m:SM):List ByteArray:=(m.filter fun e=>(Go.Proofs.YtdolpaagdpeagaaGreatDoor.dirB e.1).toList==dir.toList).map Prod.fst
theorem listK_yes {dir:ByteArray} {m:SM} {e:ByteArray × Value × Nat} (h:((Go.Proofs.YtdolpaagdpeagaaGreatDoor.dirB e.1).toList==dir.toList)=true):Y3 dir (m++[e])=Y3 dir m++[e.1]:=by
  unfold Y3; rw [List.filter_append,List.filter_cons,h]; simp
theorem listK_no {dir:ByteArray} {m:SM} {e:ByteArray × Value × Nat} (h:((Go.Proofs.YtdolpaagdpeagaaGreatDoor.dirB e.1).toList==dir.toList)=false):Y3 dir (m++[e])=Y3 dir m:=by
  unfold Y3; rw [List.filter_append,List.filter_cons,h]; simp
theorem listK_len (dir:ByteArray) (m:SM):(Y3 dir m).length≤m.length:=by unfold Y3; rw [List.length_map]; exact List.length_filter_le _ _
theorem own_yes {dir:ByteArray} {m:SM} {e:ByteArray × Value × Nat} {v:Value} {g:Grp} (h:((Go.Proofs.YtdolpaagdpeagaaGreatDoor.dirB e.1).toList==dir.toList)=true) (hO:Go.Sw.Own 9 1 v g ((Y3 dir m).length+1) (Y5 (Y3 dir m)++[.string e.1])) :
    Go.Sw.Own 9 1 v g (Y3 dir (m++[e])).length (Y5 (Y3 dir (m++[e]))):=by
  rw [listK_yes h]; simpa [Y5] using hO
end Go.Vf
namespace Go.Proofs.YtdolpaagdpeagaaGreatDoor
open Go.Sw Go.Lib Go.Vf Go.RowKit
theorem vMapClone (kb kc:Nat) (km:SM) (W0:World) (H:List Grp):Tri Tryz.prog 38 #[.map (some kb)] W0 ([(kb,.map (B3 km) kc)]::H) (fun v H'=>∃ b,v=.map (some b)∧H'=[(b,.map (B3 km) kc)]::[(kb,.map (B3 km) kc)]::H):=by
 refine D6 9 Tryz.func38 ?_
 refine A2 (B9 (E':=[⟨0,[],.map (some kb)⟩]) [0] [0] (k:=A1 (A2 (A2 (G_p [0,0] [0,4] (k:=A1 (D9 kr (B6 ?_))))))))
 refine A1 (A2 (A3 (A5 (j:=2) [0,0] (k:=GL_cloneX (i:=2) (ch:=[]) (f:=69) (t:=60) (r:=kb) (clock:=kc) (es:=B3 km) rfl rfl rfl kr kr Tryz.func69 kr rfl kr kr kr kr kr (At.grp 0 0 rfl rfl) (fun b1=>GL_assert (i:=3) (ch:=[]) (xt:=20) (t:=60) (k:=9) (e:=70) (v:=.map (some b1)) rfl rfl kr kr kr kr kr (D5 (E':=[⟨2,[],.map (some b1)⟩]) [0] [2] (k:=A1 (C8 ?_))))))))
 refine C5 [.tmp 2] [.map (some b1)] (k:=?_)
 exact ⟨_,rfl,rfl⟩
theorem vList (d nb kb cb nc:Nat) (room calls:Int) (bv:Value) (fails once:Bool) (nm:SM) (dir:ByteArray) (hn:MapOk nm nc) (hks:∀ e∈nm,e.1.size≤9223372036854775807) (hnl:nm.length≤1000000) (W0:World) (H:List Grp):Tri Tryz.prog 20 #[pt d,.string dir] W0 ([(d,.cells #[.int .i64 room,bv,.map (some nb),.map (some kb),.map (some cb),.bool fails,.bool once,.int .i64 calls] 64 (0,0))]::[(nb,.map (B3 nm) nc)]::H) (fun v H'=>∃ dn g,dn.Perm nm∧Go.Sw.Own 9 1 v g (Y3 dir dn).length (Y5 (R1 (Y3 dir dn)))∧H'=([(d,.cells #[.int .i64 room,bv,.map (some nb),.map (some kb),.map (some cb),.bool fails,.bool once,.int .i64 calls] 64 (0,0))]::[(nb,.map (B3 nm) nc)]::g::H)):=by
 refine D6 29 Tryz.func20 ?_
 refine A2 (B9 (E':=[⟨0,[],pt d⟩,⟨1,[],.string dir⟩]) [0] [0,1] (k:=A1 (A2 (A2 (G_p [0,0] [0,1,8] (k:=A1 (D9 kr (B6 ?_))))))))
 refine A1 (A2 (G_p [0] [0,1,5] (k:=A1 (A2 (A2 (A3 (A5 (j:=3) [0,0,0] (k:=D0 0 2 rfl rfl ?_))))))))
 refine GL_range (ch:=[]) (kt:=9) (et:=70) (r:=nb) (c:=nc) (m:=nm) (hA:=At.grp 1 0 rfl rfl) (kk:=(fun it1=>B5 [] [1,5,13] (k:=A1 (B8 (G_heap (H':=([(it1,.mapIter (some nb) nc (O7 ([])) nc)]::[(d,.cells #[.int .i64 room,bv,.map (some nb),.map (some kb),.map (some cb),.bool fails,.bool once,.int .i64 calls] 64 (0,0))]::[(nb,.map (B3 nm) nc)]::[]::H)) (fun w h=>h.flat (List.Perm.refl _)) (I6 (EI:=(fun ξ:SM × SM × Value × Grp=>[⟨1,[],.string dir⟩,⟨5,[],ξ.2.2.1⟩,⟨13,[],pt it1⟩])) (HI:=(fun ξ:SM × SM × Value × Grp=>([(it1,.mapIter (some nb) nc (O7 ξ.1) nc)]::[(d,.cells #[.int .i64 room,bv,.map (some nb),.map (some kb),.map (some cb),.bool fails,.bool once,.int .i64 calls] 64 (0,0))]::[(nb,.map (B3 nm) nc)]::ξ.2.2.2::H))) (Φ:=(fun ξ:SM × SM × Value × Grp=>((ξ.1++ξ.2.1).Perm nm)∧(Go.Sw.Own 9 1 ξ.2.2.1 ξ.2.2.2 (Y3 dir ξ.1).length (Y5 (Y3 dir ξ.1))))) (μ:=(fun ξ:SM × SM × Value × Grp=>ξ.2.1.length)) (s0:=([],nm,.slice none 0 0,[])) [1,5,13] kr (by rfl) ⟨(List.Perm.refl _),Go.Sw.Own.nil⟩ ?_))))))
 rintro ⟨dn,rest,v,g⟩ ⟨hpm,hO⟩
 replace hpm:(dn++rest).Perm nm:=hpm
 replace hO:Go.Sw.Own 9 1 v g (Y3 dir dn).length (Y5 (Y3 dir dn)):=hO
 have hll:=listK_len dir dn
 have hdl:dn.length≤nm.length:=by (have:=hpm.length_eq; rw [List.length_append] at this; omega)
 refine A2 (A3 (GL_next (ch:=[]) (it:=it1) (r:=nb) (c:=nc) (j:=0) (q:=0) (m:=nm) (dn:=dn) (rest:=rest) (hA:=At.grp 2 0 rfl rfl) (hok:=hn) (hp:=hpm) (kEnd:=(fun hend6=>?_)) (kMore:=(fun e2 rest3 hp4 hq5=>?_))))
 ·
  refine B5 [0] [1,5,13,15] (k:=A1 (A2 (D9 kr (H0 (A6 (A6 (C3 (A1 ?_))))))))
  refine A2 (A3 (A5 (j:=1) [0] (k:=Z6 0 [3] (E4 Tryz.func40 (sortC hO (by omega) _ _) ?_))))
  rintro u H' ⟨rfl,g11,hO12,rfl⟩
  refine D5 (E':=[⟨5,[],v⟩]) [] [5] (k:=A1 (A2 (B9 (E':=[⟨4,[],v⟩]) [0,0] [4] (k:=A1 (C8 (N_pk 1 [2,2,0] (C5 [.tmp 4] [v] (k:=?_))))))))
  exact ⟨dn,_,by simpa [hend6] using hpm,hO12,rfl⟩
 ·
  have hz10:=hks e2 (hq5.mem_iff.1 (by simp))
  obtain ⟨k7,u8,st9⟩:=e2
  simp only at hz10
  refine B5 [0] [1,5,13,15] (k:=A1 (A2 (G6 kr (B6 (A1 (B8 (A2 (A3 ?_))))))))
  refine GL_entry (ch:=[]) (it:=it1) (r:=nb) (c:=nc) (m:=nm) (dn:=dn) (e:=(k7,u8,st9)) (hI:=At.grp 0 0 rfl rfl) (hA:=At.grp 2 0 rfl rfl) (hok:=hn) (he:=hq5.mem_iff.1 (by simp)) (kk:=B5 [0,0] [1,5,6,13] (k:=A1 (A2 (A3 (A5 (j:=1) [0] (k:=G1 (vs:=[.string k7]) Tryz.func39 (N7 _ hz10 _ _) (B5 [0,0] [1,5,6,13,21] (k:=A1 ?_))))))))
  refine D2 (b:=(dirB k7).toList==dir.toList) kr (fun hc13=>?_) (fun hc13=>?_)
  ·
   have hyn:=hc13
   refine A3 (A5 (j:=2) [0,0] (k:=N2 9 1 [.string k7] (fun b14=>GL_ap (inf:=Tryz.t9) 1 0 4 rfl rfl hO (by omega) (by show ((Y3 dir dn).length+1) * 16≤140737488355328; omega) (fun v15 g16 hO17=>?_))))
   refine B5 [0] [1,5,13] (k:=D3 (N_pk 1 [1,1,1,1] (F6 (s':=(dn++[(k7,u8,st9)],rest3,v15,g16)) [1,5,13] kr (by rfl) ⟨hq5,(own_yes (e:=(k7,u8,st9)) hyn hO17)⟩ (by have:=hp4.length_eq; simp only [List.length_cons] at this; show rest3.length<rest.length; omega))))
  ·
   have hyn:=hc13
   refine B6 (D3 (F6 (s':=(dn++[(k7,u8,st9)],rest3,v,g)) [1,5,13] kr (by rfl) ⟨hq5,(by rw [listK_no (e:=(k7,u8,st9)) hyn]; exact hO)⟩ (by have:=hp4.length_eq; simp only [List.length_cons] at this; show rest3.length<rest.length; omega)))
end Go.Proofs.YtdolpaagdpeagaaGreatDoor
namespace Go.Proofs
open Go.Shelf
def Tryz.keys41_ren:Go.Shelf.Ren:=⟨fun | 7=>36 | 10=>68 | n=>n,fun | 23=>61 | 26=>9 | 3=>85 | 28=>75 | 0=>0 | 27=>74 | 33=>80 | 4=>4 | n=>n,fun | n=>n⟩
theorem Tryz.keys41:Go.Proofs.SlLaysZ.n7 Tryz.prog Tryz.keys41_ren:={
  mixed:=by kernel_rfl
  f7:=⟨Tryz.f36.name,by decide,Tryz.func36.trans (congrArg some (by kernel_rfl))⟩
  f10:=⟨Tryz.f68.name,by decide,Tryz.func68.trans (congrArg some (by kernel_rfl))⟩
  t0:=Tryz.underlying0
  a0:=Tryz.isAgg0
  z0:=Tryz.sizeOf0
  v0:=Tryz.zeroValue0
  t4:=Tryz.underlying4
  a4:=Tryz.isAgg4
  z4:=Tryz.sizeOf4
  v4:=Tryz.zeroValue4
  t23:=Tryz.underlying61
  a23:=Tryz.isAgg61
  z23:=Tryz.sizeOf61
  v23:=Tryz.zeroValue61
  t26:=Tryz.underlying9
  a26:=Tryz.isAgg9
  z26:=Tryz.sizeOf9
  v26:=Tryz.zeroValue9
  t27:=Tryz.underlying74
  a27:=Tryz.isAgg74
  z27:=Tryz.sizeOf74
  v27:=Tryz.zeroValue74
  t28:=Tryz.underlying75
  a28:=Tryz.isAgg75
  z28:=Tryz.sizeOf75
  v28:=Tryz.zeroValue75
  t33:=Tryz.underlying80
  a33:=Tryz.isAgg80
  z33:=Tryz.sizeOf80
  v33:=Tryz.zeroValue80 }
def Tryz.sorted40_ren:Go.Shelf.Ren:=⟨fun | 6=>35 | 8=>67 | 9=>40 | 11=>89 | 13=>71 | 12=>70 | 23=>99 | 24=>100 | 14=>90 | 15=>91 | 16=>92 | 17=>93 | 18=>94 | 19=>95 | 20=>96 | 21=>97 | 22=>98 | 25=>121 | 26=>122 | 27=>123 | 28=>124 | 29=>125 | 30=>75 | 31=>138 | n=>n,fun | 26=>9 | 28=>75 | 24=>54 | 0=>0 | 3=>3 | 37=>44 | 48=>134 | 50=>136 | 4=>4 | 40=>127 | 39=>126 | 45=>131 | 5=>5 | 9=>9 | 51=>158 | 55=>162 | 57=>179 | 58=>180 | 33=>80 | n=>n,fun | n=>n⟩
theorem Tryz.sorted40:Go.Proofs.SlLaysZ.n6 Tryz.prog Tryz.sorted40_ren:={
  mixed:=by kernel_rfl
  f6:=⟨Tryz.f35.name,by decide,Tryz.func35.trans (congrArg some (by kernel_rfl))⟩
  f8:=⟨Tryz.f67.name,by decide,Tryz.func67.trans (congrArg some (by kernel_rfl))⟩
  f11:=⟨Tryz.f89.name,by decide,Tryz.func89.trans (congrArg some (by kernel_rfl))⟩
  t0:=Tryz.underlying0
  a0:=Tryz.isAgg0
  z0:=Tryz.sizeOf0
  v0:=Tryz.zeroValue0
  t24:=Tryz.underlying54
  a24:=Tryz.isAgg54
  z24:=Tryz.sizeOf54
  v24:=Tryz.zeroValue54
  t26:=Tryz.underlying9
  a26:=Tryz.isAgg9
  z26:=Tryz.sizeOf9
  v26:=Tryz.zeroValue9
  t28:=Tryz.underlying75
  a28:=Tryz.isAgg75
  z28:=Tryz.sizeOf75
  v28:=Tryz.zeroValue75
  i26:=by kernel_rfl }
end Go.Proofs
namespace Go.Vf
open Go.Sw Go.RowKit Go.Sort Go.Proofs Go.Shelf
open Go.WideElems (Fit rg)
def anyR:Value→Option (DataW Nat × List MemPlace):=fun _=>some (.lit (.bool false),[])
def datM (P:Program) (cm:SM):DataW Nat:=.map (((B3 cm).toList.map (rg P 9 anyR)).foldr DataW.insert [])
theorem rd_ent {e:ByteArray × Value × Nat} (h:e.1.size≤9223372036854775807):WideElems.rd Tryz.prog 9 anyR (entM e)=some (.string e.1.data.toList,.lit (.bool false)):=by
  unfold WideElems.rd
  rw [show keyOf Tryz.prog 9 (entM e).key=some (.string e.1.data.toList) from WideMaps.keyOf_string_mk Tryz.underlying9 (by unfold maxLen; omega)]
  rfl
theorem rg_ent {e:ByteArray × Value × Nat} (h:e.1.size≤9223372036854775807):rg Tryz.prog 9 anyR (entM e)=(.string e.1.data.toList,.lit (.bool false)):=by
  unfold rg
  rw [rd_ent h]
  rfl
theorem A0a (cm:SM):(B3 cm).toList=cm.map entM:=by unfold B3; rfl
theorem ent_apart {cm:SM} (h:cm.Pairwise fun x y=>(x.1==y.1)=false):(cm.map entM).Pairwise fun x y=>x.key≠y.key :=
  List.pairwise_map.2 (h.imp fun {x y} hxy e=>by
    have:x.1=y.1:=by
      have e':Value.string x.1=Value.string y.1:=e
      injection e'
    exact (baNe.1 hxy) this)
theorem own_map {cm:SM} {cc cb:Nat} {w:World} (hm:MapOk cm cc) (hks:∀ e∈cm,e.1.size≤9223372036854775807) (hl:cm.length≤1000000000) (hb:w.heap[cb]? = some (.map (B3 cm) cc)) :
    w.ownsMap Tryz.prog 9 anyR cb cm.length (datM Tryz.prog cm):=by
  refine ⟨B3 cm,cc,hb,⟨?_,?_,?_⟩,?_,rfl⟩
  · rw [← Array.length_toList,A0a,List.length_map]; unfold maxLen; omega
  · rw [MapKept.stamped_iff,A0a]
    refine ⟨?_,?_,ent_apart hm.keys⟩
    · intro x hx
      obtain ⟨e,he,rfl⟩:=List.mem_map.1 hx
      exact hm.lt e he
    · rw [List.map_map]; exact hm.born
  · intro x hx
    rw [A0a] at hx
    obtain ⟨e,he,rfl⟩:=List.mem_map.1 hx
    exact ⟨_,rd_ent (hks e he)⟩
  · rw [← Array.length_toList,A0a,List.length_map]; exact Nat.le_refl _
theorem keys_dat {cm:SM} (hks:∀ e∈cm,e.1.size≤9223372036854775807):(strKeys (datM Tryz.prog cm)).Perm ((cm.map Prod.fst).map fun s=>s.data.toList):=by
  have h1:(strKeys (datM Tryz.prog cm)).Perm ((((B3 cm).toList.map (rg Tryz.prog 9 anyR))).map fun p=>strOf p.1):=(WideShapes.sorted_perm _).map _
  have h2:(((B3 cm).toList.map (rg Tryz.prog 9 anyR))).map (fun p=>strOf p.1)=(cm.map Prod.fst).map fun s=>s.data.toList:=by
    rw [A0a,List.map_map,List.map_map,List.map_map]
    refine List.map_congr_left fun e he=>?_
    simp only [Function.comp_apply]
    rw [rg_ent (hks e he)]
    unfold strOf
    rfl
  rwa [h2] at h1
theorem dat_size (P:Program) (cm:SM):Maps.size (datM P cm)=cm.length:=by
  have e:Maps.size (datM P cm)=(((B3 cm).toList.map (rg P 9 anyR)).foldr DataW.insert []).length:=rfl
  rw [e,(WideShapes.sorted_perm _).length_eq,List.length_map,A0a,List.length_map]
theorem sorts40 (m:Nat):AnyZ.SortsIn Tryz.prog Tryz.sorted40_ren Fence.wide m :=
  ⟨fun blk off cap ss W hH hblk hsz=>callsIn_wide.2 (Tryz.slices_Sort_string blk off cap ss W hH hblk hsz),
   fun p cap W=>callsIn_wide.2 (Any.slices_Sort_string_none Tryz.lays190 p cap W)⟩
set_option maxHeartbeats 1000000 in
theorem sortedC (cm:SM) (cc cb kb:Nat) (hm:MapOk cm cc) (hks:∀ e∈cm,e.1.size≤9223372036854775807) (hl:cm.length≤1000000000) (W0:World) (H:List Grp) :
    Tri Tryz.prog 35 #[.func (.func 68) #[] #[.pointer (some ⟨kb,0,none⟩)]] W0
      ([(kb,.cells #[.map (some cb)] 61 (0,0))]::[(cb,.map (B3 cm) cc)]::H)
      (fun v H'=>∃ g,Go.Sw.Own 9 1 v g cm.length (Y5 (R1 (cm.map Prod.fst)))∧H'=g::[(kb,.cells #[.map (some cb)] 61 (0,0))]::[(cb,.map (B3 cm) cc)]::H):=by
  intro w hs
  have hk:w.heap[kb]? = some (.cells #[.map (some cb)] 61 (0,0)):=hs.has (kb,_) (by simp)
  have hb:w.heap[cb]? = some (.map (B3 cm) cc):=hs.has (cb,_) (by simp)
  have hown:=own_map hm hks hl hb
  have hcell:w.cell? ⟨kb,0,none⟩=some (.map (some cb)):=by
    unfold World.cell?
    rw [hk]
    rfl
  have hseq:SeqGives Fence.wide 2 Tryz.prog 68 #[.pointer (some ⟨kb,0,none⟩)] encStr (fun ss=>ss.Perm (strKeys (datM Tryz.prog cm))) (Maps.size (datM Tryz.prog cm)) w :=
    AnyZ.keys_gives (ρ:=Tryz.keys41_ren) { Tryz.keys41 with } Fence.wide 2 trivial rfl (by omega) kb cb cm.length (datM Tryz.prog cm) w (Array.getElem?_eq_some_iff.1 hk).1 hcell hown
  have hc:=AnyZ.sorted_in Tryz.sorted40 Fence.wide 5 trivial trivial trivial trivial rfl (by omega) (sorts40 _) (enters_of Tryz.func40 (by kernel_rfl) rfl) 68 #[.pointer (some ⟨kb,0,none⟩)] trivial (enters_of Tryz.func68 (by kernel_rfl) rfl) _ (Maps.size (datM Tryz.prog cm)) (by rw [dat_size]; unfold maxLen; omega) (by rw [dat_size]; omega) w hseq
  refine (callsIn_wide.1 hc).mono fun e w' ⟨v,ss,h1,h2,h3,_,h5⟩=>?_
  have hp:ss.Perm ((cm.map Prod.fst).map fun s=>s.data.toList):=h2.trans (keys_dat hks)
  have hlen:ss.length=cm.length:=by rw [hp.length_eq,List.length_map,List.length_map]
  have hss:(ss.mergeSort fun x y=>decide (x≤y)).map encStr=Y5 (R1 (cm.map Prod.fst)):=by
    rw [strs_sort]
    exact congrArg (List.map encStr) (mergeSort_of_perm hp)
  rw [hss,hlen] at h3
  have hbel:Below W0.heap.size W0 w':=⟨h5.os.trans hs.below.os,h5.tape.trans hs.below.tape,h5.output.trans hs.below.output,Nat.le_trans hs.below.size h5.size,fun k hk=>by
    rw [h5.block k (Nat.lt_of_lt_of_le hk hs.below.size),hs.below.block k hk]⟩
  have hhas:∀ p,p∈([(kb,.cells #[.map (some cb)] 61 (0,0))]::[(cb,.map (B3 cm) cc)]::H:List Grp).flatten→w'.heap[p.1]? = some p.2:=fun p hp=>by
    have h0:=hs.has p hp
    rw [h5.block p.1 (Array.getElem?_eq_some_iff.1 h0).1,h0]
  obtain ⟨l1,⟨rfl,l2⟩ | ⟨g,cap,cur,rfl,g1,g2,g3,g4,g5,g6⟩⟩:=h3
  · exact ⟨_,_,h1,⟨[],⟨l1,.inl ⟨rfl,rfl,l2⟩⟩,rfl⟩,⟨hbel,by simpa using hs.nodup,fun p hp=>hhas p (by simpa using hp),fun p hp=>hs.high p (by simpa using hp)⟩⟩
  · have hcur:cur.toList=Y5 (R1 (cm.map Prod.fst))++cur.toList.drop (cm.length * 1):=by
      rw [← g6,List.take_append_drop]
    have hcur2:cur=(Y5 (R1 (cm.map Prod.fst))++cur.toList.drop (cm.length * 1)).toArray:=by
      rw [← hcur]
    refine ⟨_,_,h1,⟨[(g,.cells (Y5 (R1 (cm.map Prod.fst))++cur.toList.drop (cm.length * 1)).toArray 9 (0,0))],⟨l1,.inr ⟨g,cap,cur.toList.drop (cm.length * 1),rfl,rfl,g3,?_⟩⟩,rfl⟩,⟨hbel,?_,?_,?_⟩⟩
    · rw [← hcur,Array.length_toList,g5]
    · rw [List.flatten_cons,List.singleton_append,List.map_cons,List.nodup_cons]
      refine ⟨fun hin=>?_,hs.nodup⟩
      obtain ⟨p,hp,he⟩:=List.mem_map.1 hin
      have h0:=(Array.getElem?_eq_some_iff.1 (hs.has p hp)).1
      have he':p.1=g:=he
      omega
    · intro p hp
      rw [List.flatten_cons,List.singleton_append,List.mem_cons] at hp
      rcases hp with rfl | hp
      · show w'.heap[g]? = _
        rw [← hcur2]
        exact g2
      · exact hhas p hp
    · intro p hp
      rw [List.flatten_cons,List.singleton_append,List.mem_cons] at hp
      rcases hp with rfl | hp
      · exact Nat.le_trans hs.below.size g1
      · exact hs.high p hp
end Go.Vf
namespace Go.Vf
open Go.Sw Go.RowKit
structure BE where
  p:Nat
  an:Option Addr
  n:Nat
  cn:Nat
  ak:Option Addr
  m:Nat
  ck:Nat
instance:Inhabited BE:=⟨⟨0,none,0,0,none,0,0⟩⟩
def beO (b:BE):Nat × Obj:=(b.p,.cells #[.slice b.an b.n b.cn,.slice b.ak b.m b.ck] 72 (0,0))
def G4 (bs:List BE):Grp:=bs.map beO
theorem bodyG_at {bs:List BE} {k:Nat} (h:k<bs.length):(G4 bs)[k]? = some (beO (bs.getD k default)):=by
  unfold G4
  rw [List.getElem?_map,List.getElem?_eq_getElem h,List.getD_eq_getElem?_getD,List.getElem?_eq_getElem h]; rfl
theorem T3 (bs:List BE) (k:Nat) (b:BE):(G4 bs).set k (beO b)=G4 (bs.set k b):=by
  unfold G4; rw [List.map_set]
structure KS where
  l:List Int
  a:Option Addr
  c:Nat
def G5 (k:KS):KS:=⟨k.l.drop 1,if k.l=[] then k.a else I9 k.a k.c 1 1,if k.l=[] then k.c else k.c - 1⟩
def KsOk (S:Nat→Obj→Prop) (k:KS):Prop:=Rd S k.a (k.l.map (Value.int .i64))∧k.l.length≤k.c∧k.l.length≤1000000000∧∀ x∈k.l,-9223372036854775808≤x∧x≤9223372036854775807
theorem ksNext_ok {S:Nat→Obj→Prop} {k:KS} (h:KsOk S k):KsOk S (G5 k):=by
  obtain ⟨h1,h2,h3,h4⟩:=h
  obtain ⟨l,a,c⟩:=k
  cases l with
  | nil=>exact ⟨h1,h2,h3,h4⟩
  | cons x l =>
    simp only [List.length_cons] at h2 h3
    refine ⟨?_,?_,?_,fun y hy=>h4 y (List.mem_cons_of_mem _ hy)⟩
    · have:=h1.cut (cap:=c) (l:=1) (sz:=1) (m:=l.length) (by omega)
      have e:(((x::l).map (Value.int .i64)).drop (1 * 1)).take l.length=l.map (Value.int .i64):=by
        rw [Nat.mul_one,List.map_cons,List.drop_succ_cons,List.drop_zero,List.take_of_length_le (by simp)]
      rw [e] at this
      simpa [G5] using this
    · show l.length≤(if (x::l)=[] then c else c - 1)
      simp; omega
    · show l.length≤1000000000
      omega
def T2 (b:BE) (k:KS):BE × KS :=
  if (b.n:Int) - (b.m:Int) > 0 then
    (⟨b.p,I9 b.an b.cn (Int.toNat 0) 1,Int.toNat ((b.m:Int)+E3 (k.l.headD 0) ((b.n:Int) - (b.m:Int)+1)) - Int.toNat 0,b.cn - Int.toNat 0,
      I9 b.an b.cn (Int.toNat 0) 1,Int.toNat ((b.m:Int)+E3 (k.l.headD 0) ((b.n:Int) - (b.m:Int)+1)) - Int.toNat 0,b.cn - Int.toNat 0⟩,G5 k)
  else (⟨b.p,b.ak,b.m,b.ck,b.ak,b.m,b.ck⟩,k)
def stB (bs:List BE) (k:KS):Nat→List BE × KS
  | 0=>(bs,k)
  | j+1=>((stB bs k j).1.set j (T2 ((stB bs k j).1.getD j default) (stB bs k j).2).1,(T2 ((stB bs k j).1.getD j default) (stB bs k j).2).2)
theorem stB_len (bs:List BE) (k:KS):∀ j,(stB bs k j).1.length=bs.length
  | 0=>rfl
  | j+1=>by rw [stB,List.length_set,stB_len bs k j]
theorem stB_ok {S:Nat→Obj→Prop} {bs:List BE} {k:KS} (h:KsOk S k):∀ j,KsOk S (stB bs k j).2
  | 0=>h
  | j+1=>by
    have:=stB_ok (bs:=bs) h j
    rw [stB]
    unfold T2
    split
    · exact ksNext_ok this
    · exact this
theorem stB_at (bs:List BE) (k:KS):∀ (j i:Nat),j≤i→(stB bs k j).1.getD i default=bs.getD i default
  | 0,_,_=>rfl
  | j+1,i,h=>by
    rw [stB,List.getD_eq_getElem?_getD,List.getElem?_set_ne (by omega),← List.getD_eq_getElem?_getD]
    exact stB_at bs k j i (by omega)
structure RowC where
  a:Option Addr
  c:Nat
  qs:List Nat
  xs:List SM
  xcs:List Nat
structure RowOk (S:Nat→Obj→Prop) (W0:World) (H:List Grp) (cm:SM) (d:ByteArray) (r:RowC):Prop where
  get:R9 cm d=some (.slice r.a r.qs.length r.c)
  rd:Rd S r.a (r.qs.map fun q=>Value.map (some q))
  len:r.xs.length=r.qs.length
  le:r.qs.length≤1000000
  lec:r.qs.length≤r.c
  lay:∀ i,i<r.qs.length→At W0 H (r.qs.getD i 0) (.map (B3 (r.xs.getD i [])) (r.xcs.getD i 0))∧MapOk (r.xs.getD i []) (r.xcs.getD i 0)∧∀ e∈r.xs.getD i [],e.2.1=.pointer none∨∃ p,e.2.1=.pointer (some ⟨p,0,none⟩)
def keptN (r:RowC) (k:KS):Nat:=Int.toNat (E3 (k.l.headD 0) (((r.qs.length:Nat):Int)+1))
def CrashK (rows:ByteArray→RowC):List ByteArray→(SM × Nat) × KS→(SM × Nat) × KS→Prop
  | [],s,t=>t=s
  | d::r,s,t=>∃ s1,MadeOf ((rows d).xs.take (keptN (rows d) s.2)) s.1 s1∧CrashK rows r (s1,G5 s.2) t
theorem crashK_snoc {rows:ByteArray→RowC} {d:ByteArray} {s1:SM × Nat}:∀ {l:List ByteArray} {s t:(SM × Nat) × KS},CrashK rows l s t→MadeOf ((rows d).xs.take (keptN (rows d) t.2)) t.1 s1→CrashK rows (l++[d]) s (s1,G5 t.2)
  | [],s,t,h,hm=>by subst h; exact ⟨s1,hm,rfl⟩
  | _::_,_,_,⟨s2,h1,h2⟩,hm=>⟨s2,h1,crashK_snoc h2 hm⟩
theorem rd_cut0 {S:Nat→Obj→Prop} {a:Option Addr} {cs:List Value} {c m:Nat} (h:Rd S a cs) (hm:m≤cs.length) (hc:cs.length≤c):Rd S (I9 a c (Int.toNat 0) 1) (cs.take m):=by
  have:=h.cut (cap:=c) (l:=0) (sz:=1) (m:=m) (by omega)
  simpa using this
theorem map_take_at {qs:List Nat} {k m:Nat} (h:k<m) (hq:k<qs.length):((qs.map fun q=>Value.map (some q)).take m)[k]? = some (.map (some (qs.getD k 0))):=by
  rw [List.getElem?_take_of_lt h]; exact map_at hq
theorem ptr_at {bs:List BE} {k:Nat} (h:k<bs.length):(bs.map fun b=>Value.pointer (some ⟨b.p,0,none⟩))[k]? = some (.pointer (some ⟨(bs.getD k default).p,0,none⟩)):=by
  rw [List.getElem?_map,List.getElem?_eq_getElem h,List.getD_eq_getElem?_getD,List.getElem?_eq_getElem h]; rfl
theorem sort_mem {ws:List ByteArray} {i:Nat} (h:i<(R1 ws).length):(R1 ws).getD i default∈ws:=by
  rw [List.getD_eq_getElem?_getD,List.getElem?_eq_getElem h]
  exact (L8 ws).mem_iff.1 (List.getElem_mem h)
theorem stB_p (bs:List BE) (k:KS) (i:Nat):∀ j,((stB bs k j).1.getD i default).p=(bs.getD i default).p
  | 0=>rfl
  | j+1=>by
    rw [stB]
    by_cases h:i<(stB bs k j).1.length
    · by_cases hj:j=i
      · subst hj
        rw [List.getD_eq_getElem?_getD,List.getElem?_set_self h]
        unfold T2
        split <;> exact stB_p bs k j j
      · rw [List.getD_eq_getElem?_getD,List.getElem?_set_ne hj,← List.getD_eq_getElem?_getD]
        exact stB_p bs k i j
    · have h2:∀ l:List BE,l.length≤i→l.getD i default=default:=fun l hl=>by
        rw [List.getD_eq_getElem?_getD,List.getElem?_eq_none hl]; rfl
      have h3:=stB_p bs k i j
      rw [h2 _ (Nat.not_lt.1 h)] at h3
      rw [h2 _ (by rw [List.length_set]; omega)]
      exact h3
theorem Q4 {bs:List BE} {ks:KS} {j:Nat} (h:j<bs.length):(G4 (stB bs ks j).1)[j]? = some ((bs.getD j default).p,.cells #[.slice ((stB bs ks j).1.getD j default).an ((stB bs ks j).1.getD j default).n ((stB bs ks j).1.getD j default).cn,.slice ((stB bs ks j).1.getD j default).ak ((stB bs ks j).1.getD j default).m ((stB bs ks j).1.getD j default).ck] 72 (0,0)):=by
  rw [bodyG_at (by rw [stB_len]; exact h),beO,stB_p]
theorem getD_mem {bs:List BE} {j:Nat} (h:j<bs.length):bs.getD j default∈bs:=by
  rw [List.getD_eq_getElem?_getD,List.getElem?_eq_getElem h]
  exact List.getElem_mem h
theorem bodyG_at_set (l:List BE) (j:Nat) (e:BE) (h:j<l.length):(G4 (l.set j e))[j]? = some (e.p,.cells #[.slice e.an e.n e.cn,.slice e.ak e.m e.ck] 72 (0,0)):=by
  rw [bodyG_at (by rw [List.length_set]; exact h),List.getD_eq_getElem?_getD,List.getElem?_set_self h]; rfl
theorem stB_yes {bs:List BE} {ks:KS} {j:Nat} (h:(((stB bs ks j).1.getD j default).n:Int) - (((stB bs ks j).1.getD j default).m:Int) > 0) :
    stB bs ks (j+1)=((stB bs ks j).1.set j ⟨(bs.getD j default).p,I9 ((stB bs ks j).1.getD j default).an ((stB bs ks j).1.getD j default).cn 0 1,Int.toNat ((((stB bs ks j).1.getD j default).m:Int)+E3 ((stB bs ks j).2.l.headD 0) ((((stB bs ks j).1.getD j default).n:Int) - (((stB bs ks j).1.getD j default).m:Int)+1)) - 0,((stB bs ks j).1.getD j default).cn - 0,
      I9 ((stB bs ks j).1.getD j default).an ((stB bs ks j).1.getD j default).cn 0 1,Int.toNat ((((stB bs ks j).1.getD j default).m:Int)+E3 ((stB bs ks j).2.l.headD 0) ((((stB bs ks j).1.getD j default).n:Int) - (((stB bs ks j).1.getD j default).m:Int)+1)) - 0,((stB bs ks j).1.getD j default).cn - 0⟩,G5 (stB bs ks j).2):=by
  rw [stB]
  unfold T2
  rw [if_pos h,stB_p]
  rfl
theorem stB_no {bs:List BE} {ks:KS} {j:Nat} (h:¬ (((stB bs ks j).1.getD j default).n:Int) - (((stB bs ks j).1.getD j default).m:Int) > 0) :
    stB bs ks (j+1)=((stB bs ks j).1.set j ⟨(bs.getD j default).p,((stB bs ks j).1.getD j default).ak,((stB bs ks j).1.getD j default).m,((stB bs ks j).1.getD j default).ck,((stB bs ks j).1.getD j default).ak,((stB bs ks j).1.getD j default).m,((stB bs ks j).1.getD j default).ck⟩,(stB bs ks j).2):=by
  rw [stB]
  unfold T2
  rw [if_neg h,stB_p]
theorem take_ne {α:Type} {l:List α} {m:Nat} (h:0<m) (h2:0<l.length):l.take m≠[]:=by
  intro e
  have:=congrArg List.length e
  rw [List.length_take] at this
  simp only [List.length_nil] at this
  omega
end Go.Vf
namespace Go.Proofs.YtdolpaagdpeagaaGreatDoor
open Go.Sw Go.Lib Go.Vf Go.RowKit
theorem vNextA (kp:Nat) (k:KS) (n:Int) (hn:0<n∧n≤1000000000000) (S:Nat→Obj→Prop) (hk:KsOk S k) (W0:World) (H:List Grp) (hS:∀ y o,S y o→At W0 H y o) :
    Tri Tryz.prog 34 #[.int .i64 n,.pointer (some ⟨kp,0,none⟩)] W0 ([(kp,.cells #[.slice k.a k.l.length k.c] 42 (0,0))]::H) (fun v H'=>v=.int .i64 (E3 (k.l.headD 0) n)∧H'=[(kp,.cells #[.slice (G5 k).a (G5 k).l.length (G5 k).c] 42 (0,0))]::H):=by
  obtain ⟨h1,h2,h3,h4⟩:=hk
  obtain ⟨l,a,c⟩:=k
  cases l with
  | nil=>exact vNext0 kp c a n hn W0 H
  | cons x l=>exact vNext kp n hn a (l.length+1) c S x (h4 x List.mem_cons_self) l rfl h2 h3 h1 W0 H hS
theorem vKeys (cb:Nat) (W0:World) (H:List Grp):Tri Tryz.prog 36 #[.map (some cb)] W0 H (fun v H'=>∃ b,v=.func (.func 68) #[] #[.pointer (some ⟨b,0,none⟩)]∧H'=[(b,.cells #[.map (some cb)] 61 (0,0))]::H):=by
 refine D6 4 Tryz.func36 ?_
 refine A2 (A3 (O9 (.map (some cb)) (fun b1=>D5 (E':=[⟨1,[],pt b1⟩]) [0] [1] (k:=A1 (A2 (B9 (E':=[⟨2,[],.func (.func 68) #[] #[pt b1]⟩]) [0,0] [2] (k:=A1 (C8 ?_))))))))
 refine C5 [.tmp 2] [.func (.func 68) #[] #[pt b1]] (k:=?_)
 exact ⟨_,rfl,rfl⟩
set_option maxHeartbeats 2000000 in
theorem vCrash (d nb kb cb kc cc:Nat) (room calls:Int) (fails once:Bool) (km cm:SM) (bs:List BE) (ba:Option Addr) (bc:Nat) (ks:KS) (rows:ByteArray→RowC) (S:Nat→Obj→Prop) (hks:KsOk S ks) (hbl:bs.length≤1000000) (hbn:∀ b∈bs,b.n≤b.cn∧b.n≤1000000000∧b.m≤b.n) (hrb:Rd S ba (bs.map fun b=>Value.pointer (some ⟨b.p,0,none⟩))) (hkm:MapOk km kc) (hcm:MapOk cm cc) (hcs:∀ e∈cm,e.1.size≤9223372036854775807) (hcl:cm.length≤1000000000) (W0:World) (H:List Grp) (hS:∀ y o,S y o→At W0 H y o) (hrows:∀ d,d∈cm.map Prod.fst→RowOk S W0 H cm d (rows d)):Tri Tryz.prog 17 #[pt d,.slice ks.a ks.l.length ks.c] W0 ([(d,.cells #[.int .i64 room,.slice ba bs.length bc,.map (some nb),.map (some kb),.map (some cb),.bool fails,.bool once,.int .i64 calls] 64 (0,0))]::G4 bs::[(kb,.map (B3 km) kc)]::[(cb,.map (B3 cm) cc)]::H) (fun v H'=>v=.tuple #[]∧∃ b b2 km1 kc1 ks1,CrashK rows (R1 (cm.map Prod.fst)) ((km,kc),(stB bs ks bs.length).2) ((km1,kc1),ks1)∧H'=([(d,.cells #[.int .i64 room,.slice ba bs.length bc,.map (some b),.map (some kb),.map (some b2),.bool false,.bool once,.int .i64 calls] 64 (0,0))]::G4 (stB bs ks bs.length).1::[(kb,.map (B3 km1) kc1)]::[(b,.map (B3 km1) kc1)]::[(b2,.map (B3 ([])) 0)]::H)):=by
 refine D6 116 Tryz.func17 ?_
 refine A2 (A3 (O9 (.slice ks.a ks.l.length ks.c) (fun b1=>D5 (E':=[⟨0,[],pt d⟩,⟨3,[],pt b1⟩]) [] [0,3] (k:=A1 (A2 (A2 (G_p [0,0] [0,3,14] (k:=A1 ?_))))))))
 refine D9 kr (B6 (A1 (A2 (G_p [0,0] [0,4] (k:=A1 (A2 (A2 (A3 ?_))))))))
 refine A5 (j:=3) [0,0,0] (k:=D0 1 1 rfl rfl (B5 [0,0] [0,4,19,20,21] (k:=A1 (B8 (I6 (EI:=(fun ξ:Nat=>[⟨0,[],pt d⟩,⟨4,[],.func (.func 34) #[] #[pt b1]⟩,⟨19,[],.slice ba bs.length bc⟩,⟨20,[],.int .i64 ((bs.length:Nat):Int)⟩,⟨21,[],.int .i64 ((ξ:Nat):Int)⟩])) (HI:=(fun ξ:Nat=>([(b1,.cells #[.slice (stB bs ks ξ).2.a ((stB bs ks ξ).2.l.length) ((stB bs ks ξ).2.c)] 42 (0,0))]::[(d,.cells #[.int .i64 room,.slice ba bs.length bc,.map (some nb),.map (some kb),.map (some cb),.bool fails,.bool once,.int .i64 calls] 64 (0,0))]::G4 (stB bs ks ξ).1::[(kb,.map (B3 km) kc)]::[(cb,.map (B3 cm) cc)]::H))) (Φ:=(fun ξ:Nat=>(ξ≤bs.length))) (μ:=(fun ξ:Nat=>bs.length - ξ)) (s0:=(0)) [0,4,19,20,21] kr (by rfl) (by omega) ?_)))))
 rintro j hj
 refine A2 (G_p [0] [0,4,19,20,21,22] (k:=A1 (A2 (D2 (b:=decide (((j:Nat):Int)<((bs.length:Nat):Int))) kr (fun hc2=>?_) (fun hc2=>?_)))))
 ·
  replace hc2:=of_decide_eq_true hc2
  have hjl:j<bs.length:=by omega
  have hB:(stB bs ks j).1.getD j default=bs.getD j default:=stB_at bs ks j j (Nat.le_refl _)
  obtain ⟨hb1,hb2,hb3⟩:((stB bs ks j).1.getD j default).n≤((stB bs ks j).1.getD j default).cn∧((stB bs ks j).1.getD j default).n≤1000000000∧((stB bs ks j).1.getD j default).m≤((stB bs ks j).1.getD j default).n:=by (rw [hB]; exact hbn _ (getD_mem hjl))
  refine B6 (A1 (A2 (B8 (A2 (A3 (L2 bs.length ((j:Nat):Int) 1 hrb (by exact ⟨by omega,by omega,by (intro h; have h2:=congrArg List.length h; rw [List.length_map] at h2; exact absurd h2 (by show ¬ bs.length=0; omega))⟩) (O3 (j * 1) (pt ((bs.getD j default).p)) hrb (fun y o h=>(At.cons (At.cons (At.cons (At.cons (At.cons (hS y o h))))))) (fun _=>(by rw [Nat.mul_one]; exact ptr_at (by omega))) (B5 [0] [0,4,6,19,20,21] (k:=?_)))))))))
  refine A1 (A2 (A2 (K0 (k:=A5 (j:=3) [0,0,0] (k:=F9 (ch:=[]) (b:=(bs.getD j default).p) (off:=0) (v:=.slice ((stB bs ks j).1.getD j default).an (((stB bs ks j).1.getD j default).n) (((stB bs ks j).1.getD j default).cn)) (hA:=At.grp 2 j rfl (Q4 hjl)) (k:=A5 (j:=8) [0,0,0,0] (k:=F9 (ch:=[]) (b:=(bs.getD j default).p) (off:=1) (v:=.slice ((stB bs ks j).1.getD j default).ak (((stB bs ks j).1.getD j default).m) (((stB bs ks j).1.getD j default).ck)) (hA:=At.grp 2 j rfl (Q4 hjl)) (k:=A5 (j:=11) [0,0] (k:=?_)))))))))
  refine F0 35 (((((stB bs ks j).1.getD j default).n:Nat):Int) - ((((stB bs ks j).1.getD j default).m:Nat):Int)) (by omega) (by omega) kr (B5 [0] [0,4,6,7,19,20,21] (k:=A1 (A2 (G_p [0,0] [0,4,6,7,19,20,21,37] (k:=A1 (D2 (b:=decide ((((((stB bs ks j).1.getD j default).n:Nat):Int) - ((((stB bs ks j).1.getD j default).m:Nat):Int)) > 0)) kr (fun hc4=>?_) (fun hc4=>?_)))))))
  ·
   replace hc4:=of_decide_eq_true hc4
   refine G_join (T:=Unit) (fun _=>[⟨0,[],pt d⟩,⟨4,[],.func (.func 34) #[] #[pt b1]⟩,⟨6,[],pt ((bs.getD j default).p)⟩,⟨19,[],.slice ba bs.length bc⟩,⟨20,[],.int .i64 ((bs.length:Nat):Int)⟩,⟨21,[],.int .i64 ((j:Nat):Int)⟩]) (fun _=>([(b1,.cells #[.slice (G5 (stB bs ks j).2).a ((G5 (stB bs ks j).2).l.length) ((G5 (stB bs ks j).2).c)] 42 (0,0))]::[(d,.cells #[.int .i64 room,.slice ba bs.length bc,.map (some nb),.map (some kb),.map (some cb),.bool fails,.bool once,.int .i64 calls] 64 (0,0))]::G4 ((stB bs ks j).1.set j ⟨(bs.getD j default).p,((stB bs ks j).1.getD j default).an,((stB bs ks j).1.getD j default).n,((stB bs ks j).1.getD j default).cn,(I9 ((stB bs ks j).1.getD j default).an (((stB bs ks j).1.getD j default).cn) 0 1),(Int.toNat (((((stB bs ks j).1.getD j default).m:Nat):Int)+(E3 ((stB bs ks j).2.l.headD 0) ((((((stB bs ks j).1.getD j default).n:Nat):Int) - ((((stB bs ks j).1.getD j default).m:Nat):Int))+1)))) - 0,((stB bs ks j).1.getD j default).cn - 0⟩)::[(kb,.map (B3 km) kc)]::[(cb,.map (B3 cm) cc)]::H)) (fun _=>True) ?_ ?_
   ·
    refine F4 ([(d,.cells #[.int .i64 room,.slice ba bs.length bc,.map (some nb),.map (some kb),.map (some cb),.bool fails,.bool once,.int .i64 calls] 64 (0,0))]::[(kb,.map (B3 km) kc)]::[(cb,.map (B3 cm) cc)]::H) kr (E2 (fuel:=17) [(0,0),(1,0)] (fun w h=>(h.pk 2 [1,2,2])) (k:=P0 (ad:=⟨(bs.getD j default).p,0,none⟩) 2 (hL:=(fun w h=>(h.pk 2 [1,2,2]))) (k:=E2 (fuel:=14) [(3,0),(5,0)] (fun w h=>(h.pk 2 [1,2,2])) (k:=P0 (ad:=⟨(bs.getD j default).p,0,none⟩) 6 (hL:=(fun w h=>(h.pk 2 [1,2,2]))) (k:=E2 (fuel:=9) [(7,0),(10,0),(11,0),(12,0)] (fun w h=>(h.pk 2 [1,2,2])) (k:=Y2 50 ((((((stB bs ks j).1.getD j default).n:Nat):Int) - ((((stB bs ks j).1.getD j default).m:Nat):Int))+1) (by omega) (by omega) kr (GH_eff3 4 8 13 (k:=?_) (k':=?_) (k2:=?_))))))))
    ·
     refine F9 (ch:=[]) (b:=(bs.getD j default).p) (off:=0) (v:=.slice ((stB bs ks j).1.getD j default).an (((stB bs ks j).1.getD j default).n) (((stB bs ks j).1.getD j default).cn)) (hA:=At.grp 2 j rfl (Q4 hjl)) (k:=A7 kr (fun w h=>(h.pk 2 [1,2,2])) (P4 8 13 (k:=?_) (k':=?_)))
     ·
      refine F9 (ch:=[]) (b:=(bs.getD j default).p) (off:=1) (v:=.slice ((stB bs ks j).1.getD j default).ak (((stB bs ks j).1.getD j default).m) (((stB bs ks j).1.getD j default).ck)) (hA:=At.grp 2 j rfl (Q4 hjl)) (k:=A7 kr (fun w h=>(h.pk 2 [1,2,2])) (GH_pev (v:=.int .i64 ((((stB bs ks j).1.getD j default).m:Nat):Int)) 9 (hL:=(fun w h=>(h.pk 2 [1,2,2]))) (k:=C2 13 (k:=I3 (ch:=[]) (f:=34) (fst:=#[]) (caps:=#[pt b1]) (vs:=[.int .i64 ((((((stB bs ks j).1.getD j default).n:Nat):Int) - ((((stB bs ks j).1.getD j default).m:Nat):Int))+1)]) (hf:=Tryz.func34) (hsure:=G0 kr) (hc:=vNextA b1 (stB bs ks j).2 ((((((stB bs ks j).1.getD j default).n:Nat):Int) - ((((stB bs ks j).1.getD j default).m:Nat):Int))+1) (by omega) S (stB_ok hks j) _ _ (fun y o h=>(At.cons (At.cons (At.cons (At.cons (hS y o h))))))) (k:=?_)))))
      rintro v H' ⟨rfl,rfl⟩
      have hnx:=A0h (k:=(stB bs ks j).2.l.headD 0) (n:=(((((stB bs ks j).1.getD j default).n:Nat):Int) - ((((stB bs ks j).1.getD j default).m:Nat):Int))+1) (by omega)
      refine A7 kr (fun w h=>(h.pk 2 [1,2,2])) (E2 (fuel:=4) [(14,0)] (fun w h=>(h.pk 2 [1,2,2])) (k:=Y2 52 (((((stB bs ks j).1.getD j default).m:Nat):Int)+(E3 ((stB bs ks j).2.l.headD 0) ((((((stB bs ks j).1.getD j default).n:Nat):Int) - ((((stB bs ks j).1.getD j default).m:Nat):Int))+1))) (by omega) (by omega) kr (A9 15 (hL:=(fun w h=>(h.pk 2 [1,2,2]))) (hy:=O2 (i:=15) (ch:=[]) (a:=((stB bs ks j).1.getD j default).an) (len:=((stB bs ks j).1.getD j default).n) (cap:=((stB bs ks j).1.getD j default).cn) (e:=5) (sz:=1) (vl:=none) (vh:=(some (.int .i64 (((((stB bs ks j).1.getD j default).m:Nat):Int)+(E3 ((stB bs ks j).2.l.headD 0) ((((((stB bs ks j).1.getD j default).n:Nat):Int) - ((((stB bs ks j).1.getD j default).m:Nat):Int))+1)))))) (l:=0) (h:=((((stB bs ks j).1.getD j default).m:Nat):Int)+(E3 ((stB bs ks j).2.l.headD 0) ((((((stB bs ks j).1.getD j default).n:Nat):Int) - ((((stB bs ks j).1.getD j default).m:Nat):Int))+1))) (hb:=(fun _=>by omega)) (k:=B4 kr rfl)) (k:=P0 (ad:=⟨(bs.getD j default).p,0,none⟩) 16 (hL:=(fun w h=>(h.pk 2 [1,2,2]))) (k:=E2 (fuel:=1) [(17,0)] (fun w h=>(h.pk 2 [1,2,2])) (k:=C2 18 (k:=J8 (ch:=[]) (b:=(bs.getD j default).p) (off:=1) (v:=.slice (I9 ((stB bs ks j).1.getD j default).an (((stB bs ks j).1.getD j default).cn) 0 1) ((Int.toNat (((((stB bs ks j).1.getD j default).m:Nat):Int)+(E3 ((stB bs ks j).2.l.headD 0) ((((((stB bs ks j).1.getD j default).n:Nat):Int) - ((((stB bs ks j).1.getD j default).m:Nat):Int))+1)))) - 0) (((stB bs ks j).1.getD j default).cn - 0)) (c:=#[.slice ((stB bs ks j).1.getD j default).an (((stB bs ks j).1.getD j default).n) (((stB bs ks j).1.getD j default).cn),.slice ((stB bs ks j).1.getD j default).ak (((stB bs ks j).1.getD j default).m) (((stB bs ks j).1.getD j default).ck)]) (c':=#[.slice ((stB bs ks j).1.getD j default).an (((stB bs ks j).1.getD j default).n) (((stB bs ks j).1.getD j default).cn),.slice (I9 ((stB bs ks j).1.getD j default).an (((stB bs ks j).1.getD j default).cn) 0 1) ((Int.toNat (((((stB bs ks j).1.getD j default).m:Nat):Int)+(E3 ((stB bs ks j).2.l.headD 0) ((((((stB bs ks j).1.getD j default).n:Nat):Int) - ((((stB bs ks j).1.getD j default).m:Nat):Int))+1)))) - 0) (((stB bs ks j).1.getD j default).cn - 0)]) (j:=2) (m:=j) (H':=([(b1,.cells #[.slice (G5 (stB bs ks j).2).a ((G5 (stB bs ks j).2).l.length) ((G5 (stB bs ks j).2).c)] 42 (0,0))]::[(d,.cells #[.int .i64 room,.slice ba bs.length bc,.map (some nb),.map (some kb),.map (some cb),.bool fails,.bool once,.int .i64 calls] 64 (0,0))]::G4 ((stB bs ks j).1.set j ⟨(bs.getD j default).p,((stB bs ks j).1.getD j default).an,((stB bs ks j).1.getD j default).n,((stB bs ks j).1.getD j default).cn,(I9 ((stB bs ks j).1.getD j default).an (((stB bs ks j).1.getD j default).cn) 0 1),(Int.toNat (((((stB bs ks j).1.getD j default).m:Nat):Int)+(E3 ((stB bs ks j).2.l.headD 0) ((((((stB bs ks j).1.getD j default).n:Nat):Int) - ((((stB bs ks j).1.getD j default).m:Nat):Int))+1)))) - 0,((stB bs ks j).1.getD j default).cn - 0⟩)::[(kb,.map (B3 km) kc)]::[(cb,.map (B3 cm) cc)]::H)) (hi:=Q4 hjl) (hoff:=Nat.le_of_ble_eq_true rfl) (hfz:=(fun _ _=>P5)) (hH':=congrArg (List.set ([(b1,.cells #[.slice (G5 (stB bs ks j).2).a ((G5 (stB bs ks j).2).l.length) ((G5 (stB bs ks j).2).c)] 42 (0,0))]::[(d,.cells #[.int .i64 room,.slice ba bs.length bc,.map (some nb),.map (some kb),.map (some cb),.bool fails,.bool once,.int .i64 calls] 64 (0,0))]::G4 (stB bs ks j).1::[(kb,.map (B3 km) kc)]::[(cb,.map (B3 cm) cc)]::H) 2) (T3 (stB bs ks j).1 j ⟨(bs.getD j default).p,((stB bs ks j).1.getD j default).an,((stB bs ks j).1.getD j default).n,((stB bs ks j).1.getD j default).cn,(I9 ((stB bs ks j).1.getD j default).an (((stB bs ks j).1.getD j default).cn) 0 1),(Int.toNat (((((stB bs ks j).1.getD j default).m:Nat):Int)+(E3 ((stB bs ks j).2.l.headD 0) ((((((stB bs ks j).1.getD j default).n:Nat):Int) - ((((stB bs ks j).1.getD j default).m:Nat):Int))+1)))) - 0,((stB bs ks j).1.getD j default).cn - 0⟩)) (k:=A7 kr (fun w h=>(h.pk 2 [1,2,2])) ?_))))))))
      refine D8 (E':=[⟨0,[],pt d⟩,⟨4,[],.func (.func 34) #[] #[pt b1]⟩,⟨6,[],pt ((bs.getD j default).p)⟩,⟨19,[],.slice ba bs.length bc⟩,⟨20,[],.int .i64 ((bs.length:Nat):Int)⟩,⟨21,[],.int .i64 ((j:Nat):Int)⟩]) [0,4,6,19,20,21] (k:=T4 () [0,4,6,19,20,21] kr (fun w h=>h) trivial)
     ·
      refine I3 (ch:=[]) (f:=34) (fst:=#[]) (caps:=#[pt b1]) (vs:=[.int .i64 ((((((stB bs ks j).1.getD j default).n:Nat):Int) - ((((stB bs ks j).1.getD j default).m:Nat):Int))+1)]) (hf:=Tryz.func34) (hsure:=G0 kr) (hc:=vNextA b1 (stB bs ks j).2 ((((((stB bs ks j).1.getD j default).n:Nat):Int) - ((((stB bs ks j).1.getD j default).m:Nat):Int))+1) (by omega) S (stB_ok hks j) _ _ (fun y o h=>(At.cons (At.cons (At.cons (At.cons (hS y o h))))))) (k:=?_)
      rintro v H' ⟨rfl,rfl⟩
      have hnx:=A0h (k:=(stB bs ks j).2.l.headD 0) (n:=(((((stB bs ks j).1.getD j default).n:Nat):Int) - ((((stB bs ks j).1.getD j default).m:Nat):Int))+1) (by omega)
      refine A7 kr (fun w h=>(h.pk 2 [1,2,2])) (C2 8 (k:=F9 (ch:=[]) (b:=(bs.getD j default).p) (off:=1) (v:=.slice ((stB bs ks j).1.getD j default).ak (((stB bs ks j).1.getD j default).m) (((stB bs ks j).1.getD j default).ck)) (hA:=At.grp 2 j rfl (Q4 hjl)) (k:=A7 kr (fun w h=>(h.pk 2 [1,2,2])) (GH_pev (v:=.int .i64 ((((stB bs ks j).1.getD j default).m:Nat):Int)) 9 (hL:=(fun w h=>(h.pk 2 [1,2,2]))) (k:=E2 (fuel:=4) [(14,0)] (fun w h=>(h.pk 2 [1,2,2])) (k:=Y2 52 (((((stB bs ks j).1.getD j default).m:Nat):Int)+(E3 ((stB bs ks j).2.l.headD 0) ((((((stB bs ks j).1.getD j default).n:Nat):Int) - ((((stB bs ks j).1.getD j default).m:Nat):Int))+1))) (by omega) (by omega) kr (A9 15 (hL:=(fun w h=>(h.pk 2 [1,2,2]))) (hy:=O2 (i:=15) (ch:=[]) (a:=((stB bs ks j).1.getD j default).an) (len:=((stB bs ks j).1.getD j default).n) (cap:=((stB bs ks j).1.getD j default).cn) (e:=5) (sz:=1) (vl:=none) (vh:=(some (.int .i64 (((((stB bs ks j).1.getD j default).m:Nat):Int)+(E3 ((stB bs ks j).2.l.headD 0) ((((((stB bs ks j).1.getD j default).n:Nat):Int) - ((((stB bs ks j).1.getD j default).m:Nat):Int))+1)))))) (l:=0) (h:=((((stB bs ks j).1.getD j default).m:Nat):Int)+(E3 ((stB bs ks j).2.l.headD 0) ((((((stB bs ks j).1.getD j default).n:Nat):Int) - ((((stB bs ks j).1.getD j default).m:Nat):Int))+1))) (hb:=(fun _=>by omega)) (k:=B4 kr rfl)) (k:=P0 (ad:=⟨(bs.getD j default).p,0,none⟩) 16 (hL:=(fun w h=>(h.pk 2 [1,2,2]))) (k:=?_)))))))))
      refine E2 (fuel:=1) [(17,0)] (fun w h=>(h.pk 2 [1,2,2])) (k:=C2 18 (k:=J8 (ch:=[]) (b:=(bs.getD j default).p) (off:=1) (v:=.slice (I9 ((stB bs ks j).1.getD j default).an (((stB bs ks j).1.getD j default).cn) 0 1) ((Int.toNat (((((stB bs ks j).1.getD j default).m:Nat):Int)+(E3 ((stB bs ks j).2.l.headD 0) ((((((stB bs ks j).1.getD j default).n:Nat):Int) - ((((stB bs ks j).1.getD j default).m:Nat):Int))+1)))) - 0) (((stB bs ks j).1.getD j default).cn - 0)) (c:=#[.slice ((stB bs ks j).1.getD j default).an (((stB bs ks j).1.getD j default).n) (((stB bs ks j).1.getD j default).cn),.slice ((stB bs ks j).1.getD j default).ak (((stB bs ks j).1.getD j default).m) (((stB bs ks j).1.getD j default).ck)]) (c':=#[.slice ((stB bs ks j).1.getD j default).an (((stB bs ks j).1.getD j default).n) (((stB bs ks j).1.getD j default).cn),.slice (I9 ((stB bs ks j).1.getD j default).an (((stB bs ks j).1.getD j default).cn) 0 1) ((Int.toNat (((((stB bs ks j).1.getD j default).m:Nat):Int)+(E3 ((stB bs ks j).2.l.headD 0) ((((((stB bs ks j).1.getD j default).n:Nat):Int) - ((((stB bs ks j).1.getD j default).m:Nat):Int))+1)))) - 0) (((stB bs ks j).1.getD j default).cn - 0)]) (j:=2) (m:=j) (H':=([(b1,.cells #[.slice (G5 (stB bs ks j).2).a ((G5 (stB bs ks j).2).l.length) ((G5 (stB bs ks j).2).c)] 42 (0,0))]::[(d,.cells #[.int .i64 room,.slice ba bs.length bc,.map (some nb),.map (some kb),.map (some cb),.bool fails,.bool once,.int .i64 calls] 64 (0,0))]::G4 ((stB bs ks j).1.set j ⟨(bs.getD j default).p,((stB bs ks j).1.getD j default).an,((stB bs ks j).1.getD j default).n,((stB bs ks j).1.getD j default).cn,(I9 ((stB bs ks j).1.getD j default).an (((stB bs ks j).1.getD j default).cn) 0 1),(Int.toNat (((((stB bs ks j).1.getD j default).m:Nat):Int)+(E3 ((stB bs ks j).2.l.headD 0) ((((((stB bs ks j).1.getD j default).n:Nat):Int) - ((((stB bs ks j).1.getD j default).m:Nat):Int))+1)))) - 0,((stB bs ks j).1.getD j default).cn - 0⟩)::[(kb,.map (B3 km) kc)]::[(cb,.map (B3 cm) cc)]::H)) (hi:=Q4 hjl) (hoff:=Nat.le_of_ble_eq_true rfl) (hfz:=(fun _ _=>P5)) (hH':=congrArg (List.set ([(b1,.cells #[.slice (G5 (stB bs ks j).2).a ((G5 (stB bs ks j).2).l.length) ((G5 (stB bs ks j).2).c)] 42 (0,0))]::[(d,.cells #[.int .i64 room,.slice ba bs.length bc,.map (some nb),.map (some kb),.map (some cb),.bool fails,.bool once,.int .i64 calls] 64 (0,0))]::G4 (stB bs ks j).1::[(kb,.map (B3 km) kc)]::[(cb,.map (B3 cm) cc)]::H) 2) (T3 (stB bs ks j).1 j ⟨(bs.getD j default).p,((stB bs ks j).1.getD j default).an,((stB bs ks j).1.getD j default).n,((stB bs ks j).1.getD j default).cn,(I9 ((stB bs ks j).1.getD j default).an (((stB bs ks j).1.getD j default).cn) 0 1),(Int.toNat (((((stB bs ks j).1.getD j default).m:Nat):Int)+(E3 ((stB bs ks j).2.l.headD 0) ((((((stB bs ks j).1.getD j default).n:Nat):Int) - ((((stB bs ks j).1.getD j default).m:Nat):Int))+1)))) - 0,((stB bs ks j).1.getD j default).cn - 0⟩)) (k:=A7 kr (fun w h=>(h.pk 2 [1,2,2])) (D8 (E':=[⟨0,[],pt d⟩,⟨4,[],.func (.func 34) #[] #[pt b1]⟩,⟨6,[],pt ((bs.getD j default).p)⟩,⟨19,[],.slice ba bs.length bc⟩,⟨20,[],.int .i64 ((bs.length:Nat):Int)⟩,⟨21,[],.int .i64 ((j:Nat):Int)⟩]) [0,4,6,19,20,21] (k:=T4 () [0,4,6,19,20,21] kr (fun w h=>h) trivial)))))
    ·
     refine F9 (ch:=[]) (b:=(bs.getD j default).p) (off:=1) (v:=.slice ((stB bs ks j).1.getD j default).ak (((stB bs ks j).1.getD j default).m) (((stB bs ks j).1.getD j default).ck)) (hA:=At.grp 2 j rfl (Q4 hjl)) (k:=A7 kr (fun w h=>(h.pk 2 [1,2,2])) (GH_pev (v:=.int .i64 ((((stB bs ks j).1.getD j default).m:Nat):Int)) 9 (hL:=(fun w h=>(h.pk 2 [1,2,2]))) (k:=P4 4 13 (k:=?_) (k':=?_))))
     ·
      refine F9 (ch:=[]) (b:=(bs.getD j default).p) (off:=0) (v:=.slice ((stB bs ks j).1.getD j default).an (((stB bs ks j).1.getD j default).n) (((stB bs ks j).1.getD j default).cn)) (hA:=At.grp 2 j rfl (Q4 hjl)) (k:=A7 kr (fun w h=>(h.pk 2 [1,2,2])) (C2 13 (k:=I3 (ch:=[]) (f:=34) (fst:=#[]) (caps:=#[pt b1]) (vs:=[.int .i64 ((((((stB bs ks j).1.getD j default).n:Nat):Int) - ((((stB bs ks j).1.getD j default).m:Nat):Int))+1)]) (hf:=Tryz.func34) (hsure:=G0 kr) (hc:=vNextA b1 (stB bs ks j).2 ((((((stB bs ks j).1.getD j default).n:Nat):Int) - ((((stB bs ks j).1.getD j default).m:Nat):Int))+1) (by omega) S (stB_ok hks j) _ _ (fun y o h=>(At.cons (At.cons (At.cons (At.cons (hS y o h))))))) (k:=?_))))
      rintro v H' ⟨rfl,rfl⟩
      have hnx:=A0h (k:=(stB bs ks j).2.l.headD 0) (n:=(((((stB bs ks j).1.getD j default).n:Nat):Int) - ((((stB bs ks j).1.getD j default).m:Nat):Int))+1) (by omega)
      refine A7 kr (fun w h=>(h.pk 2 [1,2,2])) (E2 (fuel:=4) [(14,0)] (fun w h=>(h.pk 2 [1,2,2])) (k:=Y2 52 (((((stB bs ks j).1.getD j default).m:Nat):Int)+(E3 ((stB bs ks j).2.l.headD 0) ((((((stB bs ks j).1.getD j default).n:Nat):Int) - ((((stB bs ks j).1.getD j default).m:Nat):Int))+1))) (by omega) (by omega) kr (A9 15 (hL:=(fun w h=>(h.pk 2 [1,2,2]))) (hy:=O2 (i:=15) (ch:=[]) (a:=((stB bs ks j).1.getD j default).an) (len:=((stB bs ks j).1.getD j default).n) (cap:=((stB bs ks j).1.getD j default).cn) (e:=5) (sz:=1) (vl:=none) (vh:=(some (.int .i64 (((((stB bs ks j).1.getD j default).m:Nat):Int)+(E3 ((stB bs ks j).2.l.headD 0) ((((((stB bs ks j).1.getD j default).n:Nat):Int) - ((((stB bs ks j).1.getD j default).m:Nat):Int))+1)))))) (l:=0) (h:=((((stB bs ks j).1.getD j default).m:Nat):Int)+(E3 ((stB bs ks j).2.l.headD 0) ((((((stB bs ks j).1.getD j default).n:Nat):Int) - ((((stB bs ks j).1.getD j default).m:Nat):Int))+1))) (hb:=(fun _=>by omega)) (k:=B4 kr rfl)) (k:=P0 (ad:=⟨(bs.getD j default).p,0,none⟩) 16 (hL:=(fun w h=>(h.pk 2 [1,2,2]))) (k:=E2 (fuel:=1) [(17,0)] (fun w h=>(h.pk 2 [1,2,2])) (k:=C2 18 (k:=J8 (ch:=[]) (b:=(bs.getD j default).p) (off:=1) (v:=.slice (I9 ((stB bs ks j).1.getD j default).an (((stB bs ks j).1.getD j default).cn) 0 1) ((Int.toNat (((((stB bs ks j).1.getD j default).m:Nat):Int)+(E3 ((stB bs ks j).2.l.headD 0) ((((((stB bs ks j).1.getD j default).n:Nat):Int) - ((((stB bs ks j).1.getD j default).m:Nat):Int))+1)))) - 0) (((stB bs ks j).1.getD j default).cn - 0)) (c:=#[.slice ((stB bs ks j).1.getD j default).an (((stB bs ks j).1.getD j default).n) (((stB bs ks j).1.getD j default).cn),.slice ((stB bs ks j).1.getD j default).ak (((stB bs ks j).1.getD j default).m) (((stB bs ks j).1.getD j default).ck)]) (c':=#[.slice ((stB bs ks j).1.getD j default).an (((stB bs ks j).1.getD j default).n) (((stB bs ks j).1.getD j default).cn),.slice (I9 ((stB bs ks j).1.getD j default).an (((stB bs ks j).1.getD j default).cn) 0 1) ((Int.toNat (((((stB bs ks j).1.getD j default).m:Nat):Int)+(E3 ((stB bs ks j).2.l.headD 0) ((((((stB bs ks j).1.getD j default).n:Nat):Int) - ((((stB bs ks j).1.getD j default).m:Nat):Int))+1)))) - 0) (((stB bs ks j).1.getD j default).cn - 0)]) (j:=2) (m:=j) (H':=([(b1,.cells #[.slice (G5 (stB bs ks j).2).a ((G5 (stB bs ks j).2).l.length) ((G5 (stB bs ks j).2).c)] 42 (0,0))]::[(d,.cells #[.int .i64 room,.slice ba bs.length bc,.map (some nb),.map (some kb),.map (some cb),.bool fails,.bool once,.int .i64 calls] 64 (0,0))]::G4 ((stB bs ks j).1.set j ⟨(bs.getD j default).p,((stB bs ks j).1.getD j default).an,((stB bs ks j).1.getD j default).n,((stB bs ks j).1.getD j default).cn,(I9 ((stB bs ks j).1.getD j default).an (((stB bs ks j).1.getD j default).cn) 0 1),(Int.toNat (((((stB bs ks j).1.getD j default).m:Nat):Int)+(E3 ((stB bs ks j).2.l.headD 0) ((((((stB bs ks j).1.getD j default).n:Nat):Int) - ((((stB bs ks j).1.getD j default).m:Nat):Int))+1)))) - 0,((stB bs ks j).1.getD j default).cn - 0⟩)::[(kb,.map (B3 km) kc)]::[(cb,.map (B3 cm) cc)]::H)) (hi:=Q4 hjl) (hoff:=Nat.le_of_ble_eq_true rfl) (hfz:=(fun _ _=>P5)) (hH':=congrArg (List.set ([(b1,.cells #[.slice (G5 (stB bs ks j).2).a ((G5 (stB bs ks j).2).l.length) ((G5 (stB bs ks j).2).c)] 42 (0,0))]::[(d,.cells #[.int .i64 room,.slice ba bs.length bc,.map (some nb),.map (some kb),.map (some cb),.bool fails,.bool once,.int .i64 calls] 64 (0,0))]::G4 (stB bs ks j).1::[(kb,.map (B3 km) kc)]::[(cb,.map (B3 cm) cc)]::H) 2) (T3 (stB bs ks j).1 j ⟨(bs.getD j default).p,((stB bs ks j).1.getD j default).an,((stB bs ks j).1.getD j default).n,((stB bs ks j).1.getD j default).cn,(I9 ((stB bs ks j).1.getD j default).an (((stB bs ks j).1.getD j default).cn) 0 1),(Int.toNat (((((stB bs ks j).1.getD j default).m:Nat):Int)+(E3 ((stB bs ks j).2.l.headD 0) ((((((stB bs ks j).1.getD j default).n:Nat):Int) - ((((stB bs ks j).1.getD j default).m:Nat):Int))+1)))) - 0,((stB bs ks j).1.getD j default).cn - 0⟩)) (k:=A7 kr (fun w h=>(h.pk 2 [1,2,2])) ?_))))))))
      refine D8 (E':=[⟨0,[],pt d⟩,⟨4,[],.func (.func 34) #[] #[pt b1]⟩,⟨6,[],pt ((bs.getD j default).p)⟩,⟨19,[],.slice ba bs.length bc⟩,⟨20,[],.int .i64 ((bs.length:Nat):Int)⟩,⟨21,[],.int .i64 ((j:Nat):Int)⟩]) [0,4,6,19,20,21] (k:=T4 () [0,4,6,19,20,21] kr (fun w h=>h) trivial)
     ·
      refine I3 (ch:=[]) (f:=34) (fst:=#[]) (caps:=#[pt b1]) (vs:=[.int .i64 ((((((stB bs ks j).1.getD j default).n:Nat):Int) - ((((stB bs ks j).1.getD j default).m:Nat):Int))+1)]) (hf:=Tryz.func34) (hsure:=G0 kr) (hc:=vNextA b1 (stB bs ks j).2 ((((((stB bs ks j).1.getD j default).n:Nat):Int) - ((((stB bs ks j).1.getD j default).m:Nat):Int))+1) (by omega) S (stB_ok hks j) _ _ (fun y o h=>(At.cons (At.cons (At.cons (At.cons (hS y o h))))))) (k:=?_)
      rintro v H' ⟨rfl,rfl⟩
      have hnx:=A0h (k:=(stB bs ks j).2.l.headD 0) (n:=(((((stB bs ks j).1.getD j default).n:Nat):Int) - ((((stB bs ks j).1.getD j default).m:Nat):Int))+1) (by omega)
      refine A7 kr (fun w h=>(h.pk 2 [1,2,2])) (E2 (fuel:=5) [(14,0)] (fun w h=>(h.pk 2 [1,2,2])) (k:=Y2 52 (((((stB bs ks j).1.getD j default).m:Nat):Int)+(E3 ((stB bs ks j).2.l.headD 0) ((((((stB bs ks j).1.getD j default).n:Nat):Int) - ((((stB bs ks j).1.getD j default).m:Nat):Int))+1))) (by omega) (by omega) kr (C2 4 (k:=F9 (ch:=[]) (b:=(bs.getD j default).p) (off:=0) (v:=.slice ((stB bs ks j).1.getD j default).an (((stB bs ks j).1.getD j default).n) (((stB bs ks j).1.getD j default).cn)) (hA:=At.grp 2 j rfl (Q4 hjl)) (k:=A7 kr (fun w h=>(h.pk 2 [1,2,2])) (A9 15 (hL:=(fun w h=>(h.pk 2 [1,2,2]))) (hy:=O2 (i:=15) (ch:=[]) (a:=((stB bs ks j).1.getD j default).an) (len:=((stB bs ks j).1.getD j default).n) (cap:=((stB bs ks j).1.getD j default).cn) (e:=5) (sz:=1) (vl:=none) (vh:=(some (.int .i64 (((((stB bs ks j).1.getD j default).m:Nat):Int)+(E3 ((stB bs ks j).2.l.headD 0) ((((((stB bs ks j).1.getD j default).n:Nat):Int) - ((((stB bs ks j).1.getD j default).m:Nat):Int))+1)))))) (l:=0) (h:=((((stB bs ks j).1.getD j default).m:Nat):Int)+(E3 ((stB bs ks j).2.l.headD 0) ((((((stB bs ks j).1.getD j default).n:Nat):Int) - ((((stB bs ks j).1.getD j default).m:Nat):Int))+1))) (hb:=(fun _=>by omega)) (k:=B4 kr rfl)) (k:=P0 (ad:=⟨(bs.getD j default).p,0,none⟩) 16 (hL:=(fun w h=>(h.pk 2 [1,2,2]))) (k:=E2 (fuel:=1) [(17,0)] (fun w h=>(h.pk 2 [1,2,2])) (k:=?_)))))))))
      refine C2 18 (k:=J8 (ch:=[]) (b:=(bs.getD j default).p) (off:=1) (v:=.slice (I9 ((stB bs ks j).1.getD j default).an (((stB bs ks j).1.getD j default).cn) 0 1) ((Int.toNat (((((stB bs ks j).1.getD j default).m:Nat):Int)+(E3 ((stB bs ks j).2.l.headD 0) ((((((stB bs ks j).1.getD j default).n:Nat):Int) - ((((stB bs ks j).1.getD j default).m:Nat):Int))+1)))) - 0) (((stB bs ks j).1.getD j default).cn - 0)) (c:=#[.slice ((stB bs ks j).1.getD j default).an (((stB bs ks j).1.getD j default).n) (((stB bs ks j).1.getD j default).cn),.slice ((stB bs ks j).1.getD j default).ak (((stB bs ks j).1.getD j default).m) (((stB bs ks j).1.getD j default).ck)]) (c':=#[.slice ((stB bs ks j).1.getD j default).an (((stB bs ks j).1.getD j default).n) (((stB bs ks j).1.getD j default).cn),.slice (I9 ((stB bs ks j).1.getD j default).an (((stB bs ks j).1.getD j default).cn) 0 1) ((Int.toNat (((((stB bs ks j).1.getD j default).m:Nat):Int)+(E3 ((stB bs ks j).2.l.headD 0) ((((((stB bs ks j).1.getD j default).n:Nat):Int) - ((((stB bs ks j).1.getD j default).m:Nat):Int))+1)))) - 0) (((stB bs ks j).1.getD j default).cn - 0)]) (j:=2) (m:=j) (H':=([(b1,.cells #[.slice (G5 (stB bs ks j).2).a ((G5 (stB bs ks j).2).l.length) ((G5 (stB bs ks j).2).c)] 42 (0,0))]::[(d,.cells #[.int .i64 room,.slice ba bs.length bc,.map (some nb),.map (some kb),.map (some cb),.bool fails,.bool once,.int .i64 calls] 64 (0,0))]::G4 ((stB bs ks j).1.set j ⟨(bs.getD j default).p,((stB bs ks j).1.getD j default).an,((stB bs ks j).1.getD j default).n,((stB bs ks j).1.getD j default).cn,(I9 ((stB bs ks j).1.getD j default).an (((stB bs ks j).1.getD j default).cn) 0 1),(Int.toNat (((((stB bs ks j).1.getD j default).m:Nat):Int)+(E3 ((stB bs ks j).2.l.headD 0) ((((((stB bs ks j).1.getD j default).n:Nat):Int) - ((((stB bs ks j).1.getD j default).m:Nat):Int))+1)))) - 0,((stB bs ks j).1.getD j default).cn - 0⟩)::[(kb,.map (B3 km) kc)]::[(cb,.map (B3 cm) cc)]::H)) (hi:=Q4 hjl) (hoff:=Nat.le_of_ble_eq_true rfl) (hfz:=(fun _ _=>P5)) (hH':=congrArg (List.set ([(b1,.cells #[.slice (G5 (stB bs ks j).2).a ((G5 (stB bs ks j).2).l.length) ((G5 (stB bs ks j).2).c)] 42 (0,0))]::[(d,.cells #[.int .i64 room,.slice ba bs.length bc,.map (some nb),.map (some kb),.map (some cb),.bool fails,.bool once,.int .i64 calls] 64 (0,0))]::G4 (stB bs ks j).1::[(kb,.map (B3 km) kc)]::[(cb,.map (B3 cm) cc)]::H) 2) (T3 (stB bs ks j).1 j ⟨(bs.getD j default).p,((stB bs ks j).1.getD j default).an,((stB bs ks j).1.getD j default).n,((stB bs ks j).1.getD j default).cn,(I9 ((stB bs ks j).1.getD j default).an (((stB bs ks j).1.getD j default).cn) 0 1),(Int.toNat (((((stB bs ks j).1.getD j default).m:Nat):Int)+(E3 ((stB bs ks j).2.l.headD 0) ((((((stB bs ks j).1.getD j default).n:Nat):Int) - ((((stB bs ks j).1.getD j default).m:Nat):Int))+1)))) - 0,((stB bs ks j).1.getD j default).cn - 0⟩)) (k:=A7 kr (fun w h=>(h.pk 2 [1,2,2])) (D8 (E':=[⟨0,[],pt d⟩,⟨4,[],.func (.func 34) #[] #[pt b1]⟩,⟨6,[],pt ((bs.getD j default).p)⟩,⟨19,[],.slice ba bs.length bc⟩,⟨20,[],.int .i64 ((bs.length:Nat):Int)⟩,⟨21,[],.int .i64 ((j:Nat):Int)⟩]) [0,4,6,19,20,21] (k:=T4 () [0,4,6,19,20,21] kr (fun w h=>h) trivial))))
    ·
     refine I3 (ch:=[]) (f:=34) (fst:=#[]) (caps:=#[pt b1]) (vs:=[.int .i64 ((((((stB bs ks j).1.getD j default).n:Nat):Int) - ((((stB bs ks j).1.getD j default).m:Nat):Int))+1)]) (hf:=Tryz.func34) (hsure:=G0 kr) (hc:=vNextA b1 (stB bs ks j).2 ((((((stB bs ks j).1.getD j default).n:Nat):Int) - ((((stB bs ks j).1.getD j default).m:Nat):Int))+1) (by omega) S (stB_ok hks j) _ _ (fun y o h=>(At.cons (At.cons (At.cons (At.cons (hS y o h))))))) (k:=?_)
     rintro v H' ⟨rfl,rfl⟩
     have hnx:=A0h (k:=(stB bs ks j).2.l.headD 0) (n:=(((((stB bs ks j).1.getD j default).n:Nat):Int) - ((((stB bs ks j).1.getD j default).m:Nat):Int))+1) (by omega)
     refine A7 kr (fun w h=>(h.pk 2 [1,2,2])) (P4 4 8 (k:=?_) (k':=?_))
     ·
      refine F9 (ch:=[]) (b:=(bs.getD j default).p) (off:=0) (v:=.slice ((stB bs ks j).1.getD j default).an (((stB bs ks j).1.getD j default).n) (((stB bs ks j).1.getD j default).cn)) (hA:=At.grp 2 j rfl (Q4 hjl)) (k:=A7 kr (fun w h=>(h.pk 2 [1,2,2])) (C2 8 (k:=F9 (ch:=[]) (b:=(bs.getD j default).p) (off:=1) (v:=.slice ((stB bs ks j).1.getD j default).ak (((stB bs ks j).1.getD j default).m) (((stB bs ks j).1.getD j default).ck)) (hA:=At.grp 2 j rfl (Q4 hjl)) (k:=A7 kr (fun w h=>(h.pk 2 [1,2,2])) (GH_pev (v:=.int .i64 ((((stB bs ks j).1.getD j default).m:Nat):Int)) 9 (hL:=(fun w h=>(h.pk 2 [1,2,2]))) (k:=E2 (fuel:=4) [(14,0)] (fun w h=>(h.pk 2 [1,2,2])) (k:=Y2 52 (((((stB bs ks j).1.getD j default).m:Nat):Int)+(E3 ((stB bs ks j).2.l.headD 0) ((((((stB bs ks j).1.getD j default).n:Nat):Int) - ((((stB bs ks j).1.getD j default).m:Nat):Int))+1))) (by omega) (by omega) kr (A9 15 (hL:=(fun w h=>(h.pk 2 [1,2,2]))) (hy:=O2 (i:=15) (ch:=[]) (a:=((stB bs ks j).1.getD j default).an) (len:=((stB bs ks j).1.getD j default).n) (cap:=((stB bs ks j).1.getD j default).cn) (e:=5) (sz:=1) (vl:=none) (vh:=(some (.int .i64 (((((stB bs ks j).1.getD j default).m:Nat):Int)+(E3 ((stB bs ks j).2.l.headD 0) ((((((stB bs ks j).1.getD j default).n:Nat):Int) - ((((stB bs ks j).1.getD j default).m:Nat):Int))+1)))))) (l:=0) (h:=((((stB bs ks j).1.getD j default).m:Nat):Int)+(E3 ((stB bs ks j).2.l.headD 0) ((((((stB bs ks j).1.getD j default).n:Nat):Int) - ((((stB bs ks j).1.getD j default).m:Nat):Int))+1))) (hb:=(fun _=>by omega)) (k:=B4 kr rfl)) (k:=?_)))))))))
      refine P0 (ad:=⟨(bs.getD j default).p,0,none⟩) 16 (hL:=(fun w h=>(h.pk 2 [1,2,2]))) (k:=E2 (fuel:=1) [(17,0)] (fun w h=>(h.pk 2 [1,2,2])) (k:=C2 18 (k:=J8 (ch:=[]) (b:=(bs.getD j default).p) (off:=1) (v:=.slice (I9 ((stB bs ks j).1.getD j default).an (((stB bs ks j).1.getD j default).cn) 0 1) ((Int.toNat (((((stB bs ks j).1.getD j default).m:Nat):Int)+(E3 ((stB bs ks j).2.l.headD 0) ((((((stB bs ks j).1.getD j default).n:Nat):Int) - ((((stB bs ks j).1.getD j default).m:Nat):Int))+1)))) - 0) (((stB bs ks j).1.getD j default).cn - 0)) (c:=#[.slice ((stB bs ks j).1.getD j default).an (((stB bs ks j).1.getD j default).n) (((stB bs ks j).1.getD j default).cn),.slice ((stB bs ks j).1.getD j default).ak (((stB bs ks j).1.getD j default).m) (((stB bs ks j).1.getD j default).ck)]) (c':=#[.slice ((stB bs ks j).1.getD j default).an (((stB bs ks j).1.getD j default).n) (((stB bs ks j).1.getD j default).cn),.slice (I9 ((stB bs ks j).1.getD j default).an (((stB bs ks j).1.getD j default).cn) 0 1) ((Int.toNat (((((stB bs ks j).1.getD j default).m:Nat):Int)+(E3 ((stB bs ks j).2.l.headD 0) ((((((stB bs ks j).1.getD j default).n:Nat):Int) - ((((stB bs ks j).1.getD j default).m:Nat):Int))+1)))) - 0) (((stB bs ks j).1.getD j default).cn - 0)]) (j:=2) (m:=j) (H':=([(b1,.cells #[.slice (G5 (stB bs ks j).2).a ((G5 (stB bs ks j).2).l.length) ((G5 (stB bs ks j).2).c)] 42 (0,0))]::[(d,.cells #[.int .i64 room,.slice ba bs.length bc,.map (some nb),.map (some kb),.map (some cb),.bool fails,.bool once,.int .i64 calls] 64 (0,0))]::G4 ((stB bs ks j).1.set j ⟨(bs.getD j default).p,((stB bs ks j).1.getD j default).an,((stB bs ks j).1.getD j default).n,((stB bs ks j).1.getD j default).cn,(I9 ((stB bs ks j).1.getD j default).an (((stB bs ks j).1.getD j default).cn) 0 1),(Int.toNat (((((stB bs ks j).1.getD j default).m:Nat):Int)+(E3 ((stB bs ks j).2.l.headD 0) ((((((stB bs ks j).1.getD j default).n:Nat):Int) - ((((stB bs ks j).1.getD j default).m:Nat):Int))+1)))) - 0,((stB bs ks j).1.getD j default).cn - 0⟩)::[(kb,.map (B3 km) kc)]::[(cb,.map (B3 cm) cc)]::H)) (hi:=Q4 hjl) (hoff:=Nat.le_of_ble_eq_true rfl) (hfz:=(fun _ _=>P5)) (hH':=congrArg (List.set ([(b1,.cells #[.slice (G5 (stB bs ks j).2).a ((G5 (stB bs ks j).2).l.length) ((G5 (stB bs ks j).2).c)] 42 (0,0))]::[(d,.cells #[.int .i64 room,.slice ba bs.length bc,.map (some nb),.map (some kb),.map (some cb),.bool fails,.bool once,.int .i64 calls] 64 (0,0))]::G4 (stB bs ks j).1::[(kb,.map (B3 km) kc)]::[(cb,.map (B3 cm) cc)]::H) 2) (T3 (stB bs ks j).1 j ⟨(bs.getD j default).p,((stB bs ks j).1.getD j default).an,((stB bs ks j).1.getD j default).n,((stB bs ks j).1.getD j default).cn,(I9 ((stB bs ks j).1.getD j default).an (((stB bs ks j).1.getD j default).cn) 0 1),(Int.toNat (((((stB bs ks j).1.getD j default).m:Nat):Int)+(E3 ((stB bs ks j).2.l.headD 0) ((((((stB bs ks j).1.getD j default).n:Nat):Int) - ((((stB bs ks j).1.getD j default).m:Nat):Int))+1)))) - 0,((stB bs ks j).1.getD j default).cn - 0⟩)) (k:=A7 kr (fun w h=>(h.pk 2 [1,2,2])) (D8 (E':=[⟨0,[],pt d⟩,⟨4,[],.func (.func 34) #[] #[pt b1]⟩,⟨6,[],pt ((bs.getD j default).p)⟩,⟨19,[],.slice ba bs.length bc⟩,⟨20,[],.int .i64 ((bs.length:Nat):Int)⟩,⟨21,[],.int .i64 ((j:Nat):Int)⟩]) [0,4,6,19,20,21] (k:=T4 () [0,4,6,19,20,21] kr (fun w h=>h) trivial))))))
     ·
      refine F9 (ch:=[]) (b:=(bs.getD j default).p) (off:=1) (v:=.slice ((stB bs ks j).1.getD j default).ak (((stB bs ks j).1.getD j default).m) (((stB bs ks j).1.getD j default).ck)) (hA:=At.grp 2 j rfl (Q4 hjl)) (k:=A7 kr (fun w h=>(h.pk 2 [1,2,2])) (GH_pev (v:=.int .i64 ((((stB bs ks j).1.getD j default).m:Nat):Int)) 9 (hL:=(fun w h=>(h.pk 2 [1,2,2]))) (k:=E2 (fuel:=5) [(14,0)] (fun w h=>(h.pk 2 [1,2,2])) (k:=Y2 52 (((((stB bs ks j).1.getD j default).m:Nat):Int)+(E3 ((stB bs ks j).2.l.headD 0) ((((((stB bs ks j).1.getD j default).n:Nat):Int) - ((((stB bs ks j).1.getD j default).m:Nat):Int))+1))) (by omega) (by omega) kr (C2 4 (k:=F9 (ch:=[]) (b:=(bs.getD j default).p) (off:=0) (v:=.slice ((stB bs ks j).1.getD j default).an (((stB bs ks j).1.getD j default).n) (((stB bs ks j).1.getD j default).cn)) (hA:=At.grp 2 j rfl (Q4 hjl)) (k:=A7 kr (fun w h=>(h.pk 2 [1,2,2])) (A9 15 (hL:=(fun w h=>(h.pk 2 [1,2,2]))) (hy:=O2 (i:=15) (ch:=[]) (a:=((stB bs ks j).1.getD j default).an) (len:=((stB bs ks j).1.getD j default).n) (cap:=((stB bs ks j).1.getD j default).cn) (e:=5) (sz:=1) (vl:=none) (vh:=(some (.int .i64 (((((stB bs ks j).1.getD j default).m:Nat):Int)+(E3 ((stB bs ks j).2.l.headD 0) ((((((stB bs ks j).1.getD j default).n:Nat):Int) - ((((stB bs ks j).1.getD j default).m:Nat):Int))+1)))))) (l:=0) (h:=((((stB bs ks j).1.getD j default).m:Nat):Int)+(E3 ((stB bs ks j).2.l.headD 0) ((((((stB bs ks j).1.getD j default).n:Nat):Int) - ((((stB bs ks j).1.getD j default).m:Nat):Int))+1))) (hb:=(fun _=>by omega)) (k:=B4 kr rfl)) (k:=?_)))))))))
      refine P0 (ad:=⟨(bs.getD j default).p,0,none⟩) 16 (hL:=(fun w h=>(h.pk 2 [1,2,2]))) (k:=E2 (fuel:=1) [(17,0)] (fun w h=>(h.pk 2 [1,2,2])) (k:=C2 18 (k:=J8 (ch:=[]) (b:=(bs.getD j default).p) (off:=1) (v:=.slice (I9 ((stB bs ks j).1.getD j default).an (((stB bs ks j).1.getD j default).cn) 0 1) ((Int.toNat (((((stB bs ks j).1.getD j default).m:Nat):Int)+(E3 ((stB bs ks j).2.l.headD 0) ((((((stB bs ks j).1.getD j default).n:Nat):Int) - ((((stB bs ks j).1.getD j default).m:Nat):Int))+1)))) - 0) (((stB bs ks j).1.getD j default).cn - 0)) (c:=#[.slice ((stB bs ks j).1.getD j default).an (((stB bs ks j).1.getD j default).n) (((stB bs ks j).1.getD j default).cn),.slice ((stB bs ks j).1.getD j default).ak (((stB bs ks j).1.getD j default).m) (((stB bs ks j).1.getD j default).ck)]) (c':=#[.slice ((stB bs ks j).1.getD j default).an (((stB bs ks j).1.getD j default).n) (((stB bs ks j).1.getD j default).cn),.slice (I9 ((stB bs ks j).1.getD j default).an (((stB bs ks j).1.getD j default).cn) 0 1) ((Int.toNat (((((stB bs ks j).1.getD j default).m:Nat):Int)+(E3 ((stB bs ks j).2.l.headD 0) ((((((stB bs ks j).1.getD j default).n:Nat):Int) - ((((stB bs ks j).1.getD j default).m:Nat):Int))+1)))) - 0) (((stB bs ks j).1.getD j default).cn - 0)]) (j:=2) (m:=j) (H':=([(b1,.cells #[.slice (G5 (stB bs ks j).2).a ((G5 (stB bs ks j).2).l.length) ((G5 (stB bs ks j).2).c)] 42 (0,0))]::[(d,.cells #[.int .i64 room,.slice ba bs.length bc,.map (some nb),.map (some kb),.map (some cb),.bool fails,.bool once,.int .i64 calls] 64 (0,0))]::G4 ((stB bs ks j).1.set j ⟨(bs.getD j default).p,((stB bs ks j).1.getD j default).an,((stB bs ks j).1.getD j default).n,((stB bs ks j).1.getD j default).cn,(I9 ((stB bs ks j).1.getD j default).an (((stB bs ks j).1.getD j default).cn) 0 1),(Int.toNat (((((stB bs ks j).1.getD j default).m:Nat):Int)+(E3 ((stB bs ks j).2.l.headD 0) ((((((stB bs ks j).1.getD j default).n:Nat):Int) - ((((stB bs ks j).1.getD j default).m:Nat):Int))+1)))) - 0,((stB bs ks j).1.getD j default).cn - 0⟩)::[(kb,.map (B3 km) kc)]::[(cb,.map (B3 cm) cc)]::H)) (hi:=Q4 hjl) (hoff:=Nat.le_of_ble_eq_true rfl) (hfz:=(fun _ _=>P5)) (hH':=congrArg (List.set ([(b1,.cells #[.slice (G5 (stB bs ks j).2).a ((G5 (stB bs ks j).2).l.length) ((G5 (stB bs ks j).2).c)] 42 (0,0))]::[(d,.cells #[.int .i64 room,.slice ba bs.length bc,.map (some nb),.map (some kb),.map (some cb),.bool fails,.bool once,.int .i64 calls] 64 (0,0))]::G4 (stB bs ks j).1::[(kb,.map (B3 km) kc)]::[(cb,.map (B3 cm) cc)]::H) 2) (T3 (stB bs ks j).1 j ⟨(bs.getD j default).p,((stB bs ks j).1.getD j default).an,((stB bs ks j).1.getD j default).n,((stB bs ks j).1.getD j default).cn,(I9 ((stB bs ks j).1.getD j default).an (((stB bs ks j).1.getD j default).cn) 0 1),(Int.toNat (((((stB bs ks j).1.getD j default).m:Nat):Int)+(E3 ((stB bs ks j).2.l.headD 0) ((((((stB bs ks j).1.getD j default).n:Nat):Int) - ((((stB bs ks j).1.getD j default).m:Nat):Int))+1)))) - 0,((stB bs ks j).1.getD j default).cn - 0⟩)) (k:=A7 kr (fun w h=>(h.pk 2 [1,2,2])) (D8 (E':=[⟨0,[],pt d⟩,⟨4,[],.func (.func 34) #[] #[pt b1]⟩,⟨6,[],pt ((bs.getD j default).p)⟩,⟨19,[],.slice ba bs.length bc⟩,⟨20,[],.int .i64 ((bs.length:Nat):Int)⟩,⟨21,[],.int .i64 ((j:Nat):Int)⟩]) [0,4,6,19,20,21] (k:=T4 () [0,4,6,19,20,21] kr (fun w h=>h) trivial))))))
   ·
    rintro _ _
    refine A1 (A3 (A5 (j:=4) [0,0,0,0] (k:=F9 (ch:=[]) (b:=(bs.getD j default).p) (off:=1) (v:=.slice (I9 ((stB bs ks j).1.getD j default).an (((stB bs ks j).1.getD j default).cn) 0 1) ((Int.toNat (((((stB bs ks j).1.getD j default).m:Nat):Int)+(E3 ((stB bs ks j).2.l.headD 0) ((((((stB bs ks j).1.getD j default).n:Nat):Int) - ((((stB bs ks j).1.getD j default).m:Nat):Int))+1)))) - 0) (((stB bs ks j).1.getD j default).cn - 0)) (hA:=At.grp 2 j rfl (bodyG_at_set (stB bs ks j).1 j ⟨(bs.getD j default).p,((stB bs ks j).1.getD j default).an,((stB bs ks j).1.getD j default).n,((stB bs ks j).1.getD j default).cn,(I9 ((stB bs ks j).1.getD j default).an (((stB bs ks j).1.getD j default).cn) 0 1),(Int.toNat (((((stB bs ks j).1.getD j default).m:Nat):Int)+(E3 ((stB bs ks j).2.l.headD 0) ((((((stB bs ks j).1.getD j default).n:Nat):Int) - ((((stB bs ks j).1.getD j default).m:Nat):Int))+1)))) - 0,((stB bs ks j).1.getD j default).cn - 0⟩ (by rw [stB_len]; exact hjl))) (k:=A5 (j:=7) [0,0] (k:=J8 (ch:=[]) (b:=(bs.getD j default).p) (off:=0) (v:=.slice (I9 ((stB bs ks j).1.getD j default).an (((stB bs ks j).1.getD j default).cn) 0 1) ((Int.toNat (((((stB bs ks j).1.getD j default).m:Nat):Int)+(E3 ((stB bs ks j).2.l.headD 0) ((((((stB bs ks j).1.getD j default).n:Nat):Int) - ((((stB bs ks j).1.getD j default).m:Nat):Int))+1)))) - 0) (((stB bs ks j).1.getD j default).cn - 0)) (c:=#[.slice ((stB bs ks j).1.getD j default).an (((stB bs ks j).1.getD j default).n) (((stB bs ks j).1.getD j default).cn),.slice (I9 ((stB bs ks j).1.getD j default).an (((stB bs ks j).1.getD j default).cn) 0 1) ((Int.toNat (((((stB bs ks j).1.getD j default).m:Nat):Int)+(E3 ((stB bs ks j).2.l.headD 0) ((((((stB bs ks j).1.getD j default).n:Nat):Int) - ((((stB bs ks j).1.getD j default).m:Nat):Int))+1)))) - 0) (((stB bs ks j).1.getD j default).cn - 0)]) (c':=#[.slice (I9 ((stB bs ks j).1.getD j default).an (((stB bs ks j).1.getD j default).cn) 0 1) ((Int.toNat (((((stB bs ks j).1.getD j default).m:Nat):Int)+(E3 ((stB bs ks j).2.l.headD 0) ((((((stB bs ks j).1.getD j default).n:Nat):Int) - ((((stB bs ks j).1.getD j default).m:Nat):Int))+1)))) - 0) (((stB bs ks j).1.getD j default).cn - 0),.slice (I9 ((stB bs ks j).1.getD j default).an (((stB bs ks j).1.getD j default).cn) 0 1) ((Int.toNat (((((stB bs ks j).1.getD j default).m:Nat):Int)+(E3 ((stB bs ks j).2.l.headD 0) ((((((stB bs ks j).1.getD j default).n:Nat):Int) - ((((stB bs ks j).1.getD j default).m:Nat):Int))+1)))) - 0) (((stB bs ks j).1.getD j default).cn - 0)]) (j:=2) (m:=j) (H':=([(b1,.cells #[.slice (G5 (stB bs ks j).2).a ((G5 (stB bs ks j).2).l.length) ((G5 (stB bs ks j).2).c)] 42 (0,0))]::[(d,.cells #[.int .i64 room,.slice ba bs.length bc,.map (some nb),.map (some kb),.map (some cb),.bool fails,.bool once,.int .i64 calls] 64 (0,0))]::G4 (((stB bs ks j).1.set j ⟨(bs.getD j default).p,((stB bs ks j).1.getD j default).an,((stB bs ks j).1.getD j default).n,((stB bs ks j).1.getD j default).cn,(I9 ((stB bs ks j).1.getD j default).an (((stB bs ks j).1.getD j default).cn) 0 1),(Int.toNat (((((stB bs ks j).1.getD j default).m:Nat):Int)+(E3 ((stB bs ks j).2.l.headD 0) ((((((stB bs ks j).1.getD j default).n:Nat):Int) - ((((stB bs ks j).1.getD j default).m:Nat):Int))+1)))) - 0,((stB bs ks j).1.getD j default).cn - 0⟩).set j ⟨(bs.getD j default).p,(I9 ((stB bs ks j).1.getD j default).an (((stB bs ks j).1.getD j default).cn) 0 1),(Int.toNat (((((stB bs ks j).1.getD j default).m:Nat):Int)+(E3 ((stB bs ks j).2.l.headD 0) ((((((stB bs ks j).1.getD j default).n:Nat):Int) - ((((stB bs ks j).1.getD j default).m:Nat):Int))+1)))) - 0,((stB bs ks j).1.getD j default).cn - 0,(I9 ((stB bs ks j).1.getD j default).an (((stB bs ks j).1.getD j default).cn) 0 1),(Int.toNat (((((stB bs ks j).1.getD j default).m:Nat):Int)+(E3 ((stB bs ks j).2.l.headD 0) ((((((stB bs ks j).1.getD j default).n:Nat):Int) - ((((stB bs ks j).1.getD j default).m:Nat):Int))+1)))) - 0,((stB bs ks j).1.getD j default).cn - 0⟩)::[(kb,.map (B3 km) kc)]::[(cb,.map (B3 cm) cc)]::H)) (hi:=bodyG_at_set (stB bs ks j).1 j ⟨(bs.getD j default).p,((stB bs ks j).1.getD j default).an,((stB bs ks j).1.getD j default).n,((stB bs ks j).1.getD j default).cn,(I9 ((stB bs ks j).1.getD j default).an (((stB bs ks j).1.getD j default).cn) 0 1),(Int.toNat (((((stB bs ks j).1.getD j default).m:Nat):Int)+(E3 ((stB bs ks j).2.l.headD 0) ((((((stB bs ks j).1.getD j default).n:Nat):Int) - ((((stB bs ks j).1.getD j default).m:Nat):Int))+1)))) - 0,((stB bs ks j).1.getD j default).cn - 0⟩ (by rw [stB_len]; exact hjl)) (hoff:=Nat.le_of_ble_eq_true rfl) (hfz:=(fun _ _=>P5)) (hH':=congrArg (List.set ([(b1,.cells #[.slice (G5 (stB bs ks j).2).a ((G5 (stB bs ks j).2).l.length) ((G5 (stB bs ks j).2).c)] 42 (0,0))]::[(d,.cells #[.int .i64 room,.slice ba bs.length bc,.map (some nb),.map (some kb),.map (some cb),.bool fails,.bool once,.int .i64 calls] 64 (0,0))]::G4 ((stB bs ks j).1.set j ⟨(bs.getD j default).p,((stB bs ks j).1.getD j default).an,((stB bs ks j).1.getD j default).n,((stB bs ks j).1.getD j default).cn,(I9 ((stB bs ks j).1.getD j default).an (((stB bs ks j).1.getD j default).cn) 0 1),(Int.toNat (((((stB bs ks j).1.getD j default).m:Nat):Int)+(E3 ((stB bs ks j).2.l.headD 0) ((((((stB bs ks j).1.getD j default).n:Nat):Int) - ((((stB bs ks j).1.getD j default).m:Nat):Int))+1)))) - 0,((stB bs ks j).1.getD j default).cn - 0⟩)::[(kb,.map (B3 km) kc)]::[(cb,.map (B3 cm) cc)]::H) 2) (T3 ((stB bs ks j).1.set j ⟨(bs.getD j default).p,((stB bs ks j).1.getD j default).an,((stB bs ks j).1.getD j default).n,((stB bs ks j).1.getD j default).cn,(I9 ((stB bs ks j).1.getD j default).an (((stB bs ks j).1.getD j default).cn) 0 1),(Int.toNat (((((stB bs ks j).1.getD j default).m:Nat):Int)+(E3 ((stB bs ks j).2.l.headD 0) ((((((stB bs ks j).1.getD j default).n:Nat):Int) - ((((stB bs ks j).1.getD j default).m:Nat):Int))+1)))) - 0,((stB bs ks j).1.getD j default).cn - 0⟩) j ⟨(bs.getD j default).p,(I9 ((stB bs ks j).1.getD j default).an (((stB bs ks j).1.getD j default).cn) 0 1),(Int.toNat (((((stB bs ks j).1.getD j default).m:Nat):Int)+(E3 ((stB bs ks j).2.l.headD 0) ((((((stB bs ks j).1.getD j default).n:Nat):Int) - ((((stB bs ks j).1.getD j default).m:Nat):Int))+1)))) - 0,((stB bs ks j).1.getD j default).cn - 0,(I9 ((stB bs ks j).1.getD j default).an (((stB bs ks j).1.getD j default).cn) 0 1),(Int.toNat (((((stB bs ks j).1.getD j default).m:Nat):Int)+(E3 ((stB bs ks j).2.l.headD 0) ((((((stB bs ks j).1.getD j default).n:Nat):Int) - ((((stB bs ks j).1.getD j default).m:Nat):Int))+1)))) - 0,((stB bs ks j).1.getD j default).cn - 0⟩)) (k:=B5 [] [0,4,19,20,21] (k:=D3 (A1 ?_))))))))
    refine A3 (A5 (j:=1) [0] (k:=F0 63 (((j:Nat):Int)+1) (by omega) (by omega) kr (B5 [0] [0,4,19,20,21] (k:=N_heq (H':=([(b1,.cells #[.slice (stB bs ks (j+1)).2.a ((stB bs ks (j+1)).2.l.length) ((stB bs ks (j+1)).2.c)] 42 (0,0))]::[(d,.cells #[.int .i64 room,.slice ba bs.length bc,.map (some nb),.map (some kb),.map (some cb),.bool fails,.bool once,.int .i64 calls] 64 (0,0))]::G4 (stB bs ks (j+1)).1::[(kb,.map (B3 km) kc)]::[(cb,.map (B3 cm) cc)]::H)) (by first | (rw [stB_yes (by omega),List.set_set]) | (rw [stB_yes (by omega),List.set_set]; rfl) | (rw [stB_no (by omega)]) | (rw [stB_no (by omega)]; rfl)) (F6 (s':=(j+1)) [0,4,19,20,21] kr rfl (by omega) (by omega))))))
  ·
   replace hc4:=of_decide_eq_false hc4
   refine B6 (A1 (A3 (A5 (j:=4) [0,0,0,0] (k:=F9 (ch:=[]) (b:=(bs.getD j default).p) (off:=1) (v:=.slice ((stB bs ks j).1.getD j default).ak (((stB bs ks j).1.getD j default).m) (((stB bs ks j).1.getD j default).ck)) (hA:=At.grp 2 j rfl (Q4 hjl)) (k:=A5 (j:=7) [0,0] (k:=J8 (ch:=[]) (b:=(bs.getD j default).p) (off:=0) (v:=.slice ((stB bs ks j).1.getD j default).ak (((stB bs ks j).1.getD j default).m) (((stB bs ks j).1.getD j default).ck)) (c:=#[.slice ((stB bs ks j).1.getD j default).an (((stB bs ks j).1.getD j default).n) (((stB bs ks j).1.getD j default).cn),.slice ((stB bs ks j).1.getD j default).ak (((stB bs ks j).1.getD j default).m) (((stB bs ks j).1.getD j default).ck)]) (c':=#[.slice ((stB bs ks j).1.getD j default).ak (((stB bs ks j).1.getD j default).m) (((stB bs ks j).1.getD j default).ck),.slice ((stB bs ks j).1.getD j default).ak (((stB bs ks j).1.getD j default).m) (((stB bs ks j).1.getD j default).ck)]) (j:=2) (m:=j) (H':=([(b1,.cells #[.slice (stB bs ks j).2.a ((stB bs ks j).2.l.length) ((stB bs ks j).2.c)] 42 (0,0))]::[(d,.cells #[.int .i64 room,.slice ba bs.length bc,.map (some nb),.map (some kb),.map (some cb),.bool fails,.bool once,.int .i64 calls] 64 (0,0))]::G4 ((stB bs ks j).1.set j ⟨(bs.getD j default).p,((stB bs ks j).1.getD j default).ak,((stB bs ks j).1.getD j default).m,((stB bs ks j).1.getD j default).ck,((stB bs ks j).1.getD j default).ak,((stB bs ks j).1.getD j default).m,((stB bs ks j).1.getD j default).ck⟩)::[(kb,.map (B3 km) kc)]::[(cb,.map (B3 cm) cc)]::H)) (hi:=Q4 hjl) (hoff:=Nat.le_of_ble_eq_true rfl) (hfz:=(fun _ _=>P5)) (hH':=congrArg (List.set ([(b1,.cells #[.slice (stB bs ks j).2.a ((stB bs ks j).2.l.length) ((stB bs ks j).2.c)] 42 (0,0))]::[(d,.cells #[.int .i64 room,.slice ba bs.length bc,.map (some nb),.map (some kb),.map (some cb),.bool fails,.bool once,.int .i64 calls] 64 (0,0))]::G4 (stB bs ks j).1::[(kb,.map (B3 km) kc)]::[(cb,.map (B3 cm) cc)]::H) 2) (T3 (stB bs ks j).1 j ⟨(bs.getD j default).p,((stB bs ks j).1.getD j default).ak,((stB bs ks j).1.getD j default).m,((stB bs ks j).1.getD j default).ck,((stB bs ks j).1.getD j default).ak,((stB bs ks j).1.getD j default).m,((stB bs ks j).1.getD j default).ck⟩)) (k:=B5 [] [0,4,19,20,21] (k:=D3 ?_))))))))
   refine A1 (A3 (A5 (j:=1) [0] (k:=F0 63 (((j:Nat):Int)+1) (by omega) (by omega) kr (D5 (E':=[⟨0,[],pt d⟩,⟨4,[],.func (.func 34) #[] #[pt b1]⟩,⟨19,[],.slice ba bs.length bc⟩,⟨20,[],.int .i64 ((bs.length:Nat):Int)⟩,⟨21,[],.int .i64 (((j:Nat):Int)+1)⟩]) [0] [0,4,19,20,21] (k:=N_heq (H':=([(b1,.cells #[.slice (stB bs ks (j+1)).2.a ((stB bs ks (j+1)).2.l.length) ((stB bs ks (j+1)).2.c)] 42 (0,0))]::[(d,.cells #[.int .i64 room,.slice ba bs.length bc,.map (some nb),.map (some kb),.map (some cb),.bool fails,.bool once,.int .i64 calls] 64 (0,0))]::G4 (stB bs ks (j+1)).1::[(kb,.map (B3 km) kc)]::[(cb,.map (B3 cm) cc)]::H)) (by first | (rw [stB_yes (by omega),List.set_set]) | (rw [stB_yes (by omega),List.set_set]; rfl) | (rw [stB_no (by omega)]) | (rw [stB_no (by omega)]; rfl)) (F6 (s':=(j+1)) [0,4,19,20,21] kr rfl (by omega) (by omega)))))))
 ·
  replace hc2:=of_decide_eq_false hc2
  refine H0 (A6 (A6 (C3 (A1 (A2 (A2 (A3 (A5 (j:=3) [0,0,0] (k:=?_)))))))))
  refine D0 1 4 rfl rfl (E4 Tryz.func36 (vKeys cb _ _) ?_)
  rintro v H' ⟨b14,rfl,rfl⟩
  refine Z6 0 [0,4] (E4 Tryz.func35 (sortedC cm cc cb b14 hcm hcs hcl _ _) ?_)
  rintro v H' ⟨sg,hO,rfl⟩
  obtain ⟨ds,hds⟩:∃ ds,ds=R1 (cm.map Prod.fst):=⟨_,rfl⟩
  have hdl:ds.length=cm.length:=by rw [hds,sortB_len,List.length_map]
  rw [← hds] at hO
  obtain ⟨sa,sc,rfl,hsc,hsr⟩:=hO.shape
  refine B5 [0,0] [0,4,69,70,71] (k:=A1 (B8 ?_))
  have hjn:j=bs.length:=by omega
  subst hjn
  refine I6 (EI:=(fun ξ:Nat × SM × Nat × KS=>[⟨0,[],pt d⟩,⟨4,[],.func (.func 34) #[] #[pt b1]⟩,⟨69,[],.slice sa cm.length sc⟩,⟨70,[],.int .i64 ((cm.length:Nat):Int)⟩,⟨71,[],.int .i64 ((ξ.1:Nat):Int)⟩])) (HI:=(fun ξ:Nat × SM × Nat × KS=>(sg::[(b14,.cells #[.map (some cb)] 61 (0,0))]::[(cb,.map (B3 cm) cc)]::[(b1,.cells #[.slice ξ.2.2.2.a ξ.2.2.2.l.length ξ.2.2.2.c] 42 (0,0))]::[(d,.cells #[.int .i64 room,.slice ba bs.length bc,.map (some nb),.map (some kb),.map (some cb),.bool fails,.bool once,.int .i64 calls] 64 (0,0))]::G4 (stB bs ks bs.length).1::[(kb,.map (B3 ξ.2.1) ξ.2.2.1)]::H))) (Φ:=(fun ξ:Nat × SM × Nat × KS=>(ξ.1≤ds.length)∧(KsOk S ξ.2.2.2)∧(CrashK rows (ds.take ξ.1) ((km,kc),(stB bs ks bs.length).2) ((ξ.2.1,ξ.2.2.1),ξ.2.2.2))∧(MapOk ξ.2.1 ξ.2.2.1))) (μ:=(fun ξ:Nat × SM × Nat × KS=>ds.length - ξ.1)) (s0:=(0,km,kc,(stB bs ks bs.length).2)) [0,4,69,70,71] kr (by rfl) ⟨(by omega),(stB_ok hks _),(by rfl),hkm⟩ ?_
  rintro ⟨i,km1,kc1,ks1⟩ ⟨hi,hk1,hR,hmk⟩
  refine A2 (G_p [0] [0,4,69,70,71,72] (k:=A1 (A2 (D2 (b:=decide (((i:Nat):Int)<((cm.length:Nat):Int))) kr (fun hc15=>?_) (fun hc15=>?_)))))
  ·
   replace hc15:=of_decide_eq_true hc15
   refine B6 (A1 (A2 (B8 (A2 (A3 (L2 cm.length ((i:Nat):Int) 1 hsr (by exact ⟨by omega,by omega,by first | exact List.cons_ne_nil _ _ | (intro h; simp [Y5] at h; simp [h] at *; omega)⟩) (O3 (i * 1) (.string (ds.getD i default)) hsr (H6 0 rfl) (fun _=>(by rw [Nat.mul_one]; exact strs_at (by omega))) (B5 [0] [0,4,9,69,70,71] (k:=?_)))))))))
   refine A1 (A2 (A3 (A5 (j:=3) [0,0,0] (k:=D0 4 4 rfl rfl (A5 (j:=5) [0] (k:=?_))))))
   have hdm:ds.getD i default∈cm.map Prod.fst:=by (subst hds; exact sort_mem (by omega))
   have hro:=hrows _ hdm
   obtain ⟨r,hr⟩:∃ r,r=rows (ds.getD i default):=⟨_,rfl⟩
   rw [← hr] at hro
   obtain ⟨hg,hrd,hrl,hrq,hrc,hAll⟩:=hro
   refine J5 (ch:=[]) (kt:=9) (et:=85) (r:=cb) (c:=cc) (m:=cm) (k:=(ds.getD i default)) (z:=.slice none 0 0) (ov:=(some (.slice r.a r.qs.length r.c))) (hA:=At.grp 2 0 rfl rfl) (hg:=(fun _=>hg)) (kk:=B5 [0] [0,4,10,69,70,71] (k:=A1 (A2 (A3 (A5 (j:=5) [0,0,0,0,0] (k:=F0 85 (((r.qs.length:Nat):Int)+1) (by omega) (by omega) kr (Z6 0 [3] (I3 (ch:=[]) (f:=34) (fst:=#[]) (caps:=#[pt b1]) (vs:=[.int .i64 (((r.qs.length:Nat):Int)+1)]) (hf:=Tryz.func34) (hsure:=G0 kr) (hc:=vNextA b1 ks1 (((r.qs.length:Nat):Int)+1) (by omega) S hk1 _ _ (fun y o h=>(At.cons (At.cons (At.cons (At.cons (At.cons (At.cons (hS y o h))))))))) (k:=?_)))))))))
   rintro v H' ⟨rfl,rfl⟩
   have hnx:=A0h (k:=ks1.l.headD 0) (n:=((r.qs.length:Nat):Int)+1) (by omega)
   have hkn:keptN r ks1≤r.qs.length:=by unfold keptN; omega
   have hke:keptN r ks1=Int.toNat (E3 (ks1.l.headD 0) (((r.qs.length:Nat):Int)+1)):=rfl
   refine O2 (ch:=[]) (a:=r.a) (len:=r.qs.length) (cap:=r.c) (e:=86) (sz:=1) (vl:=none) (vh:=(some (.int .i64 (E3 (ks1.l.headD 0) (((r.qs.length:Nat):Int)+1))))) (l:=0) (h:=E3 (ks1.l.headD 0) (((r.qs.length:Nat):Int)+1)) (hb:=(fun _=>by omega)) (k:=B5 [0,0] [0,4,69,70,71,87,88,89] (k:=A1 (B8 (I6 (EI:=(fun ξ:Nat × SM × Nat=>[⟨0,[],pt d⟩,⟨4,[],.func (.func 34) #[] #[pt b1]⟩,⟨69,[],.slice sa cm.length sc⟩,⟨70,[],.int .i64 ((cm.length:Nat):Int)⟩,⟨71,[],.int .i64 ((i:Nat):Int)⟩,⟨87,[],.slice (I9 r.a r.c 0 1) ((Int.toNat (E3 (ks1.l.headD 0) (((r.qs.length:Nat):Int)+1))) - 0) (r.c - 0)⟩,⟨88,[],.int .i64 (((Int.toNat (E3 (ks1.l.headD 0) (((r.qs.length:Nat):Int)+1))) - 0:Nat):Int)⟩,⟨89,[],.int .i64 ((ξ.1:Nat):Int)⟩])) (HI:=(fun ξ:Nat × SM × Nat=>([(b1,.cells #[.slice (G5 ks1).a ((G5 ks1).l.length) ((G5 ks1).c)] 42 (0,0))]::sg::[(b14,.cells #[.map (some cb)] 61 (0,0))]::[(cb,.map (B3 cm) cc)]::[(d,.cells #[.int .i64 room,.slice ba bs.length bc,.map (some nb),.map (some kb),.map (some cb),.bool fails,.bool once,.int .i64 calls] 64 (0,0))]::G4 (stB bs ks bs.length).1::[(kb,.map (B3 ξ.2.1) ξ.2.2)]::H))) (Φ:=(fun ξ:Nat × SM × Nat=>(ξ.1≤keptN r ks1)∧(MadeOf (r.xs.take ξ.1) (km1,kc1) (ξ.2.1,ξ.2.2)))) (μ:=(fun ξ:Nat × SM × Nat=>keptN r ks1 - ξ.1)) (s0:=(0,km1,kc1)) [0,4,69,70,71,87,88,89] kr (by rfl) ⟨(by omega),(by rfl)⟩ ?_))))
   rintro ⟨k,km2,kc2⟩ ⟨hkk,hR2⟩
   refine A2 (G_p [0] [0,4,69,70,71,87,88,89,90] (k:=A1 (A2 (D2 (b:=decide (((k:Nat):Int)<(((Int.toNat (E3 (ks1.l.headD 0) (((r.qs.length:Nat):Int)+1))) - 0:Nat):Int))) kr (fun hc17=>?_) (fun hc17=>?_)))))
   ·
    replace hc17:=of_decide_eq_true hc17
    refine B6 (A1 (A2 (B8 (A2 (A3 (L2 (a:=(I9 r.a r.c 0 1)) (S:=S) (cs:=((r.qs.map fun q=>Value.map (some q)).take (keptN r ks1))) ((Int.toNat (E3 (ks1.l.headD 0) (((r.qs.length:Nat):Int)+1))) - 0) ((k:Nat):Int) 1 (rd_cut0 hrd (by rw [List.length_map]; omega) (by rw [List.length_map]; omega)) (by exact ⟨by omega,by omega,take_ne (by omega) (by rw [List.length_map]; omega)⟩) (O3 (a:=(I9 r.a r.c 0 1)) (S:=S) (cs:=((r.qs.map fun q=>Value.map (some q)).take (keptN r ks1))) (k * 1) (.map (some (r.qs.getD k 0))) (rd_cut0 hrd (by rw [List.length_map]; omega) (by rw [List.length_map]; omega)) (fun y o h=>(At.cons (At.cons (At.cons (At.cons (At.cons (At.cons (At.cons (hS y o h))))))))) (fun _=>(by rw [Nat.mul_one]; exact map_take_at (by omega) (by omega))) (B5 [0] [0,4,12,69,70,71,87,88,89] (k:=?_)))))))))
    refine A1 (A3 (A5 (j:=3) [0,0,0] (k:=D0 4 3 rfl rfl (A5 (j:=5) [0] (k:=Z6 0 [6] (E4 Tryz.func37 (vApply kb (r.qs.getD k 0) kc2 (r.xcs.getD k 0) km2 (r.xs.getD k []) (made_ok hR2 hmk) (hAll k (by omega)).2.1 (hAll k (by omega)).2.2 _ _ (At.cons (At.cons (At.cons (At.cons (At.cons (At.cons (hAll k (by omega)).1))))))) ?_))))))
    rintro v H' ⟨dn18,hdn19,rfl,rfl⟩
    refine B5 [] [0,4,69,70,71,87,88,89] (k:=D3 (A1 (A3 (A5 (j:=1) [0] (k:=F0 99 (((k:Nat):Int)+1) (by omega) (by omega) kr (B5 [0] [0,4,69,70,71,87,88,89] (k:=N_pk 0 [1,1,1,1,1,1,0] (F6 (s':=(k+1,(F3 (km2,kc2) dn18).1,(F3 (km2,kc2) dn18).2)) [0,4,69,70,71,87,88,89] kr kr ⟨(by omega),(by rw [take_snoc (d:=[]) (by omega)]; exact made_snoc hdn19 hR2)⟩ (by omega)))))))))
   ·
    replace hc17:=of_decide_eq_false hc17
    refine H0 (A6 (A6 (C3 (D3 (A1 (A3 (A5 (j:=1) [0] (k:=F0 100 (((i:Nat):Int)+1) (by omega) (by omega) kr ?_))))))))
    refine B5 [0] [0,4,69,70,71] (k:=N_pk 0 [1,1,1,0,0,0,0] (F6 (s':=(i+1,km2,kc2,(G5 ks1))) [0,4,69,70,71] kr kr ⟨(by omega),(ksNext_ok hk1),(by rw [take_snoc (d:=default) (by omega)]; exact crashK_snoc hR (by rw [← hr,(show keptN r ks1=k from by omega)]; exact hR2)),(made_ok hR2 hmk)⟩ (by omega)))
  ·
   replace hc15:=of_decide_eq_false hc15
   refine H0 (A6 (A6 (C3 (A1 (A3 (A5 (j:=6) [0,0,0,0,0,0] (k:=D0 4 3 rfl rfl (Z6 0 [6] ?_))))))))
   refine E4 Tryz.func38 (vMapClone kb kc1 km1 _ _) ?_
   rintro v H' ⟨b22,rfl,rfl⟩
   refine O6 (ch:=[]) (k:=(fun b23=>A5 (j:=11) [0,0] (k:=M8 7 2 (.map (some b22)) rfl (A5 (j:=14) [0,0] (k:=M8 7 4 (.map (some b23)) rfl (A5 (j:=17) [0,0] (k:=M8 7 5 (.bool false) rfl (D5 (E':=[]) [] [] (k:=N_pkT 4 [7,7,2,1,0] ([(d,.cells #[.int .i64 room,.slice ba bs.length bc,.map (some b22),.map (some kb),.map (some b23),.bool false,.bool once,.int .i64 calls] 64 (0,0))]::G4 (stB bs ks bs.length).1::[(kb,.map (B3 km1) kc1)]::[(b22,.map (B3 km1) kc1)]::[(b23,.map (B3 ([])) 0)]::H) ?_)))))))))
   refine C5 [] [] (k:=?_)
   have hin:i=ds.length:=by omega
   rw [hin,List.take_length,hds] at hR
   exact ⟨rfl,_,_,_,_,_,hR,rfl⟩
end Go.Proofs.YtdolpaagdpeagaaGreatDoor
namespace Go.Proofs.YtdolpaagdpeagaaGreatDoor
open Go.Sw Go.Lib Go.Vf Go.RowKit
theorem vNameMore (d nb kb cb q nc cc xc:Nat) (room calls:Int) (bv:Value) (fails once:Bool) (nm cm xm:SM) (dir:ByteArray) (hn:MapOk nm nc) (hx:MapOk xm xc) (hv:∀ e∈xm,e.2.1=.pointer none∨∃ p,e.2.1=.pointer (some ⟨p,0,none⟩)) (rv:Value) (rg:Grp) (m:Nat) (cs:List Value) (hO:Go.Sw.Own 86 1 rv rg m cs) (hm:m≤1000000) (hg:R9 cm dir=some rv) (W0:World) (H:List Grp) (hA:At W0 H q (.map (B3 xm) xc)):Tri Tryz.prog 73 #[pt d,.string dir,.map (some q)] W0 ([(d,.cells #[.int .i64 room,bv,.map (some nb),.map (some kb),.map (some cb),.bool fails,.bool once,.int .i64 calls] 64 (0,0))]::[(nb,.map (B3 nm) nc)]::[(cb,.map (B3 cm) cc)]::rg::H) (fun v H'=>∃ dn x g,dn.Perm xm∧Go.Sw.Own 86 1 x g (m+1) (cs++[.map (some q)])∧v=.tuple #[]∧H'=([(d,.cells #[.int .i64 room,bv,.map (some nb),.map (some kb),.map (some cb),.bool fails,.bool once,.int .i64 calls] 64 (0,0))]::[(nb,.map (B3 ((F3 (nm,nc) dn).1)) ((F3 (nm,nc) dn).2))]::[(cb,.map (B3 (H8 cm cc dir x)) (if T1 cm dir then cc else cc+1))]::g::H)):=by
 refine D6 26 Tryz.func73 ?_
 refine A2 (A3 (A5 (j:=3) [0,0,0] (k:=D0 0 2 rfl rfl (A5 (j:=5) [0] (k:=Z6 0 [1] (E4 Tryz.func37 (vApply nb q nc xc nm xm hn hx hv _ _ (At.cons (At.cons (At.cons hA)))) ?_))))))
 rintro v H' ⟨dn1,hdn2,rfl,rfl⟩
 refine B5 [] [0,1,2] (k:=A1 (F4 ([(nb,.map (B3 ((F3 (nm,nc) dn1).1)) ((F3 (nm,nc) dn1).2))]::[(d,.cells #[.int .i64 room,bv,.map (some nb),.map (some kb),.map (some cb),.bool fails,.bool once,.int .i64 calls] 64 (0,0))]::H) kr (E2 (fuel:=14) [(0,0)] (fun w h=>(h.pkT 2 [0,0])) (k:=P0 (ad:=⟨d,0,none⟩) 1 (hL:=(fun w h=>(h.pkT 2 [0,0]))) (k:=E2 (fuel:=12) [(2,0)] (fun w h=>(h.pkT 2 [0,0])) (k:=A9 3 kr (fun w h=>(h.pkT 2 [0,0])) (D0 1 4 rfl rfl (B4 kr rfl)) (E2 (fuel:=9) [(4,0),(5,0)] (fun w h=>(h.pkT 2 [0,0])) (k:=P0 (ad:=⟨d,0,none⟩) 6 (hL:=(fun w h=>(h.pkT 2 [0,0]))) (k:=?_)))))))))
 refine E2 (fuel:=7) [(7,0)] (fun w h=>(h.pkT 2 [0,0])) (k:=A9 8 kr (fun w h=>(h.pkT 2 [0,0])) (D0 1 4 rfl rfl (B4 kr rfl)) (E2 (fuel:=4) [(9,0),(11,0)] (fun w h=>(h.pkT 2 [0,0])) (k:=P4 10 12 (k:=?_) (k':=?_))))
 ·
  refine J5 (ch:=[]) (kt:=9) (et:=85) (r:=cb) (c:=cc) (m:=cm) (k:=dir) (z:=.slice none 0 0) (ov:=(some (rv))) (hA:=At.grp 2 0 rfl rfl) (hg:=(fun _=>hg)) (kk:=A7 kr (fun w h=>(h.pkT 2 [0,0])) (C2 12 (k:=N2 86 1 [.map (some q)] (fun b3=>A7 kr (fun w h=>(h.pkT 3 [1,1])) (I0 ([(b3,.cells #[.map (some q)] 86 (0,0))]::[(nb,.map (B3 ((F3 (nm,nc) dn1).1)) ((F3 (nm,nc) dn1).2))]::[(d,.cells #[.int .i64 room,bv,.map (some nb),.map (some kb),.map (some cb),.bool fails,.bool once,.int .i64 calls] 64 (0,0))]::H) (fun w h=>(h.pk 1 [1,1])) (C2 13 (k:=GL_ap (inf:=Tryz.t86) 1 0 4 rfl rfl hO (by omega) (by show (m+1) * 8≤140737488355328; omega) (fun v4 g5 hO6=>?_))))))))
  refine A7 kr (fun w h=>(h.pkT 2 [0,0,0])) (I0 ([(b3,.cells #[.map (some q)] 86 (0,0))]::[(nb,.map (B3 ((F3 (nm,nc) dn1).1)) ((F3 (nm,nc) dn1).2))]::[(d,.cells #[.int .i64 room,bv,.map (some nb),.map (some kb),.map (some cb),.bool fails,.bool once,.int .i64 calls] 64 (0,0))]::g5::H) (fun w h=>(h.pk 1 [0,0,0])) (C2 14 (k:=I1 (ch:=[]) (kt:=9) (et:=85) (r:=cb) (c:=cc) (j:=3) (q:=0) (m:=cm) (k:=dir) (v:=v4) (H':=([(b3,.cells #[.map (some q)] 86 (0,0))]::[(nb,.map (B3 ((F3 (nm,nc) dn1).1)) ((F3 (nm,nc) dn1).2))]::[(d,.cells #[.int .i64 room,bv,.map (some nb),.map (some kb),.map (some cb),.bool fails,.bool once,.int .i64 calls] 64 (0,0))]::[(cb,.map (B3 (H8 cm cc dir (v4))) (if T1 cm dir then cc else cc+1))]::g5::H)) (hop:=.inl rfl) (kk:=A7 kr (fun w h=>(h.pkT 1 [0,0,0,1])) (D8 (E':=[]) [] (k:=N_pk 1 [2,1,1,1] (C5 [] [] (k:=?_))))))))
  exact ⟨_,_,g5,hdn2,hO6,rfl,rfl⟩
 ·
  refine N2 86 1 [.map (some q)] (fun b7=>A7 kr (fun w h=>(h.pkT 3 [1,1])) (I0 ([(b7,.cells #[.map (some q)] 86 (0,0))]::[(nb,.map (B3 ((F3 (nm,nc) dn1).1)) ((F3 (nm,nc) dn1).2))]::[(d,.cells #[.int .i64 room,bv,.map (some nb),.map (some kb),.map (some cb),.bool fails,.bool once,.int .i64 calls] 64 (0,0))]::H) (fun w h=>(h.pk 1 [1,1])) (C2 10 (k:=J5 (ch:=[]) (kt:=9) (et:=85) (r:=cb) (c:=cc) (m:=cm) (k:=dir) (z:=.slice none 0 0) (ov:=(some (rv))) (hA:=At.grp 3 0 rfl rfl) (hg:=(fun _=>hg)) (kk:=A7 kr (fun w h=>(h.pkT 2 [0,0,0])) (C2 13 (k:=GL_ap (inf:=Tryz.t86) 1 0 4 rfl rfl hO (by omega) (by show (m+1) * 8≤140737488355328; omega) (fun v8 g9 hO10=>?_))))))))
  refine A7 kr (fun w h=>(h.pkT 2 [0,0,0])) (I0 ([(b7,.cells #[.map (some q)] 86 (0,0))]::[(nb,.map (B3 ((F3 (nm,nc) dn1).1)) ((F3 (nm,nc) dn1).2))]::[(d,.cells #[.int .i64 room,bv,.map (some nb),.map (some kb),.map (some cb),.bool fails,.bool once,.int .i64 calls] 64 (0,0))]::g9::H) (fun w h=>(h.pk 1 [0,0,0])) (C2 14 (k:=I1 (ch:=[]) (kt:=9) (et:=85) (r:=cb) (c:=cc) (j:=3) (q:=0) (m:=cm) (k:=dir) (v:=v8) (H':=([(b7,.cells #[.map (some q)] 86 (0,0))]::[(nb,.map (B3 ((F3 (nm,nc) dn1).1)) ((F3 (nm,nc) dn1).2))]::[(d,.cells #[.int .i64 room,bv,.map (some nb),.map (some kb),.map (some cb),.bool fails,.bool once,.int .i64 calls] 64 (0,0))]::[(cb,.map (B3 (H8 cm cc dir (v8))) (if T1 cm dir then cc else cc+1))]::g9::H)) (hop:=.inl rfl) (kk:=A7 kr (fun w h=>(h.pkT 1 [0,0,0,1])) (D8 (E':=[]) [] (k:=N_pk 1 [2,1,1,1] (C5 [] [] (k:=?_))))))))
  exact ⟨_,_,g9,hdn2,hO10,rfl,rfl⟩
end Go.Proofs.YtdolpaagdpeagaaGreatDoor
namespace Go.Vf
open Go.Sw Go.RowKit
theorem A8 {W0:World} {H H':List Grp} {w:World} (h:Sat W0 H w) (hc:∀ (_:DecidableEq (Nat × Obj)) (x:Nat × Obj),H.flatten.count x=H'.flatten.count x):Sat W0 H' w :=
  h.flat (by
    have inst:DecidableEq (Nat × Obj):=Classical.typeDecidableEq _
    exact List.perm_iff_count.2 (hc inst))
theorem _root_.Go.Sw.Sat.dropApp {W0:World} {K L:List Grp} {w:World} (h:Sat W0 (K++L) w):Sat W0 L w:=h.subl (by rw [List.flatten_append]; exact List.sublist_append_right _ _)
theorem at_app {W0:World} {K L:List Grp} {b:Nat} {o:Obj} (h:At W0 K b o):At W0 (K++L) b o:=by
  rcases h with h | h
  · exact .inl h
  · exact .inr (by rw [List.flatten_append]; exact List.mem_append_left _ h)
theorem at_app2 {W0:World} {K L:List Grp} {b:Nat} {o:Obj} (h:At W0 L b o):At W0 (K++L) b o:=by
  rcases h with h | h
  · exact .inl h
  · exact .inr (by rw [List.flatten_append]; exact List.mem_append_right _ h)
structure RW where
  dir:ByteArray
  v:Value
  g:Grp
  qs:List Nat
def F7 (rows:List RW):List Grp:=rows.map (·.g)
def rowV (r:RW):Prop:=Go.Sw.Own 86 1 r.v r.g r.qs.length (r.qs.map fun q=>Value.map (some q))∧0<r.qs.length
def Y9 (cm:SM) (rows:List RW):Prop:=cm.map (fun e=>(e.1,e.2.1))=rows.map (fun r=>(r.dir,r.v))∧∀ r∈rows,rowV r
def M7:List RW→ByteArray→List Nat
  | [],_=>[]
  | r::l,d=>if d==r.dir then r.qs else M7 l d
def RowsAdd (rows:List RW) (dir:ByteArray) (q:Nat) (rows':List RW):Prop :=
  ((∀ r∈rows,(dir==r.dir)=false)∧∃ v g,rows'=rows++[⟨dir,v,g,[q]⟩])∨∃ pre r post v g,rows=pre++r::post∧(∀ r∈pre,(dir==r.dir)=false)∧r.dir=dir∧rows'=pre++⟨dir,v,g,r.qs++[q]⟩::post
theorem X2 {d:ByteArray}:∀ {l r:List RW},(∀ x∈l,(d==x.dir)=false)→M7 (l++r) d=M7 r d
  | [],_,_=>rfl
  | x::l,r,h=>by
    rw [List.cons_append,M7,h x List.mem_cons_self]
    simp only [Bool.false_eq_true,if_false]
    exact X2 fun y hy=>h y (List.mem_cons_of_mem _ hy)
theorem rowOf_none {d:ByteArray} {l:List RW} (h:∀ x∈l,(d==x.dir)=false):M7 l d=[]:=by
  have:=X2 (r:=[]) h
  rwa [List.append_nil] at this
theorem rowOf_app' {d:ByteArray}:∀ {l r r':List RW},(M7 r d=M7 r' d)→M7 (l++r) d=M7 (l++r') d
  | [],_,_,h=>h
  | x::l,r,r',h=>by
    rw [List.cons_append,List.cons_append,M7,M7]
    split
    · rfl
    · exact rowOf_app' h
theorem rowsAdd_of {rows rows':List RW} {dir:ByteArray} {q:Nat} (h:RowsAdd rows dir q rows') (d:ByteArray):M7 rows' d=if d==dir then M7 rows d++[q] else M7 rows d:=by
  rcases h with ⟨h,v,g,rfl⟩ | ⟨pre,r,post,v,g,rfl,h,hd,rfl⟩
  · cases hk:d==dir
    · simp only [Bool.false_eq_true,if_false]
      have:M7 (rows++[⟨dir,v,g,[q]⟩]) d=M7 (rows++[]) d:=rowOf_app' (by simp [M7,hk])
      rw [this,List.append_nil]
    · rw [baEq] at hk; subst hk
      simp only [if_true]
      rw [X2 h,rowOf_none h,M7,if_pos (baEq.2 rfl)]; rfl
  · cases hk:d==dir
    · simp only [Bool.false_eq_true,if_false]
      exact rowOf_app' (by rw [M7,M7,hd,hk]; rfl)
    · rw [baEq] at hk; subst hk
      simp only [if_true]
      rw [X2 h,X2 h,M7,M7,hd,if_pos (baEq.2 rfl),if_pos (baEq.2 rfl)]
theorem mget_none {m:SM} {k:ByteArray}:R9 m k=none ↔ ∀ e∈m,(k==e.1)=false:=by
  have h:∀ (m:SM) (i:Nat),V5 k m i=none ↔ ∀ e∈m,(k==e.1)=false:=by
    intro m
    induction m with
    | nil=>intro i; simp [V5]
    | cons e m ih =>
      intro i
      rw [V5]
      cases hk:k==e.1
      · simp only [Bool.false_eq_true,if_false,ih (i+1)]
        constructor
        · intro h x hx; rcases List.mem_cons.1 hx with rfl | hx
          · exact hk
          · exact h x hx
        · intro h x hx; exact h x (List.mem_cons_of_mem _ hx)
      · simp only [if_true,reduceCtorEq,false_iff]
        intro h; rw [h e List.mem_cons_self] at hk; cases hk
  unfold R9
  rw [Option.map_eq_none_iff]
  exact h m 0
theorem mfind_i (k:ByteArray):∀ (m:SM) (i j:Nat),(V5 k m i).map (·.2)=(V5 k m j).map (·.2)
  | [],_,_=>rfl
  | e::m,i,j=>by
    rw [V5,V5]
    split
    · rfl
    · exact mfind_i k m _ _
theorem K9 (e:ByteArray × Value × Nat) (m:SM) (k:ByteArray):R9 (e::m) k=if k==e.1 then some e.2.1 else R9 m k:=by
  unfold R9
  rw [V5]
  split
  · rfl
  · exact mfind_i k m _ _
theorem mget_split {m:SM} {k:ByteArray} {v:Value} (h:R9 m k=some v):∃ pre c post,m=pre++(k,v,c)::post∧∀ e∈pre,(k==e.1)=false:=by
  induction m with
  | nil=>cases h
  | cons e m ih =>
    rw [K9] at h
    cases hk:k==e.1
    · rw [hk] at h
      simp only [Bool.false_eq_true,if_false] at h
      obtain ⟨pre,c,post,rfl,hp⟩:=ih h
      exact ⟨e::pre,c,post,rfl,fun x hx=>by rcases List.mem_cons.1 hx with rfl | hx; exact hk; exact hp x hx⟩
    · rw [hk] at h
      simp only [if_true,Option.some.injEq] at h
      obtain ⟨a,b,c⟩:=e
      rw [baEq] at hk; subst hk; subst h
      exact ⟨[],c,m,rfl,fun x hx=>absurd hx List.not_mem_nil⟩
theorem mput_split {pre post:SM} {k:ByteArray} {v v':Value} {c c':Nat} (hp:∀ e∈pre,(k==e.1)=false):H8 (pre++(k,v,c)::post) c' k v'=pre++(k,v',c)::post:=by
  induction pre with
  | nil=>rw [List.nil_append,H8,if_pos (baEq.2 rfl)]; rfl
  | cons e pre ih =>
    rw [List.cons_append,H8,hp e List.mem_cons_self]
    simp only [Bool.false_eq_true,if_false]
    rw [ih fun x hx=>hp x (List.mem_cons_of_mem _ hx)]; rfl
theorem rows_none {cm:SM} {rows:List RW} (h:Y9 cm rows) {dir:ByteArray} (hg:R9 cm dir=none):∀ r∈rows,(dir==r.dir)=false:=by
  intro r hr
  have:(r.dir,r.v)∈cm.map (fun e=>(e.1,e.2.1)):=by rw [h.1]; exact List.mem_map.2 ⟨r,hr,rfl⟩
  obtain ⟨e,he,h2⟩:=List.mem_map.1 this
  have:=mget_none.1 hg e he
  rw [(Prod.mk.injEq _ _ _ _ ▸ h2:e.1=r.dir∧_).1] at this
  exact this
theorem rows_some {cm:SM} {rows:List RW} (h:Y9 cm rows) {dir:ByteArray} {rv:Value} (hg:R9 cm dir=some rv) :
    ∃ pre r post c p1 p2,rows=pre++r::post∧cm=p1++(dir,rv,c)::p2∧(∀ e∈p1,(dir==e.1)=false)∧(∀ r∈pre,(dir==r.dir)=false)∧r.dir=dir∧r.v=rv∧p1.map (fun e=>(e.1,e.2.1))=pre.map (fun r=>(r.dir,r.v))∧p2.map (fun e=>(e.1,e.2.1))=post.map (fun r=>(r.dir,r.v)):=by
  obtain ⟨p1,c,p2,rfl,hp⟩:=mget_split hg
  have h1:=h.1
  rw [List.map_append,List.map_cons] at h1
  obtain ⟨pre,rest,rfl,h2,h3⟩:=List.map_eq_append_iff.1 h1.symm
  obtain ⟨r,post,rfl,h4,h5⟩:=List.map_eq_cons_iff.1 h3
  injection h4 with h6 h7
  refine ⟨pre,r,post,c,p1,p2,rfl,rfl,hp,fun x hx=>?_,h6,h7,h2.symm,h5.symm⟩
  have:(x.dir,x.v)∈p1.map (fun e=>(e.1,e.2.1)):=by rw [← h2]; exact List.mem_map.2 ⟨x,hx,rfl⟩
  obtain ⟨e,he,h8⟩:=List.mem_map.1 this
  have:=hp e he
  rw [(Prod.mk.injEq _ _ _ _ ▸ h8:e.1=x.dir∧_).1] at this
  exact this
end Go.Vf
namespace Go.Proofs.YtdolpaagdpeagaaGreatDoor
open Go.Sw Go.Vf Go.RowKit
theorem vName (d nb kb cb q nc cc xc:Nat) (room calls:Int) (bv:Value) (fails once:Bool) (nm cm xm:SM) (dir:ByteArray) (hn:MapOk nm nc) (hx:MapOk xm xc) (hv:∀ e∈xm,e.2.1=.pointer none∨∃ p,e.2.1=.pointer (some ⟨p,0,none⟩)) (rows:List RW) (hR:Y9 cm rows) (hl:∀ r∈rows,r.qs.length≤1000000) (K:List Grp) (W0:World) (H:List Grp) (hA:At W0 K q (.map (B3 xm) xc)) :
    Tri Tryz.prog 73 #[.pointer (some ⟨d,0,none⟩),.string dir,.map (some q)] W0 ([(d,.cells #[.int .i64 room,bv,.map (some nb),.map (some kb),.map (some cb),.bool fails,.bool once,.int .i64 calls] 64 (0,0))]::[(nb,.map (B3 nm) nc)]::[(cb,.map (B3 cm) cc)]::(K++(F7 rows++H)))
      (fun v H'=>∃ dn x rows',dn.Perm xm∧v=.tuple #[]∧Y9 (H8 cm cc dir x) rows'∧RowsAdd rows dir q rows'∧H'=[(d,.cells #[.int .i64 room,bv,.map (some nb),.map (some kb),.map (some cb),.bool fails,.bool once,.int .i64 calls] 64 (0,0))]::[(nb,.map (B3 (F3 (nm,nc) dn).1) (F3 (nm,nc) dn).2)]::[(cb,.map (B3 (H8 cm cc dir x)) (if T1 cm dir then cc else cc+1))]::(K++(F7 rows'++H))):=by
  cases hg:R9 cm dir with
  | none =>
    have hno:=rows_none hR hg
    refine Tri.post (vNameNew d nb kb cb q nc cc xc room calls bv fails once nm cm xm dir hn hx hv hg W0 (K++(F7 rows++H)) (at_app hA)) fun v H1 h=>?_
    obtain ⟨dn,x,g,hd,ho,hv1,hH⟩:=h
    refine ⟨_,⟨dn,x,rows++[⟨dir,x,g,[q]⟩],hd,hv1,⟨?_,?_⟩,.inl ⟨hno,x,g,rfl⟩,rfl⟩,fun w hw=>?_⟩
    · have hm:T1 cm dir=false:=mhas_false.2 (mget_none.1 hg)
      rw [mput_new _ _ hm,List.map_append,List.map_append,hR.1]; rfl
    · intro r hr
      rcases List.mem_append.1 hr with hr | hr
      · exact hR.2 r hr
      · rw [List.mem_singleton.1 hr]; exact ⟨ho,Nat.one_pos⟩
    · rw [hH] at hw
      refine A8 hw fun _ x=>?_
      simp only [F7,List.map_append,List.map_cons,List.map_nil,List.flatten_cons,List.flatten_append,List.flatten_nil,List.count_append,List.append_nil]
      omega
  | some rv =>
    obtain ⟨pre,r,post,c,p1,p2,rfl,rfl,hp1,hpre,hd,hrv,e1,e2⟩:=rows_some hR hg
    obtain ⟨ho,hpos⟩:=hR.2 r (List.mem_append_right _ List.mem_cons_self)
    have hq:=hl r (List.mem_append_right _ List.mem_cons_self)
    rw [hrv] at ho
    refine Tri.heap (H':=[(d,.cells #[.int .i64 room,bv,.map (some nb),.map (some kb),.map (some cb),.bool fails,.bool once,.int .i64 calls] 64 (0,0))]::[(nb,.map (B3 nm) nc)]::[(cb,.map (B3 (p1++(dir,rv,c)::p2)) cc)]::r.g::(K++(F7 pre++(F7 post++H)))) (fun w hw=>A8 hw fun _ x=>?_)
      (Tri.post (vNameMore d nb kb cb q nc cc xc room calls bv fails once nm _ xm dir hn hx hv rv r.g r.qs.length _ ho hq hg W0 (K++(F7 pre++(F7 post++H))) (at_app hA)) fun v H1 h=>?_)
    · simp only [F7,List.map_append,List.map_cons,List.flatten_cons,List.flatten_append,List.count_append]
      omega
    · obtain ⟨dn,x,g,hdn,ho2,hv1,hH⟩:=h
      refine ⟨_,⟨dn,x,pre++⟨dir,x,g,r.qs++[q]⟩::post,hdn,hv1,⟨?_,?_⟩,.inr ⟨pre,r,post,x,g,rfl,hpre,hd,rfl⟩,rfl⟩,fun w hw=>?_⟩
      · rw [mput_split hp1]
        simp only [List.map_append,List.map_cons,e1,e2]
      · intro y hy
        rcases List.mem_append.1 hy with hy | hy
        · exact hR.2 y (List.mem_append_left _ hy)
        · rcases List.mem_cons.1 hy with rfl | hy
          · refine ⟨?_,by simp⟩
            show Go.Sw.Own 86 1 x g (r.qs++[q]).length ((r.qs++[q]).map _)
            rw [List.map_append,List.length_append]; exact ho2
          · exact hR.2 y (List.mem_append_right _ (List.mem_cons_of_mem _ hy))
      · rw [hH] at hw
        refine A8 hw fun _ x=>?_
        simp only [F7,List.map_append,List.map_cons,List.flatten_cons,List.flatten_append,List.count_append]
        omega
end Go.Proofs.YtdolpaagdpeagaaGreatDoor
namespace Go.Proofs.YtdolpaagdpeagaaGreatDoor
open Go Go.ChangeShapes Go.WideShapes Go.ChangeAt Go.RowKit Go.Sw
theorem frozen_below {W W':World} (h:Below W.heap.size W W') {a:Addr} (ha:a.block<W.heap.size):W'.frozen? a=W.frozen? a:=by
  unfold World.frozen?
  rw [h.block _ ha]
theorem post_below {H:Type} {enc:TypeId × Value→H} {P:Program} {f:Func} {s:ChangeSpec} {apart fresh handsOn again:Bool} {W W':World} {args:Array Value} {v:Value} {ds gs:List (DataW H)} {before pa pv:List MemPlace}
    (hW:DataW.Whole enc P f.params.toList s.vars apart W args.toList ds gs before)
    (hres:∀ (b:Nat) (sp:Nat→Bool) (hd:Bool),DataW.TrodAll enc P W' b sp hd f.resultTypes.toList (v.resultList f.resultTypes.size) (s.fn H (ds++gs)).results [])
    (hargs:∀ sp:Nat→Bool,(∀ p∈before,sp p.block=true)→DataW.TrodAll enc P W' 0 sp true f.params.toList args.toList (s.fn H (ds++gs)).args pa)
    (hvars:∀ sp:Nat→Bool,(∀ p∈before,sp p.block=true)→DataW.TrodVars enc P W' sp s.vars (s.fn H (ds++gs)).vars pv)
    (hps:before=pa++pv) (hb:Below W.heap.size W W')
    (hok:∀ (j:Nat) (t:TypeId) (r:Value),f.resultTypes[j]? = some t→(v.resultList f.resultTypes.size)[j]? = some r→Value.okWide P W' .any 0 t r) :
    s.post enc P f apart fresh handsOn again W args v W':=by
  have hold:∀ p∈before,(fun b=>decide (b<W.heap.size)) p.block=true:=fun p hp=>by simpa using hW.lt p hp
  have hlt:=hW.lt
  refine ⟨ds,gs,before,[],pa,pv,hW,hres _ _ _,hargs _ hold,hvars _ hold,hb.frame _,fun _=>?_⟩
  obtain ⟨_,_,_,_,_,hz,hn⟩:=hW
  refine ⟨hok,_,_,([]++pa)++pv,⟨[]++pa,pv,trodAll_append (hargs _ (fun _ _=>rfl)) (hres _ _ _),hvars _ (fun _ _=>rfl),rfl,?_,?_⟩,?_⟩
  · intro b off hp
    have hp':MemPlace.cell b off∈before:=by rw [hps]; simpa using hp
    rw [frozen_below hb (hlt _ hp')]
    exact hz b off hp'
  · intro ha
    have:=hn ha
    rw [hps] at this
    simpa using this
  · intro p hp _
    rw [hps]
    simpa using hp
theorem sat_nil (W:World):Sat W [] W:=⟨Below.refl _ _,by simp,by simp,by simp⟩
end Go.Proofs.YtdolpaagdpeagaaGreatDoor
namespace Go.Vf
open Go.Sw Go.Proofs.YtdolpaagdpeagaaGreatDoor
instance:LawfulBEq ByteArray:={ eq_of_beq:=fun h=>baEq.1 h,rfl:=baEq.2 rfl }
structure Body where
  now:ByteArray
  kept:ByteArray
instance:Inhabited Body:=⟨⟨ByteArray.mk #[],ByteArray.mk #[]⟩⟩
abbrev Nm:=ByteArray × Int
structure Ch where
  dir:ByteArray
  l:List Nm
structure DM where
  room:Int
  bodies:List Body
  names:List Nm
  kept:List Nm
  changes:List Ch
  fails:Bool
  once:Bool
  calls:Int
def newM (room:Int):DM:=⟨if 0 > room then 0 else room,[],[],[],[],false,false,0⟩
def C9:List Nm→ByteArray→Option Int
  | [],_=>none
  | n::r,p=>if p==n.1 then some n.2 else C9 r p
def Z3 (l:List Nm) (x:Nm):List Nm:=l.filter (fun n=>!(x.1==n.1))++(if 0≤x.2 then [x] else [])
def E7 (l:List Nm) (c:List Nm):List Nm:=c.foldl Z3 l
def I5 (M:DM) (k:Int):Body:=M.bodies.getD k.toNat default
def sizeAt (M:DM) (k:Int):Nat:=(I5 M k).now.size
def V0 (M:DM):Nat:=(M.names.map fun x=>sizeAt M x.2).sum
def J9 (M:DM) (right:Bool):DM:={ M with fails:=(B7 M.fails M.once M.calls right).2.1,calls:=(B7 M.fails M.once M.calls right).2.2 }
def J0 (M:DM) (right:Bool):Int:=(B7 M.fails M.once M.calls right).1
def P3 (M:DM) (dir:ByteArray) (l:List Nm):DM:={ M with names:=E7 M.names l,changes:=M.changes++[⟨dir,l⟩] }
def wasM (M:DM) (p:ByteArray):Nat:=match C9 M.names p with | none=>0 | some k=>sizeAt M k
def E5 (M:DM) (p b:ByteArray):Int × DM :=
  if J0 M (A4 p)≠0 then (J0 M (A4 p),J9 M (A4 p))
  else if (V0 M:Int) - (wasM M p:Int)+(b.size:Int) > M.room then (61,J9 M (A4 p))
  else (0,P3 { J9 M (A4 p) with bodies:=M.bodies++[⟨b,ByteArray.mk #[]⟩] } (dirB p) [(p,(M.bodies.length:Int))])
def setBody (M:DM) (k:Int) (b:Body):DM:={ M with bodies:=M.bodies.set k.toNat b }
def P1 (M:DM) (p:ByteArray):ByteArray × Int :=
  match C9 M.names p with
  | none=>(ByteArray.mk #[],60)
  | some k=>((I5 M k).now,0)
def renR (p q:ByteArray):Bool:=(A4 p&&A4 q)&&((dirB p).toList==(dirB q).toList)
def H9 (M:DM) (p q:ByteArray):Int × DM :=
  if J0 M (renR p q)≠0 then (J0 M (renR p q),J9 M (renR p q))
  else match C9 M.names p with
    | none=>(60,J9 M (renR p q))
    | some k=>(0,if p==q then J9 M (renR p q) else P3 (J9 M (renR p q)) (dirB q) [(p,-1),(q,k)])
def J6 (M:DM) (p:ByteArray):Int × DM :=
  if J0 M (A4 p)≠0 then (J0 M (A4 p),J9 M (A4 p))
  else match C9 M.names p with
    | none=>(60,J9 M (A4 p))
    | some _=>(0,P3 (J9 M (A4 p)) (dirB p) [(p,-1)])
def N5 (M:DM) (p:ByteArray):Int × DM :=
  if J0 M (A4 p)≠0 then (J0 M (A4 p),J9 M (A4 p))
  else match C9 M.names p with
    | none=>(60,J9 M (A4 p))
    | some k=>(0,setBody (J9 M (A4 p)) k ⟨(I5 M k).now,(I5 M k).now⟩)
def H7 (l:List Ch) (d:ByteArray):List (List Nm):=(l.filter fun c=>d==c.dir).map (·.l)
def dirR (d:ByteArray):Bool:=(d.toList==eB.toList)||G2 d
def H5 (M:DM) (d:ByteArray):Int × DM :=
  if J0 M (dirR d)≠0 then (J0 M (dirR d),J9 M (dirR d))
  else (0,{ J9 M (dirR d) with kept:=(H7 M.changes d).foldl E7 M.kept,changes:=M.changes.filter fun c=>!(d==c.dir) })
def P2 (M:DM) (d:ByteArray):List ByteArray:=R1 ((M.names.filter fun n=>(dirB n.1).toList==d.toList).map Prod.fst)
def failM (M:DM) (calls:Int) (once:Bool):DM:={ M with fails:=true,once:=once,calls:=if 0 > calls then 0 else calls }
def onceL:List ByteArray→List ByteArray
  | []=>[]
  | x::r=>if x∈onceL r then onceL r else x::onceL r
def dirsOf (l:List Ch):List ByteArray:=R1 (onceL (l.map (·.dir)))
def O8:List Body→List Int→List Body × List Int
  | [],l=>([],l)
  | b::r,l =>
    if (b.now.size:Int) - (b.kept.size:Int) > 0 then
      let x:=b.now.extract 0 (b.kept.size+(E3 (l.headD 0) ((b.now.size:Int) - (b.kept.size:Int)+1)).toNat)
      (⟨x,x⟩::(O8 r (l.drop 1)).1,(O8 r (l.drop 1)).2)
    else (⟨b.kept,b.kept⟩::(O8 r l).1,(O8 r l).2)
def Q8 (l:List Ch):List ByteArray→List Int→List Nm→List Nm
  | [],_,K=>K
  | d::r,ks,K=>Q8 l r (ks.drop 1) (((H7 l d).take (E3 (ks.headD 0) (((H7 l d).length:Int)+1)).toNat).foldl E7 K)
def N3 (M:DM) (ks:List Int):DM :=
  { M with bodies:=(O8 M.bodies ks).1,names:=Q8 M.changes (dirsOf M.changes) (O8 M.bodies ks).2 M.kept,kept:=Q8 M.changes (dirsOf M.changes) (O8 M.bodies ks).2 M.kept,changes:=[],fails:=false }
end Go.Vf
namespace Go.Vf
open Go.Sw
inductive All2 {α β:Type} (R:α→β→Prop):List α→List β→Prop
  | nil:All2 R [] []
  | cons {a:α} {b:β} {l:List α} {m:List β} (h:R a b) (t:All2 R l m):All2 R (a::l) (b::m)
theorem All2.len {α β:Type} {R:α→β→Prop} {l:List α} {m:List β} (h:All2 R l m):l.length=m.length:=by
  induction h with
  | nil=>rfl
  | cons _ _ ih=>simp [ih]
theorem All2.imp {α β:Type} {R R':α→β→Prop} {l:List α} {m:List β} (h:All2 R l m) (hi:∀ a b,R a b→R' a b):All2 R' l m:=by
  induction h with
  | nil=>exact .nil
  | cons h _ ih=>exact .cons (hi _ _ h) ih
theorem All2.app {α β:Type} {R:α→β→Prop} {l l':List α} {m m':List β} (h:All2 R l m) (h':All2 R l' m'):All2 R (l++l') (m++m'):=by
  induction h with
  | nil=>exact h'
  | cons h _ ih=>exact .cons h ih
theorem All2.take {α β:Type} {R:α→β→Prop} {l:List α} {m:List β} (h:All2 R l m):∀ n:Nat,All2 R (l.take n) (m.take n):=by
  induction h with
  | nil=>intro n; simp; exact .nil
  | cons h _ ih =>
    intro n
    cases n with
    | zero=>exact .nil
    | succ n=>exact .cons h (ih n)
theorem All2.get {α β:Type} {R:α→β→Prop} {l:List α} {m:List β} (h:All2 R l m) (da:α) (db:β):∀ i:Nat,i<l.length→R (l.getD i da) (m.getD i db):=by
  induction h with
  | nil=>intro i h; simp at h
  | cons h _ ih =>
    intro i hi
    cases i with
    | zero=>exact h
    | succ i=>exact ih i (by simpa using hi)
theorem All2.set {α β:Type} {R:α→β→Prop} {l:List α} {m:List β} (h:All2 R l m) {a:α} {b:β} (hab:R a b):∀ i:Nat,All2 R (l.set i a) (m.set i b):=by
  induction h with
  | nil=>intro i; exact .nil
  | cons h t ih =>
    intro i
    cases i with
    | zero=>exact .cons hab t
    | succ i=>exact .cons h (ih i)
theorem nodup_of_map {α β:Type} {f:α→β} {l:List α} (h:(l.map f).Nodup):l.Nodup:=List.Pairwise.of_map f (fun _ _ h e=>h (congrArg f e)) h
theorem lookN_none {l:List Nm} {p:ByteArray}:C9 l p=none ↔ ∀ n∈l,(p==n.1)=false:=by
  induction l with
  | nil=>simp [C9]
  | cons n l ih =>
    rw [C9]
    cases h:p==n.1
    · simp only [Bool.false_eq_true,if_false,ih]
      exact ⟨fun h2 x hx=>by rcases List.mem_cons.1 hx with rfl | hx; exact h; exact h2 x hx,fun h2 x hx=>h2 x (List.mem_cons_of_mem _ hx)⟩
    · simp only [if_true,reduceCtorEq,false_iff]
      intro h2; rw [h2 n List.mem_cons_self] at h; cases h
theorem X7 {l:List Nm} {p:ByteArray} {k:Int} (h:C9 l p=some k):(p,k)∈l:=by
  induction l with
  | nil=>cases h
  | cons n l ih =>
    rw [C9] at h
    split at h
    · rename_i hk
      injection h with h; subst h
      rw [baEq] at hk; subst hk
      exact List.mem_cons_self
    · exact List.mem_cons_of_mem _ (ih h)
theorem lookN_of {l:List Nm} {p:ByteArray} {k:Int} (hn:(l.map Prod.fst).Nodup) (h:(p,k)∈l):C9 l p=some k:=by
  induction l with
  | nil=>cases h
  | cons n l ih =>
    rw [List.map_cons,List.nodup_cons] at hn
    rw [C9]
    rcases List.mem_cons.1 h with rfl | h
    · rw [if_pos (baEq.2 rfl)]
    · rw [if_neg,ih hn.2 h]
      intro hk
      rw [baEq] at hk
      exact hn.1 (List.mem_map.2 ⟨(p,k),h,hk⟩)
theorem lookN_app {l r:List Nm} {p:ByteArray}:C9 (l++r) p=(C9 l p).or (C9 r p):=by
  induction l with
  | nil=>simp [C9]
  | cons n l ih =>
    rw [List.cons_append,C9,C9]
    split
    · simp
    · exact ih
theorem lookN_filter {l:List Nm} {p q:ByteArray}:C9 (l.filter fun n=>!(q==n.1)) p=if p==q then none else C9 l p:=by
  induction l with
  | nil=>simp [C9]
  | cons n l ih =>
    rw [List.filter_cons]
    cases hq:q==n.1
    · simp only [Bool.not_false,if_true]
      rw [C9,C9,ih]
      cases hp:p==n.1
      · simp
      · simp only [if_true]
        rw [baEq] at hp; subst hp
        rw [if_neg]
        intro h; rw [baEq] at h; rw [baNe] at hq; exact hq h.symm
    · simp only [Bool.not_true,Bool.false_eq_true,if_false]
      rw [ih,C9]
      rw [baEq] at hq; subst hq
      cases hp:p==n.1 <;> simp
theorem S6 {l:List Nm} {x:Nm} {p:ByteArray}:C9 (Z3 l x) p=if p==x.1 then (if 0≤x.2 then some x.2 else none) else C9 l p:=by
  unfold Z3
  rw [lookN_app,lookN_filter]
  cases h:p==x.1
  · simp only [Bool.false_eq_true,if_false]
    split
    · rw [C9,h]; simp [C9]
    · simp [C9]
  · simp only [if_true,Option.none_or]
    split
    · rw [C9,h]; simp
    · simp [C9]
theorem nodup_with {l:List Nm} {x:Nm} (h:(l.map Prod.fst).Nodup):((Z3 l x).map Prod.fst).Nodup:=by
  unfold Z3
  rw [List.map_append,List.nodup_append]
  refine ⟨h.sublist (List.Sublist.map _ List.filter_sublist),?_,?_⟩
  · split <;> simp
  · intro a ha b hb
    split at hb
    · simp only [List.map_cons,List.map_nil,List.mem_singleton] at hb
      obtain ⟨n,hn,rfl⟩:=List.mem_map.1 ha
      have:=(List.mem_filter.1 hn).2
      subst hb
      intro he
      rw [he] at this
      simp at this
    · cases hb
theorem mem_with {l:List Nm} {x y:Nm} (h:y∈Z3 l x):y∈l∨(y=x∧0≤x.2):=by
  unfold Z3 at h
  rcases List.mem_append.1 h with h | h
  · exact .inl (List.mem_filter.1 h).1
  · split at h
    · rename_i hx; exact .inr ⟨List.mem_singleton.1 h,hx⟩
    · cases h
theorem lookN_apply {c:List Nm}:∀ {l:List Nm} {p:ByteArray},(c.map Prod.fst).Nodup→C9 (E7 l c) p=match C9 c p with | none=>C9 l p | some k=>if 0≤k then some k else none:=by
  induction c with
  | nil=>intro l p _; rfl
  | cons x c ih =>
    intro l p hn
    rw [List.map_cons,List.nodup_cons] at hn
    show C9 (E7 (Z3 l x) c) p=_
    rw [ih hn.2,S6,C9]
    cases h:p==x.1
    · simp
    · simp only [if_true]
      have:C9 c p=none:=lookN_none.2 fun n hm=>by
        rw [baEq] at h; subst h
        rw [baNe]; intro he
        exact hn.1 (List.mem_map.2 ⟨n,hm,he.symm⟩)
      rw [this]
theorem nodup_apply {c:List Nm}:∀ {l:List Nm},(l.map Prod.fst).Nodup→((E7 l c).map Prod.fst).Nodup:=by
  induction c with
  | nil=>intro l h; exact h
  | cons x c ih=>intro l h; exact ih (nodup_with h)
theorem mem_apply {c:List Nm}:∀ {l:List Nm} {y:Nm},y∈E7 l c→y∈l∨(y∈c∧0≤y.2):=by
  induction c with
  | nil=>intro l y h; exact .inl h
  | cons x c ih =>
    intro l y h
    rcases ih (l:=Z3 l x) h with h | h
    · rcases mem_with h with h | ⟨rfl,h⟩
      · exact .inl h
      · exact .inr ⟨List.mem_cons_self,h⟩
    · exact .inr ⟨List.mem_cons_of_mem _ h.1,h.2⟩
theorem mget_mem {m:SM} {p:ByteArray} {v:Value} (h:R9 m p=some v):∃ c,(p,v,c)∈m:=by
  obtain ⟨pre,c,post,rfl,_⟩:=mget_split h
  exact ⟨c,List.mem_append_right _ List.mem_cons_self⟩
theorem mget_of {m:SM} {p:ByteArray} {v:Value} {c:Nat} (hn:(m.map Prod.fst).Nodup) (h:(p,v,c)∈m):R9 m p=some v:=by
  induction m with
  | nil=>cases h
  | cons n m ih =>
    rw [List.map_cons,List.nodup_cons] at hn
    rw [K9]
    rcases List.mem_cons.1 h with rfl | h
    · rw [if_pos (baEq.2 rfl)]
    · rw [if_neg,ih hn.2 h]
      intro hk
      rw [baEq] at hk
      exact hn.1 (List.mem_map.2 ⟨(p,v,c),h,hk⟩)
theorem _root_.Go.Sw.MapOk.nodup {m:SM} {c:Nat} (h:MapOk m c):(m.map Prod.fst).Nodup:=pw_keys.1 h.keys
theorem mget_perm {m m':SM} (h:m.Perm m') (hn:(m.map Prod.fst).Nodup) (p:ByteArray):R9 m p=R9 m' p:=by
  have hn':(m'.map Prod.fst).Nodup:=(h.map _).nodup_iff.1 hn
  cases h1:R9 m p with
  | none =>
    refine (mget_none.2 fun e he=>?_).symm
    exact mget_none.1 h1 e (h.mem_iff.2 he)
  | some v =>
    obtain ⟨c,hm⟩:=mget_mem h1
    exact (mget_of hn' (h.mem_iff.1 hm)).symm
theorem mget_put {m:SM} {c:Nat} {k p:ByteArray} {v:Value}:R9 (H8 m c k v) p=if p==k then some v else R9 m p:=by
  induction m with
  | nil =>
    rw [H8,K9]
  | cons e m ih =>
    rw [H8]
    cases hk:k==e.1
    · simp only [Bool.false_eq_true,if_false]
      rw [K9,K9,ih]
      cases hp:p==e.1
      · simp
      · simp only [if_true]
        rw [baEq] at hp; subst hp
        rw [if_neg]
        intro h; rw [baEq] at h; rw [baNe] at hk; exact hk h.symm
    · simp only [if_true]
      rw [K9,K9]
      rw [baEq] at hk; subst hk
      cases hp:p==e.1 <;> simp
theorem mget_del {m:SM} {k p:ByteArray} (hn:(m.map Prod.fst).Nodup):R9 (mdel m k) p=if p==k then none else R9 m p:=by
  induction m with
  | nil=>rw [mdel]; split <;> rfl
  | cons e m ih =>
    rw [List.map_cons,List.nodup_cons] at hn
    rw [mdel]
    cases hk:k==e.1
    · simp only [Bool.false_eq_true,if_false]
      rw [K9,K9,ih hn.2]
      cases hp:p==e.1
      · simp
      · simp only [if_true]
        rw [baEq] at hp; subst hp
        rw [if_neg]
        intro h; rw [baEq] at h; rw [baNe] at hk; exact hk h.symm
    · simp only [if_true]
      rw [K9]
      rw [baEq] at hk; subst hk
      cases hp:p==e.1
      · simp
      · simp only [if_true]
        rw [baEq] at hp; subst hp
        exact mget_none.2 fun x hx=>by
          rw [baNe]; intro he
          exact hn.1 (List.mem_map.2 ⟨x,hx,he.symm⟩)
def nilV:Value→Bool
  | .pointer none=>true
  | _=>false
theorem mget_st {s:SM × Nat} {e:ByteArray × Value × Nat} {p:ByteArray} (hn:(s.1.map Prod.fst).Nodup):R9 (stS s e).1 p=if p==e.1 then (if nilV e.2.1 then none else some e.2.1) else R9 s.1 p:=by
  unfold stS
  split
  · rename_i h
    rw [mget_del hn,h]; rfl
  · rename_i v h
    rw [mget_put]
    have:nilV e.2.1=false:=by
      cases hv:nilV e.2.1
      · rfl
      · exfalso
        unfold nilV at hv
        split at hv
        · rename_i h2; exact h h2
        · cases hv
    rw [this]; rfl
theorem mget_fold {dn:SM}:∀ {s:SM × Nat} {p:ByteArray},MapOk s.1 s.2→(dn.map Prod.fst).Nodup→R9 (F3 s dn).1 p=match R9 dn p with | none=>R9 s.1 p | some v=>if nilV v then none else some v:=by
  induction dn with
  | nil=>intro s p _ _; rfl
  | cons e dn ih =>
    intro s p hs hn
    rw [List.map_cons,List.nodup_cons] at hn
    show R9 (F3 (stS s e) dn).1 p=_
    rw [ih (hs.st e) hn.2,mget_st hs.nodup,K9]
    cases h:p==e.1
    · simp
    · simp only [if_true]
      have:R9 dn p=none:=mget_none.2 fun n hm=>by
        rw [baEq] at h; subst h
        rw [baNe]; intro he
        exact hn.1 (List.mem_map.2 ⟨n,hm,he.symm⟩)
      rw [this]
def ptrV (q:Nat):Value:=.pointer (some ⟨q,0,none⟩)
def ptrOf (ps:List Nat) (k:Int):Value:=ptrV (ps.getD k.toNat 0)
def chV (ps:List Nat) (k:Int):Value:=if 0≤k then ptrOf ps k else .pointer none
theorem chV_nil (ps:List Nat) (k:Int):nilV (chV ps k)=!decide (0≤k):=by
  unfold chV
  split
  · rename_i h; simp [ptrOf,ptrV,nilV,h]
  · rename_i h; simp [nilV,h]
structure NamesR (ps:List Nat) (nm:SM) (names:List Nm):Prop where
  look:∀ p,R9 nm p=(C9 names p).map (ptrOf ps)
  keys:(names.map Prod.fst).Nodup
  lt:∀ x∈names,0≤x.2∧x.2.toNat<ps.length
structure ChangeR (ps:List Nat) (x:SM) (l:List Nm):Prop where
  look:∀ p,R9 x p=(C9 l p).map (chV ps)
  keys:(l.map Prod.fst).Nodup
  lt:∀ y∈l,0≤y.2→y.2.toNat<ps.length
theorem ptrOf_mono {ps:List Nat} {q:Nat} {k:Int} (h:k.toNat<ps.length):ptrOf (ps++[q]) k=ptrOf ps k:=by
  unfold ptrOf
  rw [List.getD_eq_getElem?_getD,List.getD_eq_getElem?_getD,List.getElem?_append_left h]
theorem NamesR.mono {ps:List Nat} {nm:SM} {names:List Nm} (h:NamesR ps nm names) (q:Nat):NamesR (ps++[q]) nm names:=by
  refine ⟨fun p=>?_,h.keys,fun x hx=>⟨(h.lt x hx).1,by have:=(h.lt x hx).2; simp; omega⟩⟩
  rw [h.look p]
  cases hl:C9 names p with
  | none=>rfl
  | some k=>simp only [Option.map_some]; rw [ptrOf_mono (h.lt _ (X7 hl)).2]
theorem ChangeR.mono {ps:List Nat} {x:SM} {l:List Nm} (h:ChangeR ps x l) (q:Nat):ChangeR (ps++[q]) x l:=by
  refine ⟨fun p=>?_,h.keys,fun y hy h0=>by have:=h.lt y hy h0; simp; omega⟩
  rw [h.look p]
  cases hl:C9 l p with
  | none=>rfl
  | some k =>
    simp only [Option.map_some]
    unfold chV
    split
    · rename_i h0; rw [ptrOf_mono (h.lt _ (X7 hl) h0)]
    · rfl
theorem names_apply {ps:List Nat} {nm x dn:SM} {nc xc:Nat} {names l:List Nm} (h:NamesR ps nm names) (hn:MapOk nm nc) (hx:MapOk x xc) (hc:ChangeR ps x l) (hd:dn.Perm x) :
    NamesR ps (F3 (nm,nc) dn).1 (E7 names l):=by
  have hdn:(dn.map Prod.fst).Nodup:=(hd.map _).nodup_iff.2 hx.nodup
  refine ⟨fun p=>?_,nodup_apply h.keys,fun y hy=>?_⟩
  · rw [mget_fold hn hdn,mget_perm hd hdn,hc.look,lookN_apply hc.keys]
    cases hl:C9 l p with
    | none=>exact h.look p
    | some k =>
      simp only [Option.map_some]
      rw [chV_nil]
      by_cases h0:0≤k
      · simp [h0,chV]
      · simp [h0]
  · rcases mem_apply hy with hy | ⟨hy,h0⟩
    · exact h.lt y hy
    · exact ⟨h0,hc.lt y hy h0⟩
theorem names_made {ps:List Nat}:∀ {xs:List SM} {ls:List (List Nm)} {nm nm':SM} {nc nc':Nat} {names:List Nm},NamesR ps nm names→MapOk nm nc→All2 (fun x l=>(∃ c,MapOk x c)∧ChangeR ps x l) xs ls →
    MadeOf xs (nm,nc) (nm',nc')→NamesR ps nm' (ls.foldl E7 names)
  | [],[],_,_,_,_,_,h,_,.nil,hm=>by
    injection (show (_,_)=(_,_) from hm) with e1 e2
    subst e1; exact h
  | x::xs,l::ls,nm,nm',nc,nc',names,h,hn,.cons ⟨⟨c,hx⟩,hc⟩ hr,⟨dn,hd,hm⟩=>by
    exact names_made (ls:=ls) (nc:=(F3 (nm,nc) dn).2) (names_apply h hn hx hc hd) (MapOk.fold (s:=(nm,nc)) hn dn) hr hm
theorem names_perm {ps:List Nat} {nm:SM} {nc:Nat} {names:List Nm} (h:NamesR ps nm names) (hn:MapOk nm nc):(nm.map fun e=>(e.1,e.2.1)).Perm (names.map fun x=>(x.1,ptrOf ps x.2)):=by
  have n1:((nm.map fun e=>(e.1,e.2.1)).map Prod.fst).Nodup:=by rw [List.map_map]; exact hn.nodup
  have n2:((names.map fun x=>(x.1,ptrOf ps x.2)).map Prod.fst).Nodup:=by rw [List.map_map]; exact h.keys
  refine (List.perm_ext_iff_of_nodup (nodup_of_map n1) (nodup_of_map n2)).2 fun a=>?_
  obtain ⟨p,v⟩:=a
  constructor
  · intro ha
    obtain ⟨⟨k,u,c⟩,he,h2⟩:=List.mem_map.1 ha
    injection h2 with e1 e2
    simp only at e1 e2
    subst e1 e2
    have:=mget_of hn.nodup he
    rw [h.look] at this
    cases hl:C9 names k with
    | none=>rw [hl] at this; cases this
    | some i =>
      rw [hl] at this
      injection this with this
      exact List.mem_map.2 ⟨(k,i),X7 hl,by rw [← this]⟩
  · intro ha
    obtain ⟨⟨k,i⟩,he,h2⟩:=List.mem_map.1 ha
    injection h2 with e1 e2
    simp only at e1 e2
    subst e1 e2
    have hl:=lookN_of h.keys he
    have:=h.look k
    rw [hl] at this
    obtain ⟨c,hm⟩:=mget_mem this
    exact List.mem_map.2 ⟨_,hm,rfl⟩
end Go.Vf
namespace Go.Vf
open Go.Sw Go.RowKit Go.Proofs Go.Proofs.YtdolpaagdpeagaaGreatDoor
def Sh (a:Option Addr) (n cap:Nat):Prop:=(a=none∧n=0∧cap=0)∨(∃ ad,a=some ad∧n=0)∨∃ k off,a=some ⟨k,off,none⟩
theorem flat_nil' {W0:World} {A B:List Grp} {w:World} (h:Sat W0 (A++B) w):Sat W0 (A++[]::B) w:=h.flat (by rw [List.flatten_append,List.flatten_append,List.flatten_cons,List.nil_append])
theorem vCloneO (a:Option Addr) (n cap:Nat) (S:Nat→Obj→Prop) (l:List UInt8) (hsh:Sh a n cap) (hrd:Rd S a (u8s l)) (hl:l.length=n) (hn:n≤1000000000) (W0:World) (H:List Grp) (hS:∀ y o,S y o→At W0 H y o) :
    Tri Tryz.prog 41 #[.slice a n cap] W0 H (fun v H'=>∃ g,Go.Sw.Own 5 1 v g n (u8s l)∧H'=g::H):=by
  have h0:n=0→l=[]:=fun h=>List.eq_nil_of_length_eq_zero (by omega)
  rcases hsh with ⟨rfl,rfl,rfl⟩ | ⟨ad,rfl,rfl⟩ | ⟨k,off,rfl⟩
  · rw [h0 rfl]
    refine Tri.post (vCloneNil W0 H) fun v H1 ⟨hv,hH⟩=>⟨_,⟨[],by rw [hv]; exact Go.Sw.Own.nil,rfl⟩,fun w hw=>?_⟩
    rw [hH] at hw
    exact flat_nil' (A:=[]) hw
  · rw [h0 rfl]
    exact vCloneE ad cap W0 H
  · exact vClone k off n cap S l hrd hl hn W0 H hS
end Go.Vf
namespace Go.Proofs.YtdolpaagdpeagaaGreatDoor
open Go.Sw Go.Lib Go.Vf Go.RowKit
set_option maxHeartbeats 1000000 in
theorem vWriteAny (d nb kb cb nc cc:Nat) (room calls:Int) (bv:Value) (bg:Grp) (ps:List Value) (m:Nat) (fails once:Bool) (nm cm:SM) (path:ByteArray) (szf:Value→Nat) (hpath:path.size≤9223372036854775807) (hca:-9223372036854775808≤calls∧calls≤9223372036854775807) (hn:MapOk nm nc) (hs:sumN szf nm≤1000000000000) (hw:∀ v,R9 nm path=some v→szf v≤1000000000000) (hO:Go.Sw.Own 70 1 bv bg m ps) (hm:m≤1000000) (rows:List RW) (hR:Y9 cm rows) (hl:∀ r∈rows,r.qs.length≤1000000) (ao:Option Addr) (n cap:Nat) (S:Nat→Obj→Prop) (l:List UInt8) (hsh:Sh ao n cap) (hrd:Rd S ao (u8s l)) (hl1:l.length=n) (hn1:n≤1000000000) (W0:World) (H:List Grp) (hg:R9 nm path=none∨∃ p a c kv,R9 nm path=some (.pointer (some ⟨p,0,none⟩))∧At W0 (F7 rows++H) p (.cells #[.slice a (szf (.pointer (some ⟨p,0,none⟩))) c,kv] 72 (0,0))) (hS:∀ y o,S y o→At W0 (F7 rows++H) y o) (hB:∀ e∈nm,∃ p a c kv,e.2.1=.pointer (some ⟨p,0,none⟩)∧At W0 (F7 rows++H) p (.cells #[.slice a (szf e.2.1) c,kv] 72 (0,0))):Tri Tryz.prog 76 #[pt d,.string path,.slice ao n cap] W0 ([(d,.cells #[.int .i64 room,bv,.map (some nb),.map (some kb),.map (some cb),.bool fails,.bool once,.int .i64 calls] 64 (0,0))]::[(nb,.map (B3 nm) nc)]::[(cb,.map (B3 cm) cc)]::bg::(F7 rows++H)) (fun v H'=>((B7 fails once calls (A4 path)).1≠0∧v=.int .i64 (B7 fails once calls (A4 path)).1∧H'=([(d,.cells #[.int .i64 room,bv,.map (some nb),.map (some kb),.map (some cb),.bool ((B7 fails once calls (A4 path)).2.1),.bool once,.int .i64 ((B7 fails once calls (A4 path)).2.2)] 64 (0,0))]::[(nb,.map (B3 nm) nc)]::[(cb,.map (B3 cm) cc)]::bg::(F7 rows++H)))∨((B7 fails once calls (A4 path)).1=0∧((sumN szf nm:Nat):Int) - (((match R9 nm path with | none=>0 | some v=>szf v):Nat):Int)+(n:Int) > room∧v=.int .i64 61∧H'=([(d,.cells #[.int .i64 room,bv,.map (some nb),.map (some kb),.map (some cb),.bool ((B7 fails once calls (A4 path)).2.1),.bool once,.int .i64 ((B7 fails once calls (A4 path)).2.2)] 64 (0,0))]::[(nb,.map (B3 nm) nc)]::[(cb,.map (B3 cm) cc)]::bg::(F7 rows++H)))∨((B7 fails once calls (A4 path)).1=0∧¬ ((sumN szf nm:Nat):Int) - (((match R9 nm path with | none=>0 | some v=>szf v):Nat):Int)+(n:Int) > room∧v=.int .i64 0∧∃ p q a1 c1 a2 c2 x rows1 g1 bg2,Go.Sw.Own 5 1 (.slice a1 n c1) g1 n (u8s l)∧Go.Sw.Own 70 1 (.slice a2 (m+1) c2) bg2 (m+1) (ps++[.pointer (some ⟨p,0,none⟩)])∧Y9 (H8 cm cc (dirB path) x) rows1∧RowsAdd rows (dirB path) q rows1∧H'=[(d,.cells #[.int .i64 room,.slice a2 (m+1) c2,.map (some nb),.map (some kb),.map (some cb),.bool (B7 fails once calls (A4 path)).2.1,.bool once,.int .i64 (B7 fails once calls (A4 path)).2.2] 64 (0,0))]::[(nb,.map (B3 (F3 (nm,nc) [(path,.pointer (some ⟨p,0,none⟩),0)]).1) (F3 (nm,nc) [(path,.pointer (some ⟨p,0,none⟩),0)]).2)]::[(cb,.map (B3 (H8 cm cc (dirB path) x)) (if T1 cm (dirB path) then cc else cc+1))]::[(q,.map (B3 [(path,.pointer (some ⟨p,0,none⟩),0)]) 1)]::bg2::[(p,.cells #[.slice a1 n c1,.slice none 0 0] 72 (0,0))]::g1::(F7 rows1++H))):=by
 refine D6 65 Tryz.func76 ?_
 refine A2 (G_p [0] [0,1,2] (k:=A1 (A2 (A2 (A3 (A5 (j:=2) [0,0] (k:=G1 (vs:=[.string path]) Tryz.func61 (S7 _ hpath _ _) (E4 Tryz.func72 (vCall d nb kb cb room calls bv fails once (A4 path) hca _ _) ?_))))))))
 rintro v H' ⟨rfl,rfl⟩
 refine B5 [0] [0,1,2,7] (k:=A1 (A2 (G_p [0,0] [0,1,2,7,16] (k:=A1 (D2 (b:=((B7 fails once calls (A4 path)).1) != 0) kr (fun hc1=>?_) (fun hc1=>?_))))))
 ·
  have hce:(B7 fails once calls (A4 path)).1≠0:=by simpa using hc1
  refine A2 (G_p [0,0] [6] (k:=A1 (C8 (C0 (C5 [.tmp 6] [.int .i64 ((B7 fails once calls (A4 path)).1)] (k:=?_))))))
  exact .inl ⟨hce,rfl,rfl⟩
 ·
  have hce:(B7 fails once calls (A4 path)).1=0:=by simpa using hc1
  refine B6 (A1 (A2 (G_p [0] [0,1,2,8] (k:=A1 (A2 (A2 (A3 (A5 (j:=3) [0,0,0] (k:=?_)))))))))
  refine D0 0 2 rfl rfl (A5 (j:=5) [0] (k:=?_))
  rcases hg with hg | ⟨p0,a0,c0,kv0,hg,hat0⟩
  ·
   refine J5 (ch:=[]) (kt:=9) (et:=70) (r:=nb) (c:=nc) (m:=nm) (k:=path) (z:=.pointer none) (ov:=none) (hA:=At.grp 1 0 rfl rfl) (hg:=(fun _=>hg)) (kk:=B5 [0] [0,1,2,8,9] (k:=A1 (A2 (B9 (E':=[⟨0,[],pt d⟩,⟨1,[],.string path⟩,⟨2,[],.slice ao n cap⟩,⟨8,[],.int .i64 0⟩,⟨9,[],.pointer none⟩,⟨25,[],.bool false⟩]) [0,0] [0,1,2,8,9,25] (k:=A1 (D9 kr (B6 (A1 ?_))))))))
   refine A2 (A2 (F4 ([(d,.cells #[.int .i64 room,bv,.map (some nb),.map (some kb),.map (some cb),.bool ((B7 fails once calls (A4 path)).2.1),.bool once,.int .i64 ((B7 fails once calls (A4 path)).2.2)] 64 (0,0))]::[(nb,.map (B3 nm) nc)]::[(cb,.map (B3 cm) cc)]::bg::(F7 rows++H)) kr (E2 (fuel:=9) [(0,0),(2,0),(4,0)] (fun w h=>h) (k:=GH_pev (v:=.int .i64 ((n:Nat):Int)) 5 (hL:=(fun w h=>h)) (k:=E2 (fuel:=7) [(7,0)] (fun w h=>h) (k:=P0 (ad:=⟨d,0,none⟩) 8 (hL:=(fun w h=>h)) (k:=E2 (fuel:=5) [(9,0)] (fun w h=>h) (k:=A9 10 kr (fun w h=>h) (D0 0 0 rfl rfl (B4 kr rfl)) ?_))))))))
   refine C2 1 (k:=E4 Tryz.func11 (vUsed d nb kb cb nc room ((B7 fails once calls (A4 path)).2.2) bv ((B7 fails once calls (A4 path)).2.1) once nm szf hn hs _ _ (fun e he=>let ⟨p,a,c,kv,h1,h2⟩:=hB e he; ⟨p,a,c,kv,h1,(At.cons (At.cons h2))⟩)) ?_)
   rintro v H' ⟨rfl,rfl⟩
   refine A7 kr (fun w h=>h) (E2 (fuel:=2) [(3,0)] (fun w h=>h) (k:=Y2 34 (((sumN szf nm:Nat):Int) - 0) (by omega) (by omega) kr (E2 (fuel:=1) [(6,0)] (fun w h=>h) (k:=Y2 37 ((((sumN szf nm:Nat):Int) - 0)+((n:Nat):Int)) (by omega) (by omega) kr (E2 (fuel:=0) [(11,0)] (fun w h=>h) (k:=D8 (E':=[⟨0,[],pt d⟩,⟨1,[],.string path⟩,⟨2,[],.slice ao n cap⟩,⟨42,[],.bool (decide (((((sumN szf nm:Nat):Int) - 0)+((n:Nat):Int)) > room))⟩]) [0,1,2,42] (k:=A1 (D2 (b:=decide (((((sumN szf nm:Nat):Int) - 0)+((n:Nat):Int)) > room)) kr (fun hc4=>?_) (fun hc4=>?_)))))))))
   ·
    have hro:=of_decide_eq_true hc4
    refine A2 (B9 (E':=[⟨6,[],.int .i64 61⟩]) [0] [6] (k:=A1 (C8 (C0 (C5 [.tmp 6] [.int .i64 61] (k:=?_))))))
    exact .inr (.inl ⟨hce,by (simp only [hg]; exact hro),rfl,rfl⟩)
   ·
    have hro:=of_decide_eq_false hc4
    refine B6 (A1 (A2 (A3 (A5 (j:=1) [0] (k:=E4 Tryz.func41 (vCloneO ao n cap S l hsh hrd hl1 hn1 _ _ (fun y o h=>(At.cons (At.cons (At.cons (At.cons (hS y o h))))))) ?_)))))
    rintro v7 _ ⟨g5,hO6,rfl⟩
    obtain ⟨a8,cap9,rfl,hcap10,hrd11⟩:=hO6.shape
    refine A5 (j:=3) [0] (k:=O9 (.agg #[.slice a8 n cap9,.slice none 0 0]) (fun b12=>B5 [0] [0,1,10] (k:=A1 (A2 (A3 (A5 (j:=4) [0,0,0,0] (k:=D0 2 1 rfl rfl (A5 (j:=6) [0] (k:=?_)))))))))
    refine N2 70 1 [pt b12] (fun b13=>GL_ap (inf:=Tryz.t70) 1 0 6 rfl rfl hO (by omega) (by show (m+1) * 8≤140737488355328; omega) (fun v14 g15 hO16=>?_))
    obtain ⟨a17,cap18,rfl,hcap19,hrd20⟩:=hO16.shape
    refine A5 (j:=10) [0,0] (k:=M8 3 1 (.slice a17 (m+1) cap18) rfl (B5 [] [0,1,10] (k:=A1 (A2 (A3 (A5 (j:=2) [0,0] (k:=G1 (vs:=[.string path]) Tryz.func39 (N7 _ hpath _ _) (O6 (ch:=[]) (k:=(fun b21=>?_))))))))))
    refine A5 (j:=6) [0,0] (k:=I1 (ch:=[]) (kt:=9) (et:=70) (r:=b21) (c:=0) (j:=0) (q:=0) (m:=[]) (k:=path) (v:=pt b12) (H':=([(b21,.map (B3 ([(path,pt b12,0)])) 1)]::[(b13,.cells #[pt b12] 70 (0,0))]::[(b12,.cells #[.slice a8 n cap9,.slice none 0 0] 72 (0,0))]::g5::[(d,.cells #[.int .i64 room,.slice a17 (m+1) cap18,.map (some nb),.map (some kb),.map (some cb),.bool ((B7 fails once calls (A4 path)).2.1),.bool once,.int .i64 ((B7 fails once calls (A4 path)).2.2)] 64 (0,0))]::[(nb,.map (B3 nm) nc)]::[(cb,.map (B3 cm) cc)]::g15::(F7 rows++H))) (hop:=.inr rfl) (kk:=A5 (j:=8) [0] (k:=Z6 0 [4,4,4] (E4 (vs:=[pt d,.string (dirB path),.map (some b21)]) Tryz.func73 (vName d nb kb cb b21 nc cc 1 room ((B7 fails once calls (A4 path)).2.2) (.slice a17 (m+1) cap18) ((B7 fails once calls (A4 path)).2.1) once nm cm ([(path,pt b12,0)]) (dirB path) hn (X5 _ _) (hv1 _ _) rows hR hl [[(b21,.map (B3 ([(path,pt b12,0)])) 1)],[(b13,.cells #[pt b12] 70 (0,0))],[(b12,.cells #[.slice a8 n cap9,.slice none 0 0] 72 (0,0))],g5,g15] _ H (At.grp 0 0 rfl rfl)) ?_))))
    rintro v H' ⟨dn22,x23,rows24,hdn25,rfl,hR26,hA27,rfl⟩
    refine D5 (E':=[]) [] [] (k:=A1 (A2 (B9 (E':=[⟨6,[],.int .i64 0⟩]) [0] [6] (k:=A1 (C8 (N_pk 1 [0,0,0,0,3,1,1] (C5 [.tmp 6] [.int .i64 0] (k:=?_))))))))
    have hdn1:=List.perm_singleton.1 hdn25
    subst hdn1
    exact .inr (.inr ⟨hce,by (simp only [hg]; exact hro),rfl,_,_,_,_,_,_,x23,rows24,g5,_,hO6,hO16,hR26,hA27,rfl⟩)
  ·
   have hw0:=hw _ hg
   refine J5 (ch:=[]) (kt:=9) (et:=70) (r:=nb) (c:=nc) (m:=nm) (k:=path) (z:=.pointer none) (ov:=(some (pt p0))) (hA:=At.grp 1 0 rfl rfl) (hg:=(fun _=>hg)) (kk:=B5 [0] [0,1,2,8,9] (k:=A1 (A2 (B9 (E':=[⟨0,[],pt d⟩,⟨1,[],.string path⟩,⟨2,[],.slice ao n cap⟩,⟨8,[],.int .i64 0⟩,⟨9,[],pt p0⟩,⟨25,[],.bool true⟩]) [0,0] [0,1,2,8,9,25] (k:=A1 (G6 kr (A3 (A5 (j:=3) [0,0,0] (k:=?_)))))))))
   refine F9 (ch:=[]) (b:=p0) (off:=0) (v:=.slice a0 (szf (.pointer (some ⟨p0,0,none⟩))) c0) (hA:=At.cons (At.cons (At.cons (At.cons hat0)))) (k:=B5 [0,0] [0,1,2,8] (k:=A1 (A2 (A2 (F4 ([(d,.cells #[.int .i64 room,bv,.map (some nb),.map (some kb),.map (some cb),.bool ((B7 fails once calls (A4 path)).2.1),.bool once,.int .i64 ((B7 fails once calls (A4 path)).2.2)] 64 (0,0))]::[(nb,.map (B3 nm) nc)]::[(cb,.map (B3 cm) cc)]::bg::(F7 rows++H)) kr (E2 (fuel:=9) [(0,0),(2,0),(4,0)] (fun w h=>h) (k:=GH_pev (v:=.int .i64 ((n:Nat):Int)) 5 (hL:=(fun w h=>h)) (k:=E2 (fuel:=7) [(7,0)] (fun w h=>h) (k:=?_)))))))))
   refine P0 (ad:=⟨d,0,none⟩) 8 (hL:=(fun w h=>h)) (k:=E2 (fuel:=5) [(9,0)] (fun w h=>h) (k:=A9 10 kr (fun w h=>h) (D0 0 0 rfl rfl (B4 kr rfl)) (C2 1 (k:=E4 Tryz.func11 (vUsed d nb kb cb nc room ((B7 fails once calls (A4 path)).2.2) bv ((B7 fails once calls (A4 path)).2.1) once nm szf hn hs _ _ (fun e he=>let ⟨p,a,c,kv,h1,h2⟩:=hB e he; ⟨p,a,c,kv,h1,(At.cons (At.cons h2))⟩)) ?_))))
   rintro v H' ⟨rfl,rfl⟩
   refine A7 kr (fun w h=>h) (E2 (fuel:=2) [(3,0)] (fun w h=>h) (k:=Y2 34 (((sumN szf nm:Nat):Int) - (((szf (.pointer (some ⟨p0,0,none⟩))):Nat):Int)) (by omega) (by omega) kr (E2 (fuel:=1) [(6,0)] (fun w h=>h) (k:=Y2 37 ((((sumN szf nm:Nat):Int) - (((szf (.pointer (some ⟨p0,0,none⟩))):Nat):Int))+((n:Nat):Int)) (by omega) (by omega) kr (E2 (fuel:=0) [(11,0)] (fun w h=>h) (k:=D8 (E':=[⟨0,[],pt d⟩,⟨1,[],.string path⟩,⟨2,[],.slice ao n cap⟩,⟨42,[],.bool (decide (((((sumN szf nm:Nat):Int) - (((szf (.pointer (some ⟨p0,0,none⟩))):Nat):Int))+((n:Nat):Int)) > room))⟩]) [0,1,2,42] (k:=A1 (D2 (b:=decide (((((sumN szf nm:Nat):Int) - (((szf (.pointer (some ⟨p0,0,none⟩))):Nat):Int))+((n:Nat):Int)) > room)) kr (fun hc30=>?_) (fun hc30=>?_)))))))))
   ·
    have hro:=of_decide_eq_true hc30
    refine A2 (B9 (E':=[⟨6,[],.int .i64 61⟩]) [0] [6] (k:=A1 (C8 (C0 (C5 [.tmp 6] [.int .i64 61] (k:=?_))))))
    exact .inr (.inl ⟨hce,by (simp only [hg]; exact hro),rfl,rfl⟩)
   ·
    have hro:=of_decide_eq_false hc30
    refine B6 (A1 (A2 (A3 (A5 (j:=1) [0] (k:=E4 Tryz.func41 (vCloneO ao n cap S l hsh hrd hl1 hn1 _ _ (fun y o h=>(At.cons (At.cons (At.cons (At.cons (hS y o h))))))) ?_)))))
    rintro v33 _ ⟨g31,hO32,rfl⟩
    obtain ⟨a34,cap35,rfl,hcap36,hrd37⟩:=hO32.shape
    refine A5 (j:=3) [0] (k:=O9 (.agg #[.slice a34 n cap35,.slice none 0 0]) (fun b38=>B5 [0] [0,1,10] (k:=A1 (A2 (A3 (A5 (j:=4) [0,0,0,0] (k:=D0 2 1 rfl rfl (A5 (j:=6) [0] (k:=?_)))))))))
    refine N2 70 1 [pt b38] (fun b39=>GL_ap (inf:=Tryz.t70) 1 0 6 rfl rfl hO (by omega) (by show (m+1) * 8≤140737488355328; omega) (fun v40 g41 hO42=>?_))
    obtain ⟨a43,cap44,rfl,hcap45,hrd46⟩:=hO42.shape
    refine A5 (j:=10) [0,0] (k:=M8 3 1 (.slice a43 (m+1) cap44) rfl (B5 [] [0,1,10] (k:=A1 (A2 (A3 (A5 (j:=2) [0,0] (k:=G1 (vs:=[.string path]) Tryz.func39 (N7 _ hpath _ _) (O6 (ch:=[]) (k:=(fun b47=>?_))))))))))
    refine A5 (j:=6) [0,0] (k:=I1 (ch:=[]) (kt:=9) (et:=70) (r:=b47) (c:=0) (j:=0) (q:=0) (m:=[]) (k:=path) (v:=pt b38) (H':=([(b47,.map (B3 ([(path,pt b38,0)])) 1)]::[(b39,.cells #[pt b38] 70 (0,0))]::[(b38,.cells #[.slice a34 n cap35,.slice none 0 0] 72 (0,0))]::g31::[(d,.cells #[.int .i64 room,.slice a43 (m+1) cap44,.map (some nb),.map (some kb),.map (some cb),.bool ((B7 fails once calls (A4 path)).2.1),.bool once,.int .i64 ((B7 fails once calls (A4 path)).2.2)] 64 (0,0))]::[(nb,.map (B3 nm) nc)]::[(cb,.map (B3 cm) cc)]::g41::(F7 rows++H))) (hop:=.inr rfl) (kk:=A5 (j:=8) [0] (k:=Z6 0 [4,4,4] (E4 (vs:=[pt d,.string (dirB path),.map (some b47)]) Tryz.func73 (vName d nb kb cb b47 nc cc 1 room ((B7 fails once calls (A4 path)).2.2) (.slice a43 (m+1) cap44) ((B7 fails once calls (A4 path)).2.1) once nm cm ([(path,pt b38,0)]) (dirB path) hn (X5 _ _) (hv1 _ _) rows hR hl [[(b47,.map (B3 ([(path,pt b38,0)])) 1)],[(b39,.cells #[pt b38] 70 (0,0))],[(b38,.cells #[.slice a34 n cap35,.slice none 0 0] 72 (0,0))],g31,g41] _ H (At.grp 0 0 rfl rfl)) ?_))))
    rintro v H' ⟨dn48,x49,rows50,hdn51,rfl,hR52,hA53,rfl⟩
    refine D5 (E':=[]) [] [] (k:=A1 (A2 (B9 (E':=[⟨6,[],.int .i64 0⟩]) [0] [6] (k:=A1 (C8 (N_pk 1 [0,0,0,0,3,1,1] (C5 [.tmp 6] [.int .i64 0] (k:=?_))))))))
    have hdn1:=List.perm_singleton.1 hdn51
    subst hdn1
    exact .inr (.inr ⟨hce,by (simp only [hg]; exact hro),rfl,_,_,_,_,_,_,x49,rows50,g31,_,hO32,hO42,hR52,hA53,rfl⟩)
end Go.Proofs.YtdolpaagdpeagaaGreatDoor
namespace Go.Proofs.YtdolpaagdpeagaaGreatDoor
open Go.Sw Go.Lib Go.Vf Go.RowKit
def RenC (path to:ByteArray) (p:Nat) (m:SM) (c:Nat):Prop :=
  (m=H8 [(to,.pointer (some ⟨p,0,none⟩),0)] 1 path (.pointer none)∧c=if T1 [(to,.pointer (some ⟨p,0,none⟩),0)] path then 1 else 1+1) ∨
  (m=H8 [(path,.pointer none,0)] 1 to (.pointer (some ⟨p,0,none⟩))∧c=if T1 [(path,.pointer none,0)] to then 1 else 1+1)
theorem hvput {m:SM} {c:Nat} {k:ByteArray} {v:Value} {Q:Value→Prop} (h:∀ e∈m,Q e.2.1) (hv:Q v):∀ e∈H8 m c k v,Q e.2.1:=by
  induction m with
  | nil=>intro e he; rw [H8,List.mem_singleton] at he; subst he; exact hv
  | cons x m ih =>
    intro e he
    rw [H8] at he
    split at he
    · rcases List.mem_cons.1 he with rfl | he
      · exact hv
      · exact h e (List.mem_cons_of_mem _ he)
    · rcases List.mem_cons.1 he with rfl | he
      · exact h _ List.mem_cons_self
      · exact ih (fun y hy=>h y (List.mem_cons_of_mem _ hy)) e he
theorem vRemove (d nb kb cb nc cc:Nat) (room calls:Int) (bv:Value) (fails once:Bool) (nm cm:SM) (path:ByteArray) (hpath:path.size≤9223372036854775807) (hca:-9223372036854775808≤calls∧calls≤9223372036854775807) (hn:MapOk nm nc) (rows:List RW) (hR:Y9 cm rows) (hl:∀ r∈rows,r.qs.length≤1000000) (p:Nat) (hg:R9 nm path=some (.pointer (some ⟨p,0,none⟩))) (W0:World) (H:List Grp):Tri Tryz.prog 42 #[pt d,.string path] W0 ([(d,.cells #[.int .i64 room,bv,.map (some nb),.map (some kb),.map (some cb),.bool fails,.bool once,.int .i64 calls] 64 (0,0))]::[(nb,.map (B3 nm) nc)]::[(cb,.map (B3 cm) cc)]::(F7 rows++H)) (fun v H'=>((B7 fails once calls (A4 path)).1≠0∧v=.int .i64 (B7 fails once calls (A4 path)).1∧H'=([(d,.cells #[.int .i64 room,bv,.map (some nb),.map (some kb),.map (some cb),.bool ((B7 fails once calls (A4 path)).2.1),.bool once,.int .i64 ((B7 fails once calls (A4 path)).2.2)] 64 (0,0))]::[(nb,.map (B3 nm) nc)]::[(cb,.map (B3 cm) cc)]::(F7 rows++H)))∨((B7 fails once calls (A4 path)).1=0∧v=.int .i64 0∧∃ q x rows1,Y9 (H8 cm cc (dirB path) x) rows1∧RowsAdd rows (dirB path) q rows1∧H'=([(d,.cells #[.int .i64 room,bv,.map (some nb),.map (some kb),.map (some cb),.bool ((B7 fails once calls (A4 path)).2.1),.bool once,.int .i64 ((B7 fails once calls (A4 path)).2.2)] 64 (0,0))] ::[(nb,.map (B3 (F3 (nm,nc) [(path,.pointer none,0)]).1) (F3 (nm,nc) [(path,.pointer none,0)]).2)]::[(cb,.map (B3 (H8 cm cc (dirB path) x)) (if T1 cm (dirB path) then cc else cc+1))]::[(q,.map (B3 [(path,.pointer none,0)]) 1)]::(F7 rows1++H)))):=by
 refine D6 27 Tryz.func42 ?_
 refine A2 (B9 (E':=[⟨0,[],pt d⟩,⟨1,[],.string path⟩]) [0] [0,1] (k:=A1 (A2 (A2 (A3 (A5 (j:=2) [0,0] (k:=G1 (vs:=[.string path]) Tryz.func61 (S7 _ hpath _ _) (E4 Tryz.func72 (vCall d nb kb cb room calls bv fails once (A4 path) hca _ _) ?_))))))))
 rintro v H' ⟨rfl,rfl⟩
 refine B5 [0] [0,1,5] (k:=A1 (A2 (G_p [0,0] [0,1,5,11] (k:=A1 (D2 (b:=((B7 fails once calls (A4 path)).1) != 0) kr (fun hc1=>?_) (fun hc1=>?_))))))
 ·
  have hce:(B7 fails once calls (A4 path)).1≠0:=by simpa using hc1
  refine A2 (G_p [0,0] [4] (k:=A1 (C8 (C0 (C5 [.tmp 4] [.int .i64 ((B7 fails once calls (A4 path)).1)] (k:=?_))))))
  exact .inl ⟨hce,rfl,rfl⟩
 ·
  have hce:(B7 fails once calls (A4 path)).1=0:=by simpa using hc1
  refine B6 (A1 (A2 (A2 (A3 (A5 (j:=3) [0,0,0] (k:=D0 0 2 rfl rfl (A5 (j:=5) [0] (k:=J5 (ch:=[]) (kt:=9) (et:=70) (r:=nb) (c:=nc) (m:=nm) (k:=path) (z:=.pointer none) (ov:=(some (pt p))) (hA:=At.grp 1 0 rfl rfl) (hg:=(fun _=>hg)) (kk:=?_)))))))))
  refine B5 [0] [0,1,19] (k:=A1 (D9 kr (B6 (A1 (A2 (A3 (A5 (j:=2) [0,0] (k:=G1 (vs:=[.string path]) Tryz.func39 (N7 _ hpath _ _) ?_))))))))
  refine O6 (ch:=[]) (k:=(fun b2=>A5 (j:=5) [0] (k:=I1 (ch:=[]) (kt:=9) (et:=70) (r:=b2) (c:=0) (j:=0) (q:=0) (m:=[]) (k:=path) (v:=.pointer none) (H':=([(b2,.map (B3 ([(path,.pointer none,0)])) 1)]::[(d,.cells #[.int .i64 room,bv,.map (some nb),.map (some kb),.map (some cb),.bool ((B7 fails once calls (A4 path)).2.1),.bool once,.int .i64 ((B7 fails once calls (A4 path)).2.2)] 64 (0,0))]::[(nb,.map (B3 nm) nc)]::[(cb,.map (B3 cm) cc)]::(F7 rows++H))) (hop:=.inr rfl) (kk:=A5 (j:=7) [0] (k:=Z6 0 [1,1,1] (E4 (vs:=[pt d,.string (dirB path),.map (some b2)]) Tryz.func73 (vName d nb kb cb b2 nc cc 1 room ((B7 fails once calls (A4 path)).2.2) bv ((B7 fails once calls (A4 path)).2.1) once nm cm ([(path,.pointer none,0)]) (dirB path) hn (X5 _ _) (hv0 _) rows hR hl [[(b2,.map (B3 ([(path,.pointer none,0)])) 1)]] _ H (At.grp 0 0 rfl rfl)) ?_))))))
  rintro v H' ⟨dn3,x4,rows5,hdn6,rfl,hR7,hA8,rfl⟩
  refine D5 (E':=[]) [] [] (k:=A1 (A2 (B9 (E':=[⟨4,[],.int .i64 0⟩]) [0] [4] (k:=A1 (C8 (C5 [.tmp 4] [.int .i64 0] (k:=?_)))))))
  have hdn1:=List.perm_singleton.1 hdn6
  subst hdn1
  exact .inr ⟨hce,rfl,_,x4,rows5,hR7,hA8,rfl⟩
theorem vRenameNo (d nb kb cb nc cc:Nat) (room calls:Int) (bv:Value) (fails once:Bool) (nm cm:SM) (path to:ByteArray) (hpath:path.size≤9223372036854775807) (hto:to.size≤9223372036854775807) (hca:-9223372036854775808≤calls∧calls≤9223372036854775807) (_:MapOk nm nc) (rows:List RW) (_:Y9 cm rows) (_:∀ r∈rows,r.qs.length≤1000000) (hg:R9 nm path=none) (W0:World) (H:List Grp):Tri Tryz.prog 52 #[pt d,.string path,.string to] W0 ([(d,.cells #[.int .i64 room,bv,.map (some nb),.map (some kb),.map (some cb),.bool fails,.bool once,.int .i64 calls] 64 (0,0))]::[(nb,.map (B3 nm) nc)]::[(cb,.map (B3 cm) cc)]::(F7 rows++H)) (fun v H'=>((B7 fails once calls ((A4 path&&A4 to)&&((dirB path).toList==(dirB to).toList))).1≠0∧v=.int .i64 (B7 fails once calls ((A4 path&&A4 to)&&((dirB path).toList==(dirB to).toList))).1∧H'=([(d,.cells #[.int .i64 room,bv,.map (some nb),.map (some kb),.map (some cb),.bool ((B7 fails once calls ((A4 path&&A4 to)&&((dirB path).toList==(dirB to).toList))).2.1),.bool once,.int .i64 ((B7 fails once calls ((A4 path&&A4 to)&&((dirB path).toList==(dirB to).toList))).2.2)] 64 (0,0))]::[(nb,.map (B3 nm) nc)]::[(cb,.map (B3 cm) cc)]::(F7 rows++H)))∨((B7 fails once calls ((A4 path&&A4 to)&&((dirB path).toList==(dirB to).toList))).1=0∧v=.int .i64 60∧H'=([(d,.cells #[.int .i64 room,bv,.map (some nb),.map (some kb),.map (some cb),.bool ((B7 fails once calls ((A4 path&&A4 to)&&((dirB path).toList==(dirB to).toList))).2.1),.bool once,.int .i64 ((B7 fails once calls ((A4 path&&A4 to)&&((dirB path).toList==(dirB to).toList))).2.2)] 64 (0,0))]::[(nb,.map (B3 nm) nc)]::[(cb,.map (B3 cm) cc)]::(F7 rows++H)))):=by
 refine D6 47 Tryz.func52 ?_
 refine A2 (G_p [0] [0,1,2] (k:=A1 (A2 (A2 (A3 (A5 (j:=2) [0,0] (k:=G1 (vs:=[.string path]) Tryz.func61 (S7 _ hpath _ _) (A5 (j:=5) [0,0] (k:=?_)))))))))
 refine A0p (vs:=[.string to]) [(12,true)] Tryz.func61 (fun hc=>S7 _ hto _ _) (A5 (j:=9) [6,0,0] (k:=A0p (vs:=[.string path]) [(16,true)] Tryz.func39 (fun hc=>N7 _ hpath _ _) (A5 (j:=11) [0] (k:=A0p (vs:=[.string to]) [(16,true)] Tryz.func39 (fun hc=>N7 _ hto _ _) (A5 (j:=14) [0,6] (k:=E4 Tryz.func72 (vCall d nb kb cb room calls bv fails once (((A4 path)&&(A4 to))&&((dirB path).toList==(dirB to).toList)) hca _ _) ?_))))))
 rintro v H' ⟨rfl,rfl⟩
 refine B5 [0] [0,1,2,7] (k:=A1 (A2 (G_p [0,0] [0,1,2,7,25] (k:=A1 (D2 (b:=((B7 fails once calls (((A4 path)&&(A4 to))&&((dirB path).toList==(dirB to).toList))).1) != 0) kr (fun hc1=>?_) (fun hc1=>?_))))))
 ·
  have hce:(B7 fails once calls ((A4 path&&A4 to)&&((dirB path).toList==(dirB to).toList))).1≠0:=by simpa using hc1
  refine A2 (G_p [0,0] [6] (k:=A1 (C8 (C0 (C5 [.tmp 6] [.int .i64 ((B7 fails once calls (((A4 path)&&(A4 to))&&((dirB path).toList==(dirB to).toList))).1)] (k:=?_))))))
  exact .inl ⟨hce,rfl,rfl⟩
 ·
  have hce:(B7 fails once calls ((A4 path&&A4 to)&&((dirB path).toList==(dirB to).toList))).1=0:=by simpa using hc1
  refine B6 (A1 (A2 (A3 (A5 (j:=3) [0,0,0] (k:=D0 0 2 rfl rfl (A5 (j:=5) [0] (k:=J5 (ch:=[]) (kt:=9) (et:=70) (r:=nb) (c:=nc) (m:=nm) (k:=path) (z:=.pointer none) (ov:=none) (hA:=At.grp 1 0 rfl rfl) (hg:=(fun _=>hg)) (kk:=B5 [0] [0,1,2,8] (k:=?_)))))))))
  refine A1 (A2 (A2 (G_p [0,0] [0,1,2,8,34] (k:=A1 (G6 kr (A2 (B9 (E':=[⟨6,[],.int .i64 60⟩]) [0] [6] (k:=A1 ?_))))))))
  refine C8 (C0 (C5 [.tmp 6] [.int .i64 60] (k:=?_)))
  exact .inr ⟨hce,rfl,rfl⟩
theorem vRename (d nb kb cb nc cc:Nat) (room calls:Int) (bv:Value) (fails once:Bool) (nm cm:SM) (path to:ByteArray) (hpath:path.size≤9223372036854775807) (hto:to.size≤9223372036854775807) (hca:-9223372036854775808≤calls∧calls≤9223372036854775807) (hn:MapOk nm nc) (rows:List RW) (hR:Y9 cm rows) (hl:∀ r∈rows,r.qs.length≤1000000) (p:Nat) (hg:R9 nm path=some (.pointer (some ⟨p,0,none⟩))) (W0:World) (H:List Grp):Tri Tryz.prog 52 #[pt d,.string path,.string to] W0 ([(d,.cells #[.int .i64 room,bv,.map (some nb),.map (some kb),.map (some cb),.bool fails,.bool once,.int .i64 calls] 64 (0,0))]::[(nb,.map (B3 nm) nc)]::[(cb,.map (B3 cm) cc)]::(F7 rows++H)) (fun v H'=>((B7 fails once calls ((A4 path&&A4 to)&&((dirB path).toList==(dirB to).toList))).1≠0∧v=.int .i64 (B7 fails once calls ((A4 path&&A4 to)&&((dirB path).toList==(dirB to).toList))).1∧H'=([(d,.cells #[.int .i64 room,bv,.map (some nb),.map (some kb),.map (some cb),.bool ((B7 fails once calls ((A4 path&&A4 to)&&((dirB path).toList==(dirB to).toList))).2.1),.bool once,.int .i64 ((B7 fails once calls ((A4 path&&A4 to)&&((dirB path).toList==(dirB to).toList))).2.2)] 64 (0,0))]::[(nb,.map (B3 nm) nc)]::[(cb,.map (B3 cm) cc)]::(F7 rows++H)))∨((B7 fails once calls ((A4 path&&A4 to)&&((dirB path).toList==(dirB to).toList))).1=0∧(((!(path.toList==to.toList))=false∧v=.int .i64 0∧H'=([(d,.cells #[.int .i64 room,bv,.map (some nb),.map (some kb),.map (some cb),.bool ((B7 fails once calls ((A4 path&&A4 to)&&((dirB path).toList==(dirB to).toList))).2.1),.bool once,.int .i64 ((B7 fails once calls ((A4 path&&A4 to)&&((dirB path).toList==(dirB to).toList))).2.2)] 64 (0,0))]::[(nb,.map (B3 nm) nc)]::[(cb,.map (B3 cm) cc)]::(F7 rows++H)))∨((!(path.toList==to.toList))=true∧v=.int .i64 0∧∃ dn xm xc q x rows1,RenC path to p xm xc∧dn.Perm xm∧Y9 (H8 cm cc (dirB to) x) rows1∧RowsAdd rows (dirB to) q rows1∧H'=([(d,.cells #[.int .i64 room,bv,.map (some nb),.map (some kb),.map (some cb),.bool ((B7 fails once calls ((A4 path&&A4 to)&&((dirB path).toList==(dirB to).toList))).2.1),.bool once,.int .i64 ((B7 fails once calls ((A4 path&&A4 to)&&((dirB path).toList==(dirB to).toList))).2.2)] 64 (0,0))] ::[(nb,.map (B3 (F3 (nm,nc) dn).1) (F3 (nm,nc) dn).2)]::[(cb,.map (B3 (H8 cm cc (dirB to) x)) (if T1 cm (dirB to) then cc else cc+1))]::[(q,.map (B3 xm) xc)]::(F7 rows1++H)))))):=by
 refine D6 47 Tryz.func52 ?_
 refine A2 (G_p [0] [0,1,2] (k:=A1 (A2 (A2 (A3 (A5 (j:=2) [0,0] (k:=G1 (vs:=[.string path]) Tryz.func61 (S7 _ hpath _ _) (A5 (j:=5) [0,0] (k:=?_)))))))))
 refine A0p (vs:=[.string to]) [(12,true)] Tryz.func61 (fun hc=>S7 _ hto _ _) (A5 (j:=9) [6,0,0] (k:=A0p (vs:=[.string path]) [(16,true)] Tryz.func39 (fun hc=>N7 _ hpath _ _) (A5 (j:=11) [0] (k:=A0p (vs:=[.string to]) [(16,true)] Tryz.func39 (fun hc=>N7 _ hto _ _) (A5 (j:=14) [0,6] (k:=E4 Tryz.func72 (vCall d nb kb cb room calls bv fails once (((A4 path)&&(A4 to))&&((dirB path).toList==(dirB to).toList)) hca _ _) ?_))))))
 rintro v H' ⟨rfl,rfl⟩
 refine B5 [0] [0,1,2,7] (k:=A1 (A2 (G_p [0,0] [0,1,2,7,25] (k:=A1 (D2 (b:=((B7 fails once calls (((A4 path)&&(A4 to))&&((dirB path).toList==(dirB to).toList))).1) != 0) kr (fun hc1=>?_) (fun hc1=>?_))))))
 ·
  have hce:(B7 fails once calls ((A4 path&&A4 to)&&((dirB path).toList==(dirB to).toList))).1≠0:=by simpa using hc1
  refine A2 (G_p [0,0] [6] (k:=A1 (C8 (C0 (C5 [.tmp 6] [.int .i64 ((B7 fails once calls (((A4 path)&&(A4 to))&&((dirB path).toList==(dirB to).toList))).1)] (k:=?_))))))
  exact .inl ⟨hce,rfl,rfl⟩
 ·
  have hce:(B7 fails once calls ((A4 path&&A4 to)&&((dirB path).toList==(dirB to).toList))).1=0:=by simpa using hc1
  refine B6 (A1 (A2 (A3 (A5 (j:=3) [0,0,0] (k:=D0 0 2 rfl rfl (A5 (j:=5) [0] (k:=J5 (ch:=[]) (kt:=9) (et:=70) (r:=nb) (c:=nc) (m:=nm) (k:=path) (z:=.pointer none) (ov:=(some (pt p))) (hA:=At.grp 1 0 rfl rfl) (hg:=(fun _=>hg)) (kk:=B5 [0] [0,1,2,8] (k:=?_)))))))))
  refine A1 (A2 (A2 (G_p [0,0] [0,1,2,8,34] (k:=A1 (D9 kr (B6 (A1 (A2 ?_))))))))
  refine A2 (B9 (E':=[⟨0,[],pt d⟩,⟨1,[],.string path⟩,⟨2,[],.string to⟩,⟨8,[],pt p⟩,⟨37,[],.bool (!(path.toList==to.toList))⟩]) [0,0,0] [0,1,2,8,37] (k:=A1 (D2 (b:=!(path.toList==to.toList)) kr (fun hc2=>?_) (fun hc2=>?_))))
  ·
   have hsm:=hc2
   refine F4 H kr (E2 (fuel:=6) [(0,0),(1,0),(4,0),(5,0),(7,0)] (fun w h=>(Sat.dropApp (h.pk 3 []))) (k:=P4 2 3 (k:=?_) (k':=?_)))
   ·
    refine G1 (vs:=[.string to]) Tryz.func39 (N7 _ hto _ _) (A7 kr (fun w h=>(Sat.dropApp (h.pk 3 []))) (C2 3 (k:=O6 (ch:=[]) (k:=(fun b3=>A7 kr (fun w h=>(Sat.dropApp (h.pk 4 []))) (P4 6 8 (k:=?_) (k':=?_)))))))
    ·
     refine I1 (ch:=[]) (kt:=9) (et:=70) (r:=b3) (c:=0) (j:=0) (q:=0) (m:=[]) (k:=to) (v:=pt p) (H':=([(b3,.map (B3 ([(to,pt p,0)])) 1)]::[(d,.cells #[.int .i64 room,bv,.map (some nb),.map (some kb),.map (some cb),.bool ((B7 fails once calls (((A4 path)&&(A4 to))&&((dirB path).toList==(dirB to).toList))).2.1),.bool once,.int .i64 ((B7 fails once calls (((A4 path)&&(A4 to))&&((dirB path).toList==(dirB to).toList))).2.2)] 64 (0,0))]::[(nb,.map (B3 nm) nc)]::[(cb,.map (B3 cm) cc)]::(F7 rows++H))) (hop:=.inr rfl) (kk:=A7 kr (fun w h=>(Sat.dropApp (h.pk 4 []))) (C2 8 (k:=I1 (ch:=[]) (kt:=9) (et:=70) (r:=b3) (c:=1) (j:=0) (q:=0) (m:=[(to,pt p,0)]) (k:=path) (v:=.pointer none) (H':=([(b3,.map (B3 (H8 ([(to,pt p,0)]) 1 path (.pointer none))) (if T1 ([(to,pt p,0)]) path then 1 else 1+1))]::[(d,.cells #[.int .i64 room,bv,.map (some nb),.map (some kb),.map (some cb),.bool ((B7 fails once calls (((A4 path)&&(A4 to))&&((dirB path).toList==(dirB to).toList))).2.1),.bool once,.int .i64 ((B7 fails once calls (((A4 path)&&(A4 to))&&((dirB path).toList==(dirB to).toList))).2.2)] 64 (0,0))]::[(nb,.map (B3 nm) nc)]::[(cb,.map (B3 cm) cc)]::(F7 rows++H))) (hop:=.inr rfl) (kk:=A7 kr (fun w h=>(Sat.dropApp (h.pk 4 []))) (E2 (fuel:=1) [(9,0)] (fun w h=>(Sat.dropApp (h.pk 4 []))) (k:=C2 10 (k:=Z6 0 [1,1,1] (E4 (vs:=[pt d,.string (dirB to),.map (some b3)]) Tryz.func73 (vName d nb kb cb b3 nc cc (if T1 ([(to,pt p,0)]) path then 1 else 1+1) room ((B7 fails once calls (((A4 path)&&(A4 to))&&((dirB path).toList==(dirB to).toList))).2.2) bv ((B7 fails once calls (((A4 path)&&(A4 to))&&((dirB path).toList==(dirB to).toList))).2.1) once nm cm (H8 ([(to,pt p,0)]) 1 path (.pointer none)) (dirB to) hn (MapOk.put (X5 _ _) _ _) (hvput (Q:=fun v=>v=.pointer none∨∃ p,v=.pointer (some ⟨p,0,none⟩)) (hv1 _ _) (.inl rfl)) rows hR hl [[(b3,.map (B3 (H8 ([(to,pt p,0)]) 1 path (.pointer none))) (if T1 ([(to,pt p,0)]) path then 1 else 1+1))]] _ H (At.grp 0 0 rfl rfl)) ?_))))))))
     rintro v H' ⟨dn4,x5,rows6,hdn7,rfl,hR8,hA9,rfl⟩
     refine A7 kr (fun w h=>(Sat.dropApp (h.pk 4 []))) (D8 (E':=[]) [] (k:=A1 (A2 (B9 (E':=[⟨6,[],.int .i64 0⟩]) [0] [6] (k:=A1 (C8 (C5 [.tmp 6] [.int .i64 0] (k:=?_))))))))
     exact .inr ⟨hce,.inr ⟨hsm,rfl,_,_,_,_,x5,rows6,.inl ⟨rfl,rfl⟩,hdn7,hR8,hA9,rfl⟩⟩
    ·
     refine I1 (ch:=[]) (kt:=9) (et:=70) (r:=b3) (c:=0) (j:=0) (q:=0) (m:=[]) (k:=path) (v:=.pointer none) (H':=([(b3,.map (B3 ([(path,.pointer none,0)])) 1)]::[(d,.cells #[.int .i64 room,bv,.map (some nb),.map (some kb),.map (some cb),.bool ((B7 fails once calls (((A4 path)&&(A4 to))&&((dirB path).toList==(dirB to).toList))).2.1),.bool once,.int .i64 ((B7 fails once calls (((A4 path)&&(A4 to))&&((dirB path).toList==(dirB to).toList))).2.2)] 64 (0,0))]::[(nb,.map (B3 nm) nc)]::[(cb,.map (B3 cm) cc)]::(F7 rows++H))) (hop:=.inr rfl) (kk:=A7 kr (fun w h=>(Sat.dropApp (h.pk 4 []))) (C2 6 (k:=I1 (ch:=[]) (kt:=9) (et:=70) (r:=b3) (c:=1) (j:=0) (q:=0) (m:=[(path,.pointer none,0)]) (k:=to) (v:=pt p) (H':=([(b3,.map (B3 (H8 ([(path,.pointer none,0)]) 1 to (pt p))) (if T1 ([(path,.pointer none,0)]) to then 1 else 1+1))]::[(d,.cells #[.int .i64 room,bv,.map (some nb),.map (some kb),.map (some cb),.bool ((B7 fails once calls (((A4 path)&&(A4 to))&&((dirB path).toList==(dirB to).toList))).2.1),.bool once,.int .i64 ((B7 fails once calls (((A4 path)&&(A4 to))&&((dirB path).toList==(dirB to).toList))).2.2)] 64 (0,0))]::[(nb,.map (B3 nm) nc)]::[(cb,.map (B3 cm) cc)]::(F7 rows++H))) (hop:=.inr rfl) (kk:=A7 kr (fun w h=>(Sat.dropApp (h.pk 4 []))) (E2 (fuel:=1) [(9,0)] (fun w h=>(Sat.dropApp (h.pk 4 []))) (k:=C2 10 (k:=Z6 0 [1,1,1] (E4 (vs:=[pt d,.string (dirB to),.map (some b3)]) Tryz.func73 (vName d nb kb cb b3 nc cc (if T1 ([(path,.pointer none,0)]) to then 1 else 1+1) room ((B7 fails once calls (((A4 path)&&(A4 to))&&((dirB path).toList==(dirB to).toList))).2.2) bv ((B7 fails once calls (((A4 path)&&(A4 to))&&((dirB path).toList==(dirB to).toList))).2.1) once nm cm (H8 ([(path,.pointer none,0)]) 1 to (pt p)) (dirB to) hn (MapOk.put (X5 _ _) _ _) (hvput (Q:=fun v=>v=.pointer none∨∃ p,v=.pointer (some ⟨p,0,none⟩)) (hv0 _) (.inr ⟨_,rfl⟩)) rows hR hl [[(b3,.map (B3 (H8 ([(path,.pointer none,0)]) 1 to (pt p))) (if T1 ([(path,.pointer none,0)]) to then 1 else 1+1))]] _ H (At.grp 0 0 rfl rfl)) ?_))))))))
     rintro v H' ⟨dn10,x11,rows12,hdn13,rfl,hR14,hA15,rfl⟩
     refine A7 kr (fun w h=>(Sat.dropApp (h.pk 4 []))) (D8 (E':=[]) [] (k:=A1 (A2 (B9 (E':=[⟨6,[],.int .i64 0⟩]) [0] [6] (k:=A1 (C8 (C5 [.tmp 6] [.int .i64 0] (k:=?_))))))))
     exact .inr ⟨hce,.inr ⟨hsm,rfl,_,_,_,_,x11,rows12,.inr ⟨rfl,rfl⟩,hdn13,hR14,hA15,rfl⟩⟩
   ·
    refine O6 (ch:=[]) (k:=(fun b16=>A7 kr (fun w h=>(Sat.dropApp (h.pk 4 []))) (GH_eff3 2 6 8 (k:=?_) (k':=?_) (k2:=?_))))
    ·
     refine G1 (vs:=[.string to]) Tryz.func39 (N7 _ hto _ _) (A7 kr (fun w h=>(Sat.dropApp (h.pk 4 []))) (P4 6 8 (k:=?_) (k':=?_)))
     ·
      refine I1 (ch:=[]) (kt:=9) (et:=70) (r:=b16) (c:=0) (j:=0) (q:=0) (m:=[]) (k:=to) (v:=pt p) (H':=([(b16,.map (B3 ([(to,pt p,0)])) 1)]::[(d,.cells #[.int .i64 room,bv,.map (some nb),.map (some kb),.map (some cb),.bool ((B7 fails once calls (((A4 path)&&(A4 to))&&((dirB path).toList==(dirB to).toList))).2.1),.bool once,.int .i64 ((B7 fails once calls (((A4 path)&&(A4 to))&&((dirB path).toList==(dirB to).toList))).2.2)] 64 (0,0))]::[(nb,.map (B3 nm) nc)]::[(cb,.map (B3 cm) cc)]::(F7 rows++H))) (hop:=.inr rfl) (kk:=A7 kr (fun w h=>(Sat.dropApp (h.pk 4 []))) (C2 8 (k:=I1 (ch:=[]) (kt:=9) (et:=70) (r:=b16) (c:=1) (j:=0) (q:=0) (m:=[(to,pt p,0)]) (k:=path) (v:=.pointer none) (H':=([(b16,.map (B3 (H8 ([(to,pt p,0)]) 1 path (.pointer none))) (if T1 ([(to,pt p,0)]) path then 1 else 1+1))]::[(d,.cells #[.int .i64 room,bv,.map (some nb),.map (some kb),.map (some cb),.bool ((B7 fails once calls (((A4 path)&&(A4 to))&&((dirB path).toList==(dirB to).toList))).2.1),.bool once,.int .i64 ((B7 fails once calls (((A4 path)&&(A4 to))&&((dirB path).toList==(dirB to).toList))).2.2)] 64 (0,0))]::[(nb,.map (B3 nm) nc)]::[(cb,.map (B3 cm) cc)]::(F7 rows++H))) (hop:=.inr rfl) (kk:=A7 kr (fun w h=>(Sat.dropApp (h.pk 4 []))) (E2 (fuel:=1) [(9,0)] (fun w h=>(Sat.dropApp (h.pk 4 []))) (k:=C2 10 (k:=Z6 0 [1,1,1] (E4 (vs:=[pt d,.string (dirB to),.map (some b16)]) Tryz.func73 (vName d nb kb cb b16 nc cc (if T1 ([(to,pt p,0)]) path then 1 else 1+1) room ((B7 fails once calls (((A4 path)&&(A4 to))&&((dirB path).toList==(dirB to).toList))).2.2) bv ((B7 fails once calls (((A4 path)&&(A4 to))&&((dirB path).toList==(dirB to).toList))).2.1) once nm cm (H8 ([(to,pt p,0)]) 1 path (.pointer none)) (dirB to) hn (MapOk.put (X5 _ _) _ _) (hvput (Q:=fun v=>v=.pointer none∨∃ p,v=.pointer (some ⟨p,0,none⟩)) (hv1 _ _) (.inl rfl)) rows hR hl [[(b16,.map (B3 (H8 ([(to,pt p,0)]) 1 path (.pointer none))) (if T1 ([(to,pt p,0)]) path then 1 else 1+1))]] _ H (At.grp 0 0 rfl rfl)) ?_))))))))
      rintro v H' ⟨dn17,x18,rows19,hdn20,rfl,hR21,hA22,rfl⟩
      refine A7 kr (fun w h=>(Sat.dropApp (h.pk 4 []))) (D8 (E':=[]) [] (k:=A1 (A2 (B9 (E':=[⟨6,[],.int .i64 0⟩]) [0] [6] (k:=A1 (C8 (C5 [.tmp 6] [.int .i64 0] (k:=?_))))))))
      exact .inr ⟨hce,.inr ⟨hsm,rfl,_,_,_,_,x18,rows19,.inl ⟨rfl,rfl⟩,hdn20,hR21,hA22,rfl⟩⟩
     ·
      refine I1 (ch:=[]) (kt:=9) (et:=70) (r:=b16) (c:=0) (j:=0) (q:=0) (m:=[]) (k:=path) (v:=.pointer none) (H':=([(b16,.map (B3 ([(path,.pointer none,0)])) 1)]::[(d,.cells #[.int .i64 room,bv,.map (some nb),.map (some kb),.map (some cb),.bool ((B7 fails once calls (((A4 path)&&(A4 to))&&((dirB path).toList==(dirB to).toList))).2.1),.bool once,.int .i64 ((B7 fails once calls (((A4 path)&&(A4 to))&&((dirB path).toList==(dirB to).toList))).2.2)] 64 (0,0))]::[(nb,.map (B3 nm) nc)]::[(cb,.map (B3 cm) cc)]::(F7 rows++H))) (hop:=.inr rfl) (kk:=A7 kr (fun w h=>(Sat.dropApp (h.pk 4 []))) (C2 6 (k:=I1 (ch:=[]) (kt:=9) (et:=70) (r:=b16) (c:=1) (j:=0) (q:=0) (m:=[(path,.pointer none,0)]) (k:=to) (v:=pt p) (H':=([(b16,.map (B3 (H8 ([(path,.pointer none,0)]) 1 to (pt p))) (if T1 ([(path,.pointer none,0)]) to then 1 else 1+1))]::[(d,.cells #[.int .i64 room,bv,.map (some nb),.map (some kb),.map (some cb),.bool ((B7 fails once calls (((A4 path)&&(A4 to))&&((dirB path).toList==(dirB to).toList))).2.1),.bool once,.int .i64 ((B7 fails once calls (((A4 path)&&(A4 to))&&((dirB path).toList==(dirB to).toList))).2.2)] 64 (0,0))]::[(nb,.map (B3 nm) nc)]::[(cb,.map (B3 cm) cc)]::(F7 rows++H))) (hop:=.inr rfl) (kk:=A7 kr (fun w h=>(Sat.dropApp (h.pk 4 []))) (E2 (fuel:=1) [(9,0)] (fun w h=>(Sat.dropApp (h.pk 4 []))) (k:=C2 10 (k:=Z6 0 [1,1,1] (E4 (vs:=[pt d,.string (dirB to),.map (some b16)]) Tryz.func73 (vName d nb kb cb b16 nc cc (if T1 ([(path,.pointer none,0)]) to then 1 else 1+1) room ((B7 fails once calls (((A4 path)&&(A4 to))&&((dirB path).toList==(dirB to).toList))).2.2) bv ((B7 fails once calls (((A4 path)&&(A4 to))&&((dirB path).toList==(dirB to).toList))).2.1) once nm cm (H8 ([(path,.pointer none,0)]) 1 to (pt p)) (dirB to) hn (MapOk.put (X5 _ _) _ _) (hvput (Q:=fun v=>v=.pointer none∨∃ p,v=.pointer (some ⟨p,0,none⟩)) (hv0 _) (.inr ⟨_,rfl⟩)) rows hR hl [[(b16,.map (B3 (H8 ([(path,.pointer none,0)]) 1 to (pt p))) (if T1 ([(path,.pointer none,0)]) to then 1 else 1+1))]] _ H (At.grp 0 0 rfl rfl)) ?_))))))))
      rintro v H' ⟨dn23,x24,rows25,hdn26,rfl,hR27,hA28,rfl⟩
      refine A7 kr (fun w h=>(Sat.dropApp (h.pk 4 []))) (D8 (E':=[]) [] (k:=A1 (A2 (B9 (E':=[⟨6,[],.int .i64 0⟩]) [0] [6] (k:=A1 (C8 (C5 [.tmp 6] [.int .i64 0] (k:=?_))))))))
      exact .inr ⟨hce,.inr ⟨hsm,rfl,_,_,_,_,x24,rows25,.inr ⟨rfl,rfl⟩,hdn26,hR27,hA28,rfl⟩⟩
    ·
     refine I1 (ch:=[]) (kt:=9) (et:=70) (r:=b16) (c:=0) (j:=0) (q:=0) (m:=[]) (k:=to) (v:=pt p) (H':=([(b16,.map (B3 ([(to,pt p,0)])) 1)]::[(d,.cells #[.int .i64 room,bv,.map (some nb),.map (some kb),.map (some cb),.bool ((B7 fails once calls (((A4 path)&&(A4 to))&&((dirB path).toList==(dirB to).toList))).2.1),.bool once,.int .i64 ((B7 fails once calls (((A4 path)&&(A4 to))&&((dirB path).toList==(dirB to).toList))).2.2)] 64 (0,0))]::[(nb,.map (B3 nm) nc)]::[(cb,.map (B3 cm) cc)]::(F7 rows++H))) (hop:=.inr rfl) (kk:=A7 kr (fun w h=>(Sat.dropApp (h.pk 4 []))) (P4 2 8 (k:=?_) (k':=?_)))
     ·
      refine G1 (vs:=[.string to]) Tryz.func39 (N7 _ hto _ _) (A7 kr (fun w h=>(Sat.dropApp (h.pk 4 []))) (C2 8 (k:=I1 (ch:=[]) (kt:=9) (et:=70) (r:=b16) (c:=1) (j:=0) (q:=0) (m:=[(to,pt p,0)]) (k:=path) (v:=.pointer none) (H':=([(b16,.map (B3 (H8 ([(to,pt p,0)]) 1 path (.pointer none))) (if T1 ([(to,pt p,0)]) path then 1 else 1+1))]::[(d,.cells #[.int .i64 room,bv,.map (some nb),.map (some kb),.map (some cb),.bool ((B7 fails once calls (((A4 path)&&(A4 to))&&((dirB path).toList==(dirB to).toList))).2.1),.bool once,.int .i64 ((B7 fails once calls (((A4 path)&&(A4 to))&&((dirB path).toList==(dirB to).toList))).2.2)] 64 (0,0))]::[(nb,.map (B3 nm) nc)]::[(cb,.map (B3 cm) cc)]::(F7 rows++H))) (hop:=.inr rfl) (kk:=A7 kr (fun w h=>(Sat.dropApp (h.pk 4 []))) (E2 (fuel:=1) [(9,0)] (fun w h=>(Sat.dropApp (h.pk 4 []))) (k:=C2 10 (k:=Z6 0 [1,1,1] (E4 (vs:=[pt d,.string (dirB to),.map (some b16)]) Tryz.func73 (vName d nb kb cb b16 nc cc (if T1 ([(to,pt p,0)]) path then 1 else 1+1) room ((B7 fails once calls (((A4 path)&&(A4 to))&&((dirB path).toList==(dirB to).toList))).2.2) bv ((B7 fails once calls (((A4 path)&&(A4 to))&&((dirB path).toList==(dirB to).toList))).2.1) once nm cm (H8 ([(to,pt p,0)]) 1 path (.pointer none)) (dirB to) hn (MapOk.put (X5 _ _) _ _) (hvput (Q:=fun v=>v=.pointer none∨∃ p,v=.pointer (some ⟨p,0,none⟩)) (hv1 _ _) (.inl rfl)) rows hR hl [[(b16,.map (B3 (H8 ([(to,pt p,0)]) 1 path (.pointer none))) (if T1 ([(to,pt p,0)]) path then 1 else 1+1))]] _ H (At.grp 0 0 rfl rfl)) ?_))))))))
      rintro v H' ⟨dn29,x30,rows31,hdn32,rfl,hR33,hA34,rfl⟩
      refine A7 kr (fun w h=>(Sat.dropApp (h.pk 4 []))) (D8 (E':=[]) [] (k:=A1 (A2 (B9 (E':=[⟨6,[],.int .i64 0⟩]) [0] [6] (k:=A1 (C8 (C5 [.tmp 6] [.int .i64 0] (k:=?_))))))))
      exact .inr ⟨hce,.inr ⟨hsm,rfl,_,_,_,_,x30,rows31,.inl ⟨rfl,rfl⟩,hdn32,hR33,hA34,rfl⟩⟩
     ·
      refine I1 (ch:=[]) (kt:=9) (et:=70) (r:=b16) (c:=1) (j:=0) (q:=0) (m:=[(to,pt p,0)]) (k:=path) (v:=.pointer none) (H':=([(b16,.map (B3 (H8 ([(to,pt p,0)]) 1 path (.pointer none))) (if T1 ([(to,pt p,0)]) path then 1 else 1+1))]::[(d,.cells #[.int .i64 room,bv,.map (some nb),.map (some kb),.map (some cb),.bool ((B7 fails once calls (((A4 path)&&(A4 to))&&((dirB path).toList==(dirB to).toList))).2.1),.bool once,.int .i64 ((B7 fails once calls (((A4 path)&&(A4 to))&&((dirB path).toList==(dirB to).toList))).2.2)] 64 (0,0))]::[(nb,.map (B3 nm) nc)]::[(cb,.map (B3 cm) cc)]::(F7 rows++H))) (hop:=.inr rfl) (kk:=A7 kr (fun w h=>(Sat.dropApp (h.pk 4 []))) (E2 (fuel:=2) [(9,0)] (fun w h=>(Sat.dropApp (h.pk 4 []))) (k:=C2 2 (k:=G1 (vs:=[.string to]) Tryz.func39 (N7 _ hto _ _) (A7 kr (fun w h=>(Sat.dropApp (h.pk 4 []))) (C2 10 (k:=Z6 0 [1,1,1] (E4 (vs:=[pt d,.string (dirB to),.map (some b16)]) Tryz.func73 (vName d nb kb cb b16 nc cc (if T1 ([(to,pt p,0)]) path then 1 else 1+1) room ((B7 fails once calls (((A4 path)&&(A4 to))&&((dirB path).toList==(dirB to).toList))).2.2) bv ((B7 fails once calls (((A4 path)&&(A4 to))&&((dirB path).toList==(dirB to).toList))).2.1) once nm cm (H8 ([(to,pt p,0)]) 1 path (.pointer none)) (dirB to) hn (MapOk.put (X5 _ _) _ _) (hvput (Q:=fun v=>v=.pointer none∨∃ p,v=.pointer (some ⟨p,0,none⟩)) (hv1 _ _) (.inl rfl)) rows hR hl [[(b16,.map (B3 (H8 ([(to,pt p,0)]) 1 path (.pointer none))) (if T1 ([(to,pt p,0)]) path then 1 else 1+1))]] _ H (At.grp 0 0 rfl rfl)) ?_))))))))
      rintro v H' ⟨dn35,x36,rows37,hdn38,rfl,hR39,hA40,rfl⟩
      refine A7 kr (fun w h=>(Sat.dropApp (h.pk 4 []))) (D8 (E':=[]) [] (k:=A1 (A2 (B9 (E':=[⟨6,[],.int .i64 0⟩]) [0] [6] (k:=A1 (C8 (C5 [.tmp 6] [.int .i64 0] (k:=?_))))))))
      exact .inr ⟨hce,.inr ⟨hsm,rfl,_,_,_,_,x36,rows37,.inl ⟨rfl,rfl⟩,hdn38,hR39,hA40,rfl⟩⟩
    ·
     refine I1 (ch:=[]) (kt:=9) (et:=70) (r:=b16) (c:=0) (j:=0) (q:=0) (m:=[]) (k:=path) (v:=.pointer none) (H':=([(b16,.map (B3 ([(path,.pointer none,0)])) 1)]::[(d,.cells #[.int .i64 room,bv,.map (some nb),.map (some kb),.map (some cb),.bool ((B7 fails once calls (((A4 path)&&(A4 to))&&((dirB path).toList==(dirB to).toList))).2.1),.bool once,.int .i64 ((B7 fails once calls (((A4 path)&&(A4 to))&&((dirB path).toList==(dirB to).toList))).2.2)] 64 (0,0))]::[(nb,.map (B3 nm) nc)]::[(cb,.map (B3 cm) cc)]::(F7 rows++H))) (hop:=.inr rfl) (kk:=A7 kr (fun w h=>(Sat.dropApp (h.pk 4 []))) (P4 2 6 (k:=?_) (k':=?_)))
     ·
      refine G1 (vs:=[.string to]) Tryz.func39 (N7 _ hto _ _) (A7 kr (fun w h=>(Sat.dropApp (h.pk 4 []))) (C2 6 (k:=I1 (ch:=[]) (kt:=9) (et:=70) (r:=b16) (c:=1) (j:=0) (q:=0) (m:=[(path,.pointer none,0)]) (k:=to) (v:=pt p) (H':=([(b16,.map (B3 (H8 ([(path,.pointer none,0)]) 1 to (pt p))) (if T1 ([(path,.pointer none,0)]) to then 1 else 1+1))]::[(d,.cells #[.int .i64 room,bv,.map (some nb),.map (some kb),.map (some cb),.bool ((B7 fails once calls (((A4 path)&&(A4 to))&&((dirB path).toList==(dirB to).toList))).2.1),.bool once,.int .i64 ((B7 fails once calls (((A4 path)&&(A4 to))&&((dirB path).toList==(dirB to).toList))).2.2)] 64 (0,0))]::[(nb,.map (B3 nm) nc)]::[(cb,.map (B3 cm) cc)]::(F7 rows++H))) (hop:=.inr rfl) (kk:=A7 kr (fun w h=>(Sat.dropApp (h.pk 4 []))) (E2 (fuel:=1) [(9,0)] (fun w h=>(Sat.dropApp (h.pk 4 []))) (k:=C2 10 (k:=Z6 0 [1,1,1] (E4 (vs:=[pt d,.string (dirB to),.map (some b16)]) Tryz.func73 (vName d nb kb cb b16 nc cc (if T1 ([(path,.pointer none,0)]) to then 1 else 1+1) room ((B7 fails once calls (((A4 path)&&(A4 to))&&((dirB path).toList==(dirB to).toList))).2.2) bv ((B7 fails once calls (((A4 path)&&(A4 to))&&((dirB path).toList==(dirB to).toList))).2.1) once nm cm (H8 ([(path,.pointer none,0)]) 1 to (pt p)) (dirB to) hn (MapOk.put (X5 _ _) _ _) (hvput (Q:=fun v=>v=.pointer none∨∃ p,v=.pointer (some ⟨p,0,none⟩)) (hv0 _) (.inr ⟨_,rfl⟩)) rows hR hl [[(b16,.map (B3 (H8 ([(path,.pointer none,0)]) 1 to (pt p))) (if T1 ([(path,.pointer none,0)]) to then 1 else 1+1))]] _ H (At.grp 0 0 rfl rfl)) ?_))))))))
      rintro v H' ⟨dn41,x42,rows43,hdn44,rfl,hR45,hA46,rfl⟩
      refine A7 kr (fun w h=>(Sat.dropApp (h.pk 4 []))) (D8 (E':=[]) [] (k:=A1 (A2 (B9 (E':=[⟨6,[],.int .i64 0⟩]) [0] [6] (k:=A1 (C8 (C5 [.tmp 6] [.int .i64 0] (k:=?_))))))))
      exact .inr ⟨hce,.inr ⟨hsm,rfl,_,_,_,_,x42,rows43,.inr ⟨rfl,rfl⟩,hdn44,hR45,hA46,rfl⟩⟩
     ·
      refine I1 (ch:=[]) (kt:=9) (et:=70) (r:=b16) (c:=1) (j:=0) (q:=0) (m:=[(path,.pointer none,0)]) (k:=to) (v:=pt p) (H':=([(b16,.map (B3 (H8 ([(path,.pointer none,0)]) 1 to (pt p))) (if T1 ([(path,.pointer none,0)]) to then 1 else 1+1))]::[(d,.cells #[.int .i64 room,bv,.map (some nb),.map (some kb),.map (some cb),.bool ((B7 fails once calls (((A4 path)&&(A4 to))&&((dirB path).toList==(dirB to).toList))).2.1),.bool once,.int .i64 ((B7 fails once calls (((A4 path)&&(A4 to))&&((dirB path).toList==(dirB to).toList))).2.2)] 64 (0,0))]::[(nb,.map (B3 nm) nc)]::[(cb,.map (B3 cm) cc)]::(F7 rows++H))) (hop:=.inr rfl) (kk:=A7 kr (fun w h=>(Sat.dropApp (h.pk 4 []))) (E2 (fuel:=2) [(9,0)] (fun w h=>(Sat.dropApp (h.pk 4 []))) (k:=C2 2 (k:=G1 (vs:=[.string to]) Tryz.func39 (N7 _ hto _ _) (A7 kr (fun w h=>(Sat.dropApp (h.pk 4 []))) (C2 10 (k:=Z6 0 [1,1,1] (E4 (vs:=[pt d,.string (dirB to),.map (some b16)]) Tryz.func73 (vName d nb kb cb b16 nc cc (if T1 ([(path,.pointer none,0)]) to then 1 else 1+1) room ((B7 fails once calls (((A4 path)&&(A4 to))&&((dirB path).toList==(dirB to).toList))).2.2) bv ((B7 fails once calls (((A4 path)&&(A4 to))&&((dirB path).toList==(dirB to).toList))).2.1) once nm cm (H8 ([(path,.pointer none,0)]) 1 to (pt p)) (dirB to) hn (MapOk.put (X5 _ _) _ _) (hvput (Q:=fun v=>v=.pointer none∨∃ p,v=.pointer (some ⟨p,0,none⟩)) (hv0 _) (.inr ⟨_,rfl⟩)) rows hR hl [[(b16,.map (B3 (H8 ([(path,.pointer none,0)]) 1 to (pt p))) (if T1 ([(path,.pointer none,0)]) to then 1 else 1+1))]] _ H (At.grp 0 0 rfl rfl)) ?_))))))))
      rintro v H' ⟨dn47,x48,rows49,hdn50,rfl,hR51,hA52,rfl⟩
      refine A7 kr (fun w h=>(Sat.dropApp (h.pk 4 []))) (D8 (E':=[]) [] (k:=A1 (A2 (B9 (E':=[⟨6,[],.int .i64 0⟩]) [0] [6] (k:=A1 (C8 (C5 [.tmp 6] [.int .i64 0] (k:=?_))))))))
      exact .inr ⟨hce,.inr ⟨hsm,rfl,_,_,_,_,x48,rows49,.inr ⟨rfl,rfl⟩,hdn50,hR51,hA52,rfl⟩⟩
  ·
   have hsm:=hc2
   refine B6 (A1 (A2 (B9 (E':=[⟨6,[],.int .i64 0⟩]) [0] [6] (k:=A1 (C8 (C5 [.tmp 6] [.int .i64 0] (k:=?_)))))))
   exact .inr ⟨hce,.inl ⟨hsm,rfl,rfl⟩⟩
end Go.Proofs.YtdolpaagdpeagaaGreatDoor
