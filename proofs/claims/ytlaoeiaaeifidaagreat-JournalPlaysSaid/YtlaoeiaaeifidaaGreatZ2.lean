/- A disk, in plain words: the data of the document's answer, and what each call makes of it. No program is in sight. (and what it stands on) -/
import Derived.Test.YtlaoeiaaeifidaaGreatZ1
import Derived.Laws.Externs
import Derived.Test.YtlaoeiaaeifidaaGreatRows
import Derived.Lib.Strings
import Derived.Laws.IdiomStrings
import Derived.Shelf.Sort.Plain
import Derived.Shelf.Slices.In.SortNone
import Derived.Sort.OwnSorted
import Derived.Shelf.SlIter.Nil
import Derived.ProofKit
import Derived.OpenShut
import Derived.ChangeMaps5
namespace Go.Sw
open Go.RowKit
theorem baEq {a b:ByteArray}:(a==b)=true ↔ a=b:=by
  constructor
  · intro h
    have h':(a.data==b.data)=true:=h
    cases a; cases b; simpa using h'
  · intro h
    subst h
    show (a.data==a.data)=true
    simp
theorem baNe {a b:ByteArray}:(a==b)=false ↔ a≠b:=by
  rw [← Bool.not_eq_true,ne_eq,baEq]
abbrev SM:=List (ByteArray × Value × Nat)
def entM (e:ByteArray × Value × Nat):MapEntry:=⟨.string e.1,e.2.1,e.2.2⟩
def B2 (m:SM):Array MapEntry:=(m.map entM).toArray
def W7 (k:ByteArray):SM→Nat→Option (Nat × Value)
  | [],_=>none
  | e::r,i=>if k==e.1 then some (i,e.2.1) else W7 k r (i+1)
def S4 (m:SM) (k:ByteArray):Option Value:=(W7 k m 0).map (·.2)
def I3:SM→Nat→ByteArray→Value→SM
  | [],c,k,v=>[(k,v,c)]
  | e::r,c,k,v=>if k==e.1 then (k,v,e.2.2)::r else e::I3 r c k v
def mdel:SM→ByteArray→SM
  | [],_=>[]
  | e::r,k=>if k==e.1 then r else e::mdel r k
def J7 (m:SM) (k:ByteArray):Bool:=m.any fun e=>k==e.1
theorem findNow_enc (k:ByteArray):∀ (m:SM) (i:Nat),Instr.findNow .string (.string k) (m.map entM) i=some (W7 k m i)
  | [],i=>rfl
  | e::r,i=>by
    simp only [List.map_cons,Instr.findNow,entM,Instr.sameNow,W7]
    cases h:k==e.1
    · simp only [Bool.false_eq_true,if_false]; exact findNow_enc k r (i+1)
    · simp
theorem run_checkKey {P:Program} {b:Bool} {kt:TypeId} (h:P.underlying kt=some .string) (k:ByteArray) (w:World):∀ d,(Instr.checkKey b (d+1) kt (.string k)).run P w=.ok () w:=by
  intro d
  simp [Instr.checkKey,run_underlying h]
theorem A0r {P:Program} {kt:TypeId} (h:P.underlying kt=some .string) (k:ByteArray) (m:SM) (w:World):(Instr.findKey kt (.string k) (B2 m).toList).run P w=.ok (W7 k m 0) w:=by
  simp only [Instr.findKey,Sem.run_bind,run_underlying h,Result.andThen_ok,B2,List.toList_toArray,findNow_enc]
  rfl
theorem M8 {P:Program} {w:World} {r:Nat} {es:Array MapEntry} {c:Nat} (h:w.heap[r]? = some (.map es c)):(getObj r).run P w=.ok (.map es c) w:=by
  simp [getObj,Sem.run,h]
def lookV (ok:Bool) (z:Value):Option Value→Value
  | some v=>if ok then .tuple #[v,.bool true] else v
  | none=>if ok then .tuple #[z,.bool false] else z
theorem L0 {d:Bool} {P:Program} {ops:Array Oper} {i:Nat} {Q:G3} {n:Fr} {E:Env} {W0:World} {H:List Grp} {o:Oper} {ch:List (Nat × Bool)} {t kt et:TypeId} {x ix:Operand} {ok:Bool} {r c:Nat} {m:SM} {k:ByteArray} {z:Value} {ov:Option Value}
    (ho:ops[i]? = some o:=by exact rfl) (hop:o.op=.lookup t x ix ok:=by exact rfl) (hx:evO E ch x=some (.map (some r)):=by kernel_rfl) (hix:evO E ch ix=some (.string k):=by kernel_rfl) (hu:P.underlying t=some (.map kt et):=by kernel_rfl) (hkt:P.underlying kt=some .string:=by kernel_rfl) (hz:zeroV P et=some z:=by kernel_rfl)
    (hch:F3 ops E o.guard=some ch:=by kernel_rfl) (hd:H7 n ch o.dst=true:=by kernel_rfl) (hk:K3 E ch=true:=by kernel_rfl)
    (hA:At W0 H r (.map (B2 m) c)) (hg:chB E ch→S4 m k=ov)
    (kk:GL d P ops (i+1) Q n (Env.put E o.dst ch (lookV ok z ov)) W0 H):GL d P ops i Q n E W0 H:=by
  refine J2 ho hch hd hk (fun rr hr hcb w hs=>?_) kk
  have hg':=hg hcb
  unfold S4 at hg'
  unfold execOp
  simp only [hop]
  rw [hr _ _ hx,hr _ _ hix]
  have hck:=run_checkKey (P:=P) (b:=(B2 m).isEmpty) hkt k w 9999
  simp only [Instr.lookup,Sem.run_bind,run_underlying hu,Result.andThen_ok,M8 (hs.at hA),Sem.run_pure]
  rw [hck]
  simp only [Result.andThen_ok,A0r hkt]
  cases hf:W7 k m 0 with
  | none=>rw [hf] at hg'; simp at hg'; subst hg'; simp only [Sem.run_bind,X2 hz,Result.andThen_ok,Sem.run_pure]; exact ⟨rfl,by cases ok <;> rfl⟩
  | some p=>rw [hf] at hg'; simp at hg'; subst hg'; exact ⟨rfl,by cases ok <;> rfl⟩
theorem Wr_setObj {P:Program} {w:World} {b:Nat} {o o':Obj} (h:w.heap[b]? = some o) (hc:(match o with | .cells ..=>false | _=>true)=true) :
    ∃ w',(setObj b o').run P w=.ok () w'∧Wr b o' w w':=by
  have hb:b<w.heap.size:=by
    rcases Nat.lt_or_ge b w.heap.size with h' | h'
    · exact h'
    · simp [Array.getElem?_eq_none h'] at h
  refine ⟨{ w with heap:=w.heap.setIfInBounds b o' },?_,rfl,rfl,rfl,by simp,by simp [hb],fun k hk=>?_⟩
  · simp only [setObj,Sem.run,h]
    cases o <;> simp at hc <;> rfl
  · show (w.heap.setIfInBounds b o')[k]? = _
    rw [Array.getElem?_setIfInBounds_ne (fun e=>hk e.symm)]
theorem mfind_put {k:ByteArray}:∀ (m:SM) (i:Nat) (c:Nat) (v:Value),(W7 k m i=none→I3 m c k v=m++[(k,v,c)]∧J7 m k=false) ∧
    (∀ j u,W7 k m i=some (j,u)→i≤j∧J7 m k=true∧(m.map entM).toArray.modify (j - i) (fun e=>{ e with key:=.string k,val:=v })=(I3 m c k v |>.map entM).toArray∧((m.map entM)[j - i]?).isSome=true∧(∃ k',((m.map entM)[j - i]?).map (·.key)=some (.string k')∧(k==k')=true))
  | [],i,c,v=>by
    constructor
    · intro _; exact ⟨rfl,rfl⟩
    · intro j u h; simp [W7] at h
  | e::r,i,c,v=>by
    obtain ⟨ih1,ih2⟩:=mfind_put (k:=k) r (i+1) c v
    simp only [W7,I3,J7,List.any_cons]
    cases hk:k==e.1
    · simp only [Bool.false_eq_true,if_false,Bool.false_or]
      constructor
      · intro h; obtain ⟨h1,h2⟩:=ih1 h; exact ⟨by rw [h1]; rfl,h2⟩
      · intro j u h
        obtain ⟨h1,h2,h3,h4,h5⟩:=ih2 j u h
        refine ⟨by omega,h2,?_,?_,?_⟩
        · have e1:j - i=(j - (i+1))+1:=by omega
          apply Array.ext'
          have h3':=congrArg Array.toList h3
          simp only [Array.toList_modify] at h3' ⊢
          rw [e1,List.map_cons,List.modify_succ_cons,h3',List.map_cons]
        · have e1:j - i=(j - (i+1))+1:=by omega
          rw [e1,List.map_cons,List.getElem?_cons_succ]; exact h4
        · have e1:j - i=(j - (i+1))+1:=by omega
          rw [e1,List.map_cons,List.getElem?_cons_succ]; exact h5
    · simp only [if_true,Bool.true_or]
      constructor
      · intro h; simp at h
      · intro j u h
        simp only [Option.some.injEq,Prod.mk.injEq] at h
        obtain ⟨rfl,_⟩:=h
        refine ⟨Nat.le_refl _,trivial,?_,?_,?_⟩
        · apply Array.ext'
          simp [entM]
        · simp
        · exact ⟨e.1,by simp [entM],hk⟩
theorem run_mapUpdate {P:Program} {t kt et:TypeId} (hu:P.underlying t=some (.map kt et)) (hkt:P.underlying kt=some .string) {w:World} {r c:Nat} {m:SM} (h:w.heap[r]? = some (.map (B2 m) c)) (k:ByteArray) (v:Value) :
    ∃ w',(Instr.mapUpdate t (.map (some r)) (.string k) v).run P w=.ok () w'∧Wr r (.map (B2 (I3 m c k v)) (if J7 m k then c else c+1)) w w':=by
  have hck:=run_checkKey (P:=P) (b:=false) hkt k w 9999
  obtain ⟨hp1,hp2⟩:=mfind_put (k:=k) m 0 c v
  cases hf:W7 k m 0 with
  | none =>
    obtain ⟨h1,h2⟩:=hp1 hf
    obtain ⟨w',hr',hw'⟩:=Wr_setObj (P:=P) h (o':=.map (B2 (I3 m c k v)) (c+1)) rfl
    refine ⟨w',?_,by rw [h2]; exact hw'⟩
    simp only [Instr.mapUpdate,Sem.run_bind,run_underlying hu,Result.andThen_ok,M8 h]
    rw [hck]
    simp only [Result.andThen_ok,A0r hkt,hf]
    rw [← hr']
    congr 3
    rw [h1]
    simp [B2,entM]
  | some p =>
    obtain ⟨j,u⟩:=p
    obtain ⟨_,h2,h3,h4,k',h5,h6⟩:=hp2 j u hf
    simp only [Nat.sub_zero] at h3 h4 h5
    obtain ⟨w',hr',hw'⟩:=Wr_setObj (P:=P) h (o':=.map (B2 (I3 m c k v)) c) rfl
    refine ⟨w',?_,by rw [h2]; exact hw'⟩
    simp only [Instr.mapUpdate,Sem.run_bind,run_underlying hu,Result.andThen_ok,M8 h]
    rw [hck]
    simp only [Result.andThen_ok,A0r hkt,hf]
    have hks:(Instr.keyThatStays ((((B2 m)[j]?).map (·.key)).getD (.string k)) (.string k)).run P w=.ok (.string k) w:=by
      have e1:((B2 m)[j]?).map (·.key)=some (.string k'):=by rw [← h5]; simp [B2]
      have e2:(k'==k)=true:=by
        rw [baEq] at h6 ⊢
        exact h6.symm
      rw [e1]
      simp only [Option.getD_some,Instr.keyThatStays]
      have:Instr.sameBits 10000 (.string k') (.string k)=true:=by
        show Instr.sameBits (9999+1) _ _=true
        simpa [Instr.sameBits] using e2
      rw [if_pos this]
      rfl
    simp only [Sem.run_bind,hks,Result.andThen_ok]
    rw [← hr']
    congr 3
theorem J8 {P:Program} {ops:Array Oper} {i:Nat} {Q:G3} {n:Fr} {E:Env} {W0:World} {H H':List Grp} {o:Oper} {ch:List (Nat × Bool)} {t kt et:TypeId} {x y u:Operand} {r c j q:Nat} {m:SM} {k:ByteArray} {v:Value} {g:Grp}
    (ho:ops[i]? = some o:=by exact rfl) (hop:o.op=.mapUpdate t x y u∨o.op=.insert t x y u) (hx:evO E ch x=some (.map (some r)):=by kernel_rfl) (hy:evO E ch y=some (.string k):=by kernel_rfl) (hv:evO E ch u=some v:=by kernel_rfl)
    (hu:P.underlying t=some (.map kt et):=by kernel_rfl) (hkt:P.underlying kt=some .string:=by kernel_rfl)
    (hch:F3 ops E o.guard=some ch:=by kernel_rfl) (hd:H7 n ch o.dst=true:=by kernel_rfl) (hsure:P4 E ch=true:=by kernel_rfl)
    (hj:H[j]? = some g:=by exact rfl) (hi:g[q]? = some (r,.map (B2 m) c):=by exact rfl) (hH':H.set j (g.set q (r,.map (B2 (I3 m c k v)) (if J7 m k then c else c+1)))=H':=by exact rfl)
    (kk:GL false P ops (i+1) Q n (Env.put E o.dst ch undef) W0 H'):GL false P ops i Q n E W0 H:=by
  refine Y4 (R:=fun v H1=>v=undef∧H1=H') ho hch hd hsure (fun rr hr w hs=>?_) (by rintro v H1 ⟨rfl,rfl⟩; exact kk)
  have hblk:=hs.has _ (List.mem_flatten.2 ⟨g,List.mem_of_getElem? hj,List.mem_of_getElem? hi⟩)
  obtain ⟨w',hr',hw'⟩:=run_mapUpdate hu hkt hblk k v
  refine ⟨undef,w',H',⟨rfl,rfl⟩,by rw [← hH']; exact hs.wr hj hi hw',.inr ⟨?_,rfl⟩⟩
  unfold execOp
  rcases hop with hop | hop <;>
    (simp only [hop]
     rw [hr _ _ hx,hr _ _ hy,hr _ _ hv]
     simp only [Sem.run_bind,hr',Result.andThen_ok]
     rfl)
theorem mfind_del {k:ByteArray}:∀ (m:SM) (i:Nat),(W7 k m i=none→mdel m k=m)∧(∀ j u,W7 k m i=some (j,u)→i≤j∧(m.map entM).toArray.eraseIdxIfInBounds (j - i)=(mdel m k |>.map entM).toArray)
  | [],i=>by simp [W7,mdel]
  | e::r,i=>by
    obtain ⟨ih1,ih2⟩:=mfind_del (k:=k) r (i+1)
    simp only [W7,mdel]
    cases hk:k==e.1
    · simp only [Bool.false_eq_true,if_false]
      constructor
      · intro h; rw [ih1 h]
      · intro j u h
        obtain ⟨h1,h3⟩:=ih2 j u h
        refine ⟨by omega,?_⟩
        have e1:j - i=(j - (i+1))+1:=by omega
        apply Array.ext'
        have h3':=congrArg Array.toList h3
        simp only [Array.toList_eraseIdxIfInBounds] at h3' ⊢
        rw [e1,List.map_cons,List.eraseIdx_cons_succ,h3',List.map_cons]
    · simp only [if_true]
      constructor
      · intro h; simp at h
      · intro j u h
        simp only [Option.some.injEq,Prod.mk.injEq] at h
        obtain ⟨rfl,_⟩:=h
        refine ⟨Nat.le_refl _,?_⟩
        apply Array.ext'
        simp
theorem GL_delete {P:Program} {ops:Array Oper} {i:Nat} {Q:G3} {n:Fr} {E:Env} {W0:World} {H H':List Grp} {o:Oper} {ch:List (Nat × Bool)} {cl:Call} {t kt et:TypeId} {ts:Array TypeId} {r c j q:Nat} {m:SM} {k:ByteArray} {g:Grp}
    (ho:ops[i]? = some o:=by exact rfl) (hop:o.op=.call cl:=by exact rfl) (hce:cl.callee=.builtin .delete:=by exact rfl) (hts:cl.argTypes=ts:=by exact rfl) (hat:ts[0]? = some t:=by exact rfl) (hargs:evL (evO E ch) cl.args.toList=some [.map (some r),.string k]:=by kernel_rfl)
    (hu:P.underlying t=some (.map kt et):=by kernel_rfl) (hkt:P.underlying kt=some .string:=by kernel_rfl)
    (hch:F3 ops E o.guard=some ch:=by kernel_rfl) (hd:H7 n ch o.dst=true:=by kernel_rfl) (hsure:P4 E ch=true:=by kernel_rfl)
    (hj:H[j]? = some g:=by exact rfl) (hi:g[q]? = some (r,.map (B2 m) c):=by exact rfl) (hH':H.set j (g.set q (r,.map (B2 (mdel m k)) c))=H':=by exact rfl)
    (kk:GL false P ops (i+1) Q n (Env.put E o.dst ch (.tuple #[])) W0 H'):GL false P ops i Q n E W0 H:=by
  refine Y4 (R:=fun v H1=>v=.tuple #[]∧H1=H') ho hch hd hsure (fun rr hr w hs=>?_) (by rintro v H1 ⟨rfl,rfl⟩; exact kk)
  have hblk:=hs.has _ (List.mem_flatten.2 ⟨g,List.mem_of_getElem? hj,List.mem_of_getElem? hi⟩)
  obtain ⟨w',hr',hw'⟩:=Wr_setObj (P:=P) hblk (o':=.map (B2 (mdel m k)) c) rfl
  refine ⟨.tuple #[],w',H',⟨rfl,rfl⟩,by rw [← hH']; exact hs.wr hj hi hw',.inl ?_⟩
  have hck:=run_checkKey (P:=P) (b:=(B2 m).isEmpty) hkt k w 9999
  obtain ⟨hp1,hp2⟩:=mfind_del (k:=k) m 0
  have hrun:(Builtin.delete_ ts o.type #[.map (some r),.string k]).run P w=.ok (.tuple #[]) w':=by
    have h0:(#[.map (some r),.string k]:Array Value)[0]? = some (.map (some r)):=rfl
    have h1:(#[.map (some r),.string k]:Array Value)[1]? = some (.string k):=rfl
    simp only [Builtin.delete_,hat,h0,h1,Sem.run_bind,run_underlying hu,Result.andThen_ok,M8 hblk]
    rw [hck]
    simp only [Result.andThen_ok,A0r hkt]
    cases hf:W7 k m 0 with
    | none =>
      rw [hp1 hf] at hr'
      simp only [Sem.run_bind,hr',Result.andThen_ok]; rfl
    | some p =>
      obtain ⟨jj,u⟩:=p
      obtain ⟨_,h3⟩:=hp2 jj u hf
      simp only [Nat.sub_zero] at h3
      have e1:(B2 m).eraseIdxIfInBounds jj=B2 (mdel m k):=h3
      simp only [e1,Sem.run_bind,hr',Result.andThen_ok]; rfl
  unfold execOp
  simp only [hop,resolve,hce,hts,O6 hr hargs,Sem.run_bind,Sem.run_pure,Result.andThen_ok,invoke,Go.builtin,hrun]
structure MapOk (m:SM) (c:Nat):Prop where
  keys:m.Pairwise fun x y=>(x.1==y.1)=false
  born:(m.map (·.2.2)).Nodup
  lt:∀ e,e∈m→e.2.2<c
theorem GL_range {P:Program} {ops:Array Oper} {i:Nat} {Q:G3} {n:Fr} {E:Env} {W0:World} {H:List Grp} {o:Oper} {ch:List (Nat × Bool)} {t kt et:TypeId} {x:Operand} {r c:Nat} {m:SM}
    (ho:ops[i]? = some o) (hop:o.op=.range t x) (hx:evO E ch x=some (.map (some r))) (hu:P.underlying t=some (.map kt et))
    (hch:F3 ops E o.guard=some ch) (hd:H7 n ch o.dst=true) (hsure:P4 E ch=true)
    (hA:At W0 H r (.map (B2 m) c))
    (kk:∀ b,GL false P ops (i+1) Q n (Env.put E o.dst ch (.pointer (some ⟨b,0,none⟩))) W0 ([(b,.mapIter (some r) c #[] c)]::H)):GL false P ops i Q n E W0 H:=by
  refine Y4 (R:=fun v H1=>∃ b,v=.pointer (some ⟨b,0,none⟩)∧H1=[(b,.mapIter (some r) c #[] c)]::H) ho hch hd hsure (fun rr hr w hs=>?_) (by rintro v H1 ⟨b,rfl,rfl⟩; exact kk b)
  refine ⟨_,w.alloc (.mapIter (some r) c #[] c),_,⟨w.heap.size,rfl,rfl⟩,hs.new rfl rfl rfl rfl,.inl ?_⟩
  unfold execOp
  simp only [hop]
  rw [hr _ _ hx]
  simp only [Instr.range,Sem.run_bind,run_underlying hu,Result.andThen_ok,M8 (hs.at hA),Sem.run_pure,run_newObj]
  rfl
def Q7 (dn:SM):Array Nat:=(dn.map (·.2.2)).toArray
theorem run_getObj_iter {P:Program} {w:World} {r:Nat} {o:Obj} (h:w.heap[r]? = some o) (hc:(match o with | .cells ..=>false | _=>true)=true):(getObj r).run P w=.ok o w:=by
  cases o <;> simp at hc <;> simp [getObj,Sem.run,h]
theorem GL_next {P:Program} {ops:Array Oper} {i:Nat} {Q:G3} {n:Fr} {E:Env} {W0:World} {H:List Grp} {o:Oper} {ch:List (Nat × Bool)} {x:Operand} {it r c j q:Nat} {m dn rest:SM} {g:Grp}
    (ho:ops[i]? = some o) (hop:o.op=.next x false) (hx:evO E ch x=some (.pointer (some ⟨it,0,none⟩)))
    (hch:F3 ops E o.guard=some ch) (hd:H7 n ch o.dst=true) (hsure:P4 E ch=true)
    (hj:H[j]? = some g) (hi:g[q]? = some (it,.mapIter (some r) c (Q7 dn) c)) (hA:At W0 H r (.map (B2 m) c)) (hok:MapOk m c) (hp:(dn++rest).Perm m)
    (kEnd:rest=[]→GL false P ops (i+1) Q n (Env.put E o.dst ch (.tuple #[.bool false])) W0 H)
    (kMore:∀ e rest',rest.Perm (e::rest')→(dn++[e]++rest').Perm m→GL false P ops (i+1) Q n (Env.put E o.dst ch (.tuple #[.bool true,.string e.1,e.2.1])) W0 (H.set j (g.set q (it,.mapIter (some r) c (Q7 (dn++[e])) c)))) :
    GL false P ops i Q n E W0 H:=by
  refine Y4 (R:=fun v H1=>(rest=[]∧v=.tuple #[.bool false]∧H1=H)∨∃ e rest',rest.Perm (e::rest')∧(dn++[e]++rest').Perm m∧v=.tuple #[.bool true,.string e.1,e.2.1]∧H1=H.set j (g.set q (it,.mapIter (some r) c (Q7 (dn++[e])) c)))
    ho hch hd hsure (fun rr hr w hs=>?_) (by
      rintro v H1 (⟨h1,rfl,rfl⟩ | ⟨e,rest',h1,h2,rfl,rfl⟩)
      · exact kEnd h1
      · exact kMore e rest' h1 h2)
  have hblk:=hs.has _ (List.mem_flatten.2 ⟨g,List.mem_of_getElem? hj,List.mem_of_getElem? hi⟩)
  have hmap:=hs.at hA
  -- the entries that are left
  have hborn:((dn++rest).map (·.2.2)).Nodup:=((hp.map _).nodup_iff).2 hok.born
  have hmem:∀ e,e∈m ↔ e∈dn∨e∈rest:=fun e=>by rw [← hp.mem_iff]; simp
  have hseen:∀ e,e∈m→((Q7 dn).contains e.2.2=true ↔ e∈dn):=by
    intro e he
    simp only [Q7,List.contains_toArray,List.contains_iff_mem,List.mem_map]
    constructor
    · rintro ⟨e',he',hb⟩
      have he'm:e'∈m:=(hmem e').2 (.inl he')
      -- stamps tell entries apart
      have:e'=e:=by
        have hnd:=hok.born
        have:∀ (l:SM),(l.map (·.2.2)).Nodup→∀ a b,a∈l→b∈l→a.2.2=b.2.2→a=b:=by
          intro l
          induction l with
          | nil=>intro _ a b ha; simp at ha
          | cons y l ih =>
            intro hn a b ha hb' hab
            simp only [List.map_cons,List.nodup_cons] at hn
            rcases List.mem_cons.1 ha with rfl | ha2 <;> rcases List.mem_cons.1 hb' with rfl | hb2
            · rfl
            · exact absurd (List.mem_map.2 ⟨b,hb2,hab.symm⟩) hn.1
            · exact absurd (List.mem_map.2 ⟨a,ha2,hab⟩:b.2.2∈l.map (·.2.2)) hn.1
            · exact ih hn.2 a b ha2 hb2 hab
        exact this m hnd e' e he'm he hb
      exact this ▸ he'
    · intro h; exact ⟨e,h,rfl⟩
  have hdisj:∀ e,e∈rest→e ∉ dn:=by
    intro e he hd'
    rw [List.map_append,List.nodup_append] at hborn
    exact hborn.2.2 _ (List.mem_map.2 ⟨e,hd',rfl⟩) _ (List.mem_map.2 ⟨e,he,rfl⟩) rfl
  let left:SM:=m.filter fun e=>!(Q7 dn).contains e.2.2
  have hleft:(B2 m).filter (fun e=>!(Q7 dn).contains e.born)=B2 left:=by
    apply Array.ext'
    simp only [B2,Array.toList_filter,List.toList_toArray,left,List.filter_map]
    rfl
  have hleftmem:∀ e,e∈left ↔ e∈rest:=by
    intro e
    simp only [left,List.mem_filter,Bool.not_eq_true',← Bool.not_eq_true]
    constructor
    · rintro ⟨h1,h2⟩
      rw [hseen e h1] at h2
      exact ((hmem e).1 h1).resolve_left h2
    · intro h
      have hm':=(hmem e).2 (.inr h)
      exact ⟨hm',by rw [hseen e hm']; exact hdisj e h⟩
  have hold:(B2 left).filter (fun e=>decide (e.born<c))=B2 left:=by
    apply Array.filter_eq_self.2
    intro a ha
    simp only [B2,List.mem_toArray,List.mem_map] at ha
    obtain ⟨e,he,rfl⟩:=ha
    have:=hok.lt e (by have:=(List.mem_filter.1 he).1; exact this)
    exact decide_eq_true this
  have hnew:(B2 left).filter (fun e=>decide (e.born ≥ c))=#[]:=by
    apply Array.filter_eq_empty_iff.2
    intro a ha
    simp only [B2,List.mem_toArray,List.mem_map] at ha
    obtain ⟨e,he,rfl⟩:=ha
    have:=hok.lt e (by have:=(List.mem_filter.1 he).1; exact this)
    simp [entM]; exact this
  have hgone:(!(Q7 dn).isEmpty&&!(B2 m).isEmpty&&(B2 m).all (fun e=>decide (e.born ≥ c)))=false:=by
    cases hm:m with
    | nil=>simp [B2]
    | cons e m' =>
      have:=hok.lt e (by rw [hm]; exact List.mem_cons_self)
      have h2:(B2 (e::m')).all (fun e=>decide (e.born ≥ c))=false:=by
        simp only [B2,List.map_cons,List.all_toArray,List.all_cons]
        have:decide ((entM e).born ≥ c)=false:=by simp [entM]; exact this
        simp [this]
      rw [h2]; simp
  have hexec:(execOp rr o).run P w=((Instr.next (.pointer (some ⟨it,0,none⟩)) false o.type).run P w).andThen fun v w'=>.ok (.value v) w':=by
    unfold execOp
    simp only [hop]
    rw [hr _ _ hx]
    simp only [Sem.run_bind,Sem.run_pure]
  have hit:=run_getObj_iter (P:=P) hblk rfl
  have hstep:(Instr.next (.pointer (some ⟨it,0,none⟩)) false o.type).run P w =
      ((choose (.mapNext ((if (B2 left).isEmpty then #[none] else #[])++(B2 left).map some).size)).run P w).andThen fun a w1 =>
        ((match ((if (B2 left).isEmpty then #[none] else #[])++(B2 left).map some)[a]? with
          | some (some e)=>do
            setObj it (.mapIter (some r) c ((Q7 dn).push e.born) c)
            pure (.tuple #[.bool true,e.key,e.val])
          | some none=>pure (.tuple #[.bool false])
          | none => stuck "Next: no such candidate" : Sem Value)).run P w1 := by
    simp only [Instr.next,Sem.run_bind,hit,Result.andThen_ok,M8 hmap,hgone,Bool.false_eq_true,if_false,hleft,hold,hnew,Array.append_empty]
    rfl
  by_cases hre:rest=[]
  · have hl:left=[]:=by
      cases hL:left with
      | nil=>rfl
      | cons e l=>have:=(hleftmem e).1 (by rw [hL]; exact List.mem_cons_self); rw [hre] at this; simp at this
    refine ⟨.tuple #[.bool false],w,H,.inl ⟨hre,rfl,rfl⟩,hs,.inl ?_⟩
    rw [hexec,hstep,hl]
    simp [B2,run_choose,Question.forced]
  · have hne:left≠[]:=by
      intro h
      cases hr':rest with
      | nil=>exact hre hr'
      | cons e l=>have:=(hleftmem e).2 (by rw [hr']; exact List.mem_cons_self); rw [h] at this; simp at this
    have hne':(B2 left).isEmpty=false:=by
      cases hL:left with
      | nil=>exact absurd hL hne
      | cons e l=>simp [B2]
    have hsz:0<left.length:=by cases hL:left with | nil=>exact absurd hL hne | cons _ _=>simp
    have hch':∃ a w1,(choose (.mapNext ((#[]:Array (Option MapEntry))++(B2 left).map some).size)).run P w=.ok a w1∧a<left.length∧(w1=w∨w1={ w with drawn:=w.drawn+1 }):=by
      have e1:((#[]:Array (Option MapEntry))++(B2 left).map some).size=left.length:=by simp [B2]
      rw [e1,run_choose]
      split
      · exact ⟨0,w,rfl,hsz,.inl rfl⟩
      · exact ⟨_,_,rfl,by simp only [Question.cut]; exact Nat.mod_lt _ hsz,.inr rfl⟩
    obtain ⟨a,w1,hc1,ha,hw1⟩:=hch'
    have hs1:Sat W0 H w1:=by rcases hw1 with rfl | rfl; exact hs; exact hs.drew
    have hblk1:=hs1.has _ (List.mem_flatten.2 ⟨g,List.mem_of_getElem? hj,List.mem_of_getElem? hi⟩)
    have hel:((#[]:Array (Option MapEntry))++(B2 left).map some)[a]? = some (some (entM left[a])):=by
      simp [B2,ha]
    have hin:left[a]∈rest:=(hleftmem _).1 (List.getElem_mem ha)
    obtain ⟨s1,s2,hsplit⟩:=List.append_of_mem hin
    have hperm1:rest.Perm (left[a]::(s1++s2)):=by rw [hsplit]; exact List.perm_middle
    have hperm2:(dn++[left[a]]++(s1++s2)).Perm m:=by
      refine List.Perm.trans ?_ hp
      rw [List.append_assoc]
      exact (List.Perm.append_left dn hperm1).symm
    obtain ⟨w',hr',hw'⟩:=Wr_setObj (P:=P) hblk1 (o':=.mapIter (some r) c (Q7 (dn++[left[a]])) c) rfl
    refine ⟨.tuple #[.bool true,.string left[a].1,left[a].2.1],w',_,.inr ⟨left[a],s1++s2,hperm1,hperm2,rfl,rfl⟩,hs1.wr hj hi hw',.inl ?_⟩
    have hpush:(Q7 dn).push (entM left[a]).born=Q7 (dn++[left[a]]):=by simp [Q7,entM]
    rw [hexec,hstep,hne']
    simp only [Bool.false_eq_true,if_false,hc1,Result.andThen_ok,hel,Sem.run_bind,hpush,hr',Sem.run_pure]
    rfl
end Go.Sw
namespace Go.Sw
open Go.RowKit
theorem born_find {m:SM} {c:Nat} (hok:MapOk m c) {e:ByteArray × Value × Nat} (he:e∈m):(B2 m).find? (fun x=>x.born==e.2.2)=some (entM e):=by
  have key:∀ l:SM,(l.map (·.2.2)).Nodup→e∈l→(l.map entM).find? (fun x=>x.born==e.2.2)=some (entM e):=by
    intro l
    induction l with
    | nil=>intro _ h; cases h
    | cons x l ih =>
      intro hn h
      simp only [List.map_cons,List.nodup_cons] at hn
      rw [List.map_cons,List.find?_cons]
      rcases List.mem_cons.1 h with rfl | h
      · simp [entM]
      · have hx:((entM x).born==e.2.2)=false:=by
          rw [beq_eq_false_iff_ne]
          intro h'
          exact hn.1 (List.mem_map.2 ⟨e,h,h'.symm⟩)
        rw [hx]
        exact ih hn.2 h
  have:=key m hok.born he
  rw [B2,List.find?_toArray]
  exact this
theorem GL_entry {d:Bool} {P:Program} {ops:Array Oper} {i:Nat} {Q:G3} {n:Fr} {E:Env} {W0:World} {H:List Grp} {o:Oper} {ch:List (Nat × Bool)} {x:Operand} {it r c:Nat} {m dn:SM} {e:ByteArray × Value × Nat}
    (ho:ops[i]? = some o:=by exact rfl) (hop:o.op=.entry x:=by exact rfl) (hx:evO E ch x=some (.pointer (some ⟨it,0,none⟩)):=by kernel_rfl)
    (hch:F3 ops E o.guard=some ch:=by kernel_rfl) (hd:H7 n ch o.dst=true:=by kernel_rfl) (hk:K3 E ch=true:=by kernel_rfl)
    (hI:At W0 H it (.mapIter (some r) c (Q7 (dn++[e])) c)) (hA:At W0 H r (.map (B2 m) c)) (hok:MapOk m c) (he:e∈m)
    (kk:GL d P ops (i+1) Q n (Env.put E o.dst ch (.tuple #[.string e.1,e.2.1])) W0 H):GL d P ops i Q n E W0 H:=by
  refine J2 ho hch hd hk (fun rr hr _ w hs=>?_) kk
  have hit:=run_getObj_iter (P:=P) (hs.at hI) rfl
  have hb:(Q7 (dn++[e])).back? = some e.2.2:=by
    unfold Q7
    rw [List.map_append,List.map_cons,List.map_nil]
    simp
  unfold execOp
  simp only [hop]
  rw [hr _ _ hx]
  simp only [Instr.entry,Sem.run_bind,hit,Result.andThen_ok,hb,M8 (hs.at hA),bne_self_eq_false,Bool.false_eq_true,if_false,born_find hok he,Sem.run_pure]
  exact ⟨rfl,rfl⟩
def stS (s:SM × Nat) (e:ByteArray × Value × Nat):SM × Nat :=
  match e.2.1 with
  | .pointer none=>(mdel s.1 e.1,s.2)
  | v=>(I3 s.1 s.2 e.1 v,if J7 s.1 e.1 then s.2 else s.2+1)
def F9 (s:SM × Nat) (l:SM):SM × Nat:=l.foldl stS s
theorem foldS_snoc (s:SM × Nat) (l:SM) (e:ByteArray × Value × Nat):F9 s (l++[e])=stS (F9 s l) e:=by
  unfold F9; rw [List.foldl_append]; rfl
theorem mhas_false {m:SM} {k:ByteArray}:J7 m k=false ↔ ∀ e∈m,(k==e.1)=false:=by
  unfold J7; rw [List.any_eq_false]
  constructor
  · intro h e he; simpa using h e he
  · intro h e he; simpa using h e he
theorem mput_new {m:SM} {k:ByteArray} (c:Nat) (v:Value) (h:J7 m k=false):I3 m c k v=m++[(k,v,c)]:=by
  induction m with
  | nil=>rfl
  | cons e m ih =>
    rw [mhas_false] at h
    have h0:=h e List.mem_cons_self
    rw [I3,h0]
    simp only [Bool.false_eq_true,if_false]
    rw [ih (mhas_false.2 (fun x hx=>h x (List.mem_cons_of_mem _ hx)))]
    rfl
theorem mput_keys (m:SM) (c:Nat) (k:ByteArray) (v:Value) (h:J7 m k=true):(I3 m c k v).map (fun e=>(e.2.2))=m.map (fun e=>(e.2.2))∧(I3 m c k v).map Prod.fst=m.map Prod.fst:=by
  induction m with
  | nil=>cases h
  | cons e m ih =>
    rw [I3]
    cases hk:k==e.1
    · simp only [Bool.false_eq_true,if_false,List.map_cons]
      unfold J7 at h
      rw [List.any_cons,hk,Bool.false_or] at h
      obtain ⟨h1,h2⟩:=ih h
      exact ⟨by rw [h1],by rw [h2]⟩
    · simp only [if_true,List.map_cons,true_and]
      rw [baEq] at hk; rw [hk]
theorem mdel_sub (m:SM) (k:ByteArray):(mdel m k).Sublist m:=by
  induction m with
  | nil=>exact List.Sublist.refl _
  | cons e m ih =>
    rw [mdel]
    split
    · exact List.sublist_cons_self e m
    · exact ih.cons_cons e
theorem MapOk.del {m:SM} {c:Nat} (h:MapOk m c) (k:ByteArray):MapOk (mdel m k) c :=
  ⟨h.keys.sublist (mdel_sub m k),h.born.sublist ((mdel_sub m k).map _),fun e he=>h.lt e ((mdel_sub m k).subset he)⟩
theorem pw_keys {m:SM}:(m.Pairwise fun x y=>(x.1==y.1)=false) ↔ (m.map Prod.fst).Nodup:=by
  rw [List.nodup_iff_pairwise_ne,List.pairwise_map]
  constructor
  · intro h; exact h.imp (fun h=>baNe.1 h)
  · intro h; exact h.imp (fun h=>baNe.2 h)
theorem MapOk.put {m:SM} {c:Nat} (h:MapOk m c) (k:ByteArray) (v:Value):MapOk (I3 m c k v) (if J7 m k then c else c+1):=by
  cases hm:J7 m k with
  | true =>
    obtain ⟨h1,h2⟩:=mput_keys m c k v hm
    refine ⟨pw_keys.2 (by rw [h2]; exact pw_keys.1 h.keys),by rw [h1]; exact h.born,fun e he=>?_⟩
    have:e.2.2∈(I3 m c k v).map (fun e=>e.2.2):=List.mem_map.2 ⟨e,he,rfl⟩
    rw [h1] at this
    obtain ⟨x,hx,hx2⟩:=List.mem_map.1 this
    have:=h.lt x hx
    simp only [if_true]; omega
  | false =>
    rw [mput_new c v hm]
    simp only [Bool.false_eq_true,if_false]
    rw [mhas_false] at hm
    refine ⟨?_,?_,?_⟩
    · rw [List.pairwise_append]
      refine ⟨h.keys,by simp,fun x hx y hy=>?_⟩
      rw [List.mem_singleton.1 hy]
      have:=hm x hx
      rw [baNe] at this ⊢
      exact fun e=>this e.symm
    · rw [List.map_append,List.nodup_append]
      refine ⟨h.born,by simp,?_⟩
      intro a ha b hb
      obtain ⟨x,hx,rfl⟩:=List.mem_map.1 ha
      simp only [List.map_cons,List.map_nil,List.mem_singleton] at hb
      have:=h.lt x hx
      omega
    · intro e he
      rcases List.mem_append.1 he with he | he
      · have:=h.lt e he; omega
      · rw [List.mem_singleton.1 he]; simp
theorem MapOk.st {s:SM × Nat} (h:MapOk s.1 s.2) (e:ByteArray × Value × Nat):MapOk (stS s e).1 (stS s e).2:=by
  unfold stS
  split
  · exact h.del _
  · exact h.put _ _
theorem MapOk.fold {s:SM × Nat} (h:MapOk s.1 s.2) (l:SM):MapOk (F9 s l).1 (F9 s l).2:=by
  induction l generalizing s with
  | nil=>exact h
  | cons e l ih=>exact ih (h.st e)
theorem GL_rem {d:Bool} {P:Program} {ops:Array Oper} {i:Nat} {Q:G3} {n:Fr} {E:Env} {W0:World} {H:List Grp} {o:Oper} {ch:List (Nat × Bool)} {t t':TypeId} {x y:Operand} {kd:IntKind} {a b:Int}
    (ho:ops[i]? = some o:=by exact rfl) (hop:o.op=.binOp .rem t x y t':=by exact rfl) (hx:evO E ch x=some (.int kd a):=by kernel_rfl) (hy:evO E ch y=some (.int kd b):=by kernel_rfl)
    (hch:F3 ops E o.guard=some ch:=by kernel_rfl) (hd:H7 n ch o.dst=true:=by kernel_rfl) (hk:K3 E ch=true:=by kernel_rfl) (hb:chB E ch→b≠0)
    (k:GL d P ops (i+1) Q n (Env.put E o.dst ch (.int kd (Int.tmod a b))) W0 H):GL d P ops i Q n E W0 H:=by
  refine J2 ho hch hd hk (fun r hr hcb w _=>?_) k
  have h0:=hb hcb
  have:=pev_sound (P:=P) (ρ:=evO E ch) hr (o:=o) (v:=.int kd (Int.tmod a b)) (by rw [hop]; simp [pev,hx,hy,binV,h0]) w
  rw [this]
  exact ⟨rfl,rfl⟩
end Go.Sw
namespace Go.Sw
theorem GL_extern {d:Bool} {P:Program} {ops:Array Oper} {i:Nat} {Q:G3} {n:Fr} {E:Env} {W0:World} {H:List Grp} {o:Oper} {ch:List (Nat × Bool)} {c:Call} {fo:Operand} {f:FuncId} {vs:List Value}
    {fn:Func} {v:Value} {e:Array Value→Sem Value}
    (ho:ops[i]? = some o) (hop:o.op=.call c) (hce:c.callee=.value fo) (hfo:evO E ch fo=some (.func (.func f) #[] #[])) (hargs:evL (evO E ch) c.args.toList=some vs)
    (hf : P.funcs[f]? = some fn) (hrt : (fn.name == "runtime.NumGoroutine") = false) (hbody : fn.body.isNone = true) (hn : Extern.findNext fn = none) (he : Extern.find fn = some e)
    (hch:F3 ops E o.guard=some ch) (hd:H7 n ch o.dst=true) (hk:K3 E ch=true)
    (hrun:∀ w,(e vs.toArray).run P w=.ok v w)
    (k:GL d P ops (i+1) Q n (Env.put E o.dst ch v) W0 H):GL d P ops i Q n E W0 H:=by
  refine J2 ho hch hd hk (fun r hr hcb w hs=>?_) k
  have hrun':(execOp r o).run P w=.ok (.value v) w:=by
    unfold execOp
    simp only [hop]
    simp only [resolve,hce]
    rw [hr _ _ hfo,O6 hr hargs]
    simp only [Deferred.ofValue,Sem.run_bind,Sem.run_pure,Result.andThen_ok,invoke]
    have:=run_callFunc_extern hf hrt hbody hn he vs.toArray w
    simp only [Array.empty_append,Array.append_empty,this,hrun,Result.andThen_ok]
  rw [hrun']
  exact ⟨rfl,rfl⟩
def noB (s:ByteArray) (c:Int) (k:Nat):Prop:=∀ j:Nat,j<k→F5 s j≠c
theorem noB_zero {s:ByteArray} {c:Int}:noB s c 0:=fun j h=>absurd h (Nat.not_lt_zero j)
theorem noB_succ {s:ByteArray} {c:Int} {k:Nat} (h:noB s c k) (hk:F5 s k≠c):noB s c (k+1):=fun j hj=>by
  rcases Nat.lt_or_ge j k with h' | h'
  · exact h j h'
  · have:j=k:=by omega
    subst this; exact hk
theorem byteAt_get {s:ByteArray} {k:Nat} (h:k<s.size):F5 s k=((s[k]!).toNat:Int):=by
  unfold F5
  have e1:s[k]! = s[k]:=getElem!_pos s k h
  have e2:(s.data.toList)[((k:Nat):Int).toNat]? = some s[k]:=by
    rw [Int.toNat_natCast,List.getElem?_eq_getElem (by simpa using h)]; rfl
  rw [e1,e2]; rfl
def bIdx (s:ByteArray) (c:Int):Int:=firstIdx s c.toNat.toUInt8
theorem V1 (s:ByteArray) {c:Int} (h0:0≤c) (h1:c<256) :
    (∃ k:Nat,k<s.size∧bIdx s c=k∧F5 s k=c∧noB s c k)∨(bIdx s c=-1∧noB s c s.size):=by
  have hc:∀ b:UInt8,(b==c.toNat.toUInt8)=true ↔ ((b.toNat:Nat):Int)=c:=by
    intro b
    rw [beq_iff_eq]
    constructor
    · intro h; rw [h]; simp [Nat.toUInt8]; omega
    · intro h; apply UInt8.toNat_inj.1; simp [Nat.toUInt8]; omega
  unfold bIdx firstIdx
  cases hf:(List.range s.size).find? fun i=>s[i]! == c.toNat.toUInt8 with
  | none =>
    right
    refine ⟨rfl,fun j hj he=>?_⟩
    have:=List.find?_eq_none.1 hf j (List.mem_range.2 hj)
    rw [hc,← byteAt_get hj] at this
    exact this he
  | some k =>
    left
    have hk:=List.mem_range.1 (List.mem_of_find?_eq_some hf)
    refine ⟨k,hk,rfl,?_,fun j hj he=>?_⟩
    · have:=List.find?_some hf
      rw [byteAt_get hk]; exact (hc _).1 this
    · rw [List.find?_range_eq_some] at hf
      have:=hf.2.2 j hj
      rw [byteAt_get (by omega)] at he
      have h2:=(hc s[j]!).2 he
      simp [h2] at this
theorem bIdx_eq {s:ByteArray} {c:Int} {k:Nat} (h0:0≤c) (h1:c<256) (hk:k<s.size) (hb:F5 s k=c) (hn:noB s c k):bIdx s c=k:=by
  rcases V1 s h0 h1 with ⟨j,hj,he,hb',hn'⟩ | ⟨_,hn'⟩
  · rcases Nat.lt_trichotomy j k with h | h | h
    · exact absurd hb' (hn j h)
    · rw [he,h]
    · exact absurd hb (hn' k h)
  · exact absurd hb (hn' k hk)
theorem bIdx_none {s:ByteArray} {c:Int} (h0:0≤c) (h1:c<256) (hn:noB s c s.size):bIdx s c=-1:=by
  rcases V1 s h0 h1 with ⟨j,hj,he,hb',hn'⟩ | ⟨h,_⟩
  · exact absurd hb' (hn j hj)
  · exact h
theorem size_extract (s:ByteArray) (a b:Nat):(s.extract a b).size=min b s.size - a:=by simp
end Go.Sw
namespace Go.Proofs.YtlaoeiaaeifidaaGreat
open Go.Sw Go.Lib
def pbyte (c:Int):Bool:=(97≤c&&c≤122)||(65≤c&&c≤90)||(48≤c&&c≤57)||c==45||c==95||c==46
def pall (s:ByteArray) (k:Nat):Prop:=∀ j:Nat,j<k→pbyte (F5 s j)=true
def pallB (s:ByteArray):Bool:=(List.range s.size).all fun j=>pbyte (F5 s j)
def H0 (s:ByteArray):Bool:=pallB s&&!(s.toList==(ByteArray.mk #[]).toList)&&decide ((s.size:Int)≤80)&&!(s.toList==(ByteArray.mk #[46]).toList)&&!(s.toList==(ByteArray.mk #[46,46]).toList)
theorem pall_zero {s:ByteArray}:pall s 0:=fun j h=>absurd h (Nat.not_lt_zero j)
theorem pall_succ {s:ByteArray} {k:Nat} (h:pall s k) (hk:pbyte (F5 s k)=true):pall s (k+1):=fun j hj=>by
  rcases Nat.lt_or_ge j k with h' | h'
  · exact h j h'
  · have:j=k:=by omega
    subst this; exact hk
theorem pallB_true {s:ByteArray} {k:Nat} (h:pall s k) (hk:s.size≤k):pallB s=true:=by
  unfold pallB
  rw [List.all_eq_true]
  intro j hj
  exact h j (by have:=List.mem_range.1 hj; omega)
theorem pallB_false {s:ByteArray} {k:Nat} (hk:k<s.size) (hb:pbyte (F5 s k)=false):pallB s=false:=by
  unfold pallB
  rw [← Bool.not_eq_true,List.all_eq_true]
  intro h
  rw [h k (List.mem_range.2 hk)] at hb
  simp at hb
def G5 (s:ByteArray):Int:=bIdx s 47
def A3 (s:ByteArray):Bool:=if G5 s<0 then H0 s else H0 (s.extract 0 (G5 s).toNat)&&H0 (s.extract ((G5 s).toNat+1) s.size)
theorem Q2 {s:ByteArray} (h:¬ G5 s<0):(G5 s).toNat<s.size∧(s.extract 0 (G5 s).toNat).size=(G5 s).toNat∧(s.extract ((G5 s).toNat+1) s.size).size+((G5 s).toNat+1)=s.size:=by
  rcases V1 s (c:=47) (by omega) (by omega) with ⟨k,hk,he,_,_⟩ | ⟨he,_⟩
  · have:G5 s=k:=he
    rw [this]
    simp only [ByteArray.size_extract,Int.toNat_natCast]
    omega
  · exact absurd (show G5 s<0 by rw [G5,he]; omega) h
theorem three_idx {c:Int} (h0:0≤c) (h1:c<256):decide (bIdx (ByteArray.mk #[45,95,46]) c ≥ 0)=(c==45||c==95||c==46):=by
  rcases V1 (ByteArray.mk #[45,95,46]) h0 h1 with ⟨k,hk,he,hb,_⟩ | ⟨he,hn⟩
  · rw [he]
    have hk3:k<3:=hk
    have:k=0∨k=1∨k=2:=by omega
    rcases this with rfl | rfl | rfl
    · have:c=45:=hb.symm
      subst this; rfl
    · have:c=95:=hb.symm
      subst this; rfl
    · have:c=46:=hb.symm
      subst this; rfl
  · rw [he]
    have h45:¬ c=45:=fun h=>hn 0 (by decide) h.symm
    have h95:¬ c=95:=fun h=>hn 1 (by decide) h.symm
    have h46:¬ c=46:=fun h=>hn 2 (by decide) h.symm
    simp [h45,h95,h46]
theorem len_toList (s:ByteArray):s.toList.length=s.size:=by rw [toList_data,Array.length_toList]; rfl
theorem nil_toList {s:ByteArray}:s.toList=[] ↔ s.size=0:=by rw [← len_toList,List.length_eq_zero_iff]
theorem part_no {s:ByteArray} (h:((((decide ((s.size:Int)<1))||(decide ((s.size:Int) > 80)))||(s.toList==(ByteArray.mk #[46]).toList))||(s.toList==(ByteArray.mk #[46,46]).toList))=true):H0 s=false:=by
  have e:=nil_toList (s:=s)
  simp only [H0,Bool.or_eq_true,decide_eq_true_eq,beq_iff_eq] at h ⊢
  rcases h with ((h | h) | h) | h
  · have:s.toList=[]:=e.2 (by omega)
    simp [this]
  · have:¬ (s.size:Int)≤80:=by omega
    simp [this]
  · simp [h]
  · simp [h]
theorem part_yes {s:ByteArray} (h:((((decide ((s.size:Int)<1))||(decide ((s.size:Int) > 80)))||(s.toList==(ByteArray.mk #[46]).toList))||(s.toList==(ByteArray.mk #[46,46]).toList))=false):H0 s=pallB s:=by
  have e:=nil_toList (s:=s)
  simp only [Bool.or_eq_false_iff,decide_eq_false_iff_not] at h
  obtain ⟨⟨⟨h1,h2⟩,h3⟩,h4⟩:=h
  have h5:(s.toList==(ByteArray.mk #[]).toList)=false:=by
    rw [beq_eq_false_iff_ne]; intro h; have:=e.1 (by simpa using h); omega
  have h6:decide ((s.size:Int)≤80)=true:=by simp; omega
  simp only [H0,h3,h4,h5,h6,Bool.not_false,Bool.and_true]
theorem slash_or (s:ByteArray):G5 s<0∨(G5 s).toNat<s.size:=by
  rcases Int.lt_or_le (G5 s) 0 with h | h
  · exact .inl h
  · exact .inr (Q2 (by omega)).1
theorem slash_one {s:ByteArray} (h:(ByteArray.mk #[47]).toList=s.toList):G5 s=0:=by
  have:s=ByteArray.mk #[47]:=by
    rw [toList_data,toList_data] at h
    cases s with | mk d=>cases d with | mk l=>simp at h; rw [← h]
  rw [this]; rfl
def D2 (s:ByteArray):ByteArray:=if G5 s<0 then ByteArray.mk #[] else s.extract 0 (G5 s).toNat
theorem Y7 (s:ByteArray) (c:Int) (W0:World) (H:List Grp):Tri Tryz.prog 117 #[.string s,.int .u8 c] W0 H (fun v H'=>v=.int .i64 (bIdx s c)∧H'=H):=by
 refine C8 (args:=[.string s,.int .u8 c]) (n:=8) Tryz.func117 rfl rfl (Nat.le_of_ble_eq_true rfl) ?_
 refine A1 (G_p [0] [0,1] (k:=?_))
 refine A0 (A1 ?_)
 refine A2 (A7 (j:=2) [0,0] (k:=?_))
 refine GL_extern (i:=2) (ch:=[]) (f:=135) (vs:=[.string s,.int .u8 c]) (v:=.int .i64 (bIdx s c)) (e:=Extern.BytealgIndexByte.indexByte) rfl rfl rfl kr kr Tryz.func135 kr rfl kr kr kr kr kr (fun w=>run_indexByte_string s c w) (D3 (E':=[⟨4,[],.int .i64 (bIdx s c)⟩]) [0] [4] (k:=?_))
 refine A0 (C3 ?_)
 refine C1 [.tmp 4] [.int .i64 (bIdx s c)] (k:=?_)
 exact ⟨rfl,rfl⟩
theorem stringsIndexByte (s:ByteArray) (c:Int) (W0:World) (H:List Grp):Tri Tryz.prog 98 #[.string s,.int .u8 c] W0 H (fun v H'=>v=.int .i64 (bIdx s c)∧H'=H):=by
 refine C8 (args:=[.string s,.int .u8 c]) (n:=8) Tryz.func98 rfl rfl (Nat.le_of_ble_eq_true rfl) ?_
 refine A1 (G_p [0] [0,1] (k:=?_))
 refine A0 (A1 ?_)
 refine A2 (A7 (j:=2) [0,0] (k:=?_))
 refine F6 (vs:=[.string s,.int .u8 c]) Tryz.func117 (Y7 _ _ _ _) (D3 (E':=[⟨4,[],.int .i64 (bIdx s c)⟩]) [0] [4] (k:=?_))
 refine A0 (C3 ?_)
 refine C1 [.tmp 4] [.int .i64 (bIdx s c)] (k:=?_)
 exact ⟨rfl,rfl⟩
theorem refPart (s:ByteArray) (hs:s.size≤9223372036854775807) (W0:World) (H:List Grp):Tri Tryz.prog 11 #[.string s] W0 H (fun v H'=>v=.bool (H0 s)∧H'=H):=by
 refine C8 (args:=[.string s]) (n:=64) Tryz.func11 rfl rfl (Nat.le_of_ble_eq_true rfl) ?_
 refine A1 (B4 (E':=[⟨0,[],.string s⟩]) [0] [0] (k:=?_))
 refine A0 (A1 ?_)
 refine A1 (G_p [0] [0,3] (k:=?_))
 refine A0 (C5 ?_)
 refine I8 (EI:=(fun ξ:Nat=>[⟨0,[],.string s⟩,⟨3,[],.int .i64 ((ξ:Nat):Int)⟩])) (HI:=(fun ξ:Nat=>H)) (Φ:=(fun ξ:Nat=>(ξ≤s.size)∧(pall s ξ))) (μ:=(fun ξ:Nat=>s.size - ξ)) (s0:=(0)) [0,3] kr rfl ⟨(by omega),pall_zero⟩ ?_
 rintro k ⟨hk,hp⟩
 refine A1 (A1 ?_)
 refine G_p [0,0,0,0] [0,3,8] (k:=A0 ?_)
 refine C6 (b:=decide (((k:Nat):Int)<(s.size:Int))) kr (fun hc1=>?_) (fun hc1=>?_)
 ·
  simp at hc1
  refine B5 (A0 ?_)
  refine A1 (C5 ?_)
  refine A1 (A2 ?_)
  refine A7 (j:=2) [0,0] (k:=W9 (ch:=[]) (s:=s) (kd:=.i64) (j:=((k:Nat):Int)) (hb:=(fun _=>by omega)) (k:=?_))
  have hb2:=R0 s ((k:Nat):Int)
  refine C4 [0] [0,3,4] (k:=A0 ?_)
  refine A1 (G_p [0,0,0,0,0,6,0,0,0,0,0,0,6,5,0,0,0,0,0,0,6,5,0,0,0,5,0,0,0,5,0,0,0,5,0] [0,3,48] (k:=?_))
  refine A0 (C6 (b:=!(((((((decide ((F5 s ((k:Nat):Int)) ≥ 97))&&(decide ((F5 s ((k:Nat):Int))≤122)))||((decide ((F5 s ((k:Nat):Int)) ≥ 65))&&(decide ((F5 s ((k:Nat):Int))≤90))))||((decide ((F5 s ((k:Nat):Int)) ≥ 48))&&(decide ((F5 s ((k:Nat):Int))≤57))))||((F5 s ((k:Nat):Int))==45))||((F5 s ((k:Nat):Int))==95))||((F5 s ((k:Nat):Int))==46))) kr (fun hc3=>?_) (fun hc3=>?_))
  ·
   have hpb:pbyte (F5 s k)=false:=by (simp only [pbyte]; revert hc3; simp; omega)
   refine A1 (B4 (E':=[⟨2,[],.bool false⟩]) [0] [2] (k:=?_))
   refine A0 (C3 ?_)
   refine F8 (B3 ?_)
   refine B3 (F8 ?_)
   refine B3 (C1 [.tmp 2] [.bool false] (k:=?_))
   exact ⟨by simp [Q3,H0,pallB_false hc1 hpb],rfl⟩
  ·
   have hpb:pbyte (F5 s k)=true:=by (simp only [pbyte]; revert hc3; simp; omega)
   refine B5 (D5 ?_)
   refine A0 (A2 ?_)
   refine A7 (j:=2) [0,0] (k:=F2 10 (((k:Nat):Int)+1) (by omega) (by omega) kr ?_)
   refine C4 [0] [0,3] (k:=E5 (s':=(k+1)) [0,3] kr rfl ⟨(by omega),(pall_succ hp hpb)⟩ (by omega))
 ·
  simp at hc1
  refine G6 (A8 ?_)
  refine A8 (C7 ?_)
  refine A0 (A1 ?_)
  refine G_p [0,0,0,0,0,0,6,0,0,0,6,0,0,0,6,0] [2] (k:=A0 ?_)
  refine C3 (C1 [.tmp 2] [.bool ((((!(s.toList==(ByteArray.mk #[]).toList))&&(decide ((s.size:Int)≤80)))&&(!(s.toList==(ByteArray.mk #[46]).toList)))&&(!(s.toList==(ByteArray.mk #[46,46]).toList)))] (k:=?_))
  exact ⟨by simp [Q3,H0,pallB_true hp hc1],rfl⟩
theorem refSplit (s:ByteArray) (hs:s.size≤9223372036854775807) (W0:World) (H:List Grp):Tri Tryz.prog 91 #[.string s] W0 H (fun v H'=>v=.tuple (if G5 s<0 then #[.string (ByteArray.mk #[]),.string s] else #[.string (s.extract 0 (G5 s).toNat),.string (s.extract ((G5 s).toNat+1) s.size)])∧H'=H):=by
 refine C8 (args:=[.string s]) (n:=23) Tryz.func91 rfl rfl (Nat.le_of_ble_eq_true rfl) ?_
 refine A1 (B4 (E':=[⟨0,[],.string s⟩]) [0,0] [0] (k:=?_))
 refine A0 (A1 ?_)
 refine A1 (G_p [0] [0,4] (k:=?_))
 refine A0 (C5 ?_)
 refine I8 (EI:=(fun ξ:Nat=>[⟨0,[],.string s⟩,⟨4,[],.int .i64 ((ξ:Nat):Int)⟩])) (HI:=(fun ξ:Nat=>H)) (Φ:=(fun ξ:Nat=>(ξ≤s.size)∧(noB s 47 ξ))) (μ:=(fun ξ:Nat=>s.size - ξ)) (s0:=(0)) [0,4] kr rfl ⟨(by omega),noB_zero⟩ ?_
 rintro k ⟨hk,hn⟩
 refine A1 (A1 ?_)
 refine G_p [0,0,0,0] [0,4,8] (k:=A0 ?_)
 refine C6 (b:=decide (((k:Nat):Int)<(s.size:Int))) kr (fun hc1=>?_) (fun hc1=>?_)
 ·
  simp at hc1
  refine B5 (A0 ?_)
  refine A1 (C5 ?_)
  refine A1 (A2 ?_)
  refine A7 (j:=2) [0,0] (k:=W9 (ch:=[]) (s:=s) (kd:=.i64) (j:=((k:Nat):Int)) (hb:=(fun _=>by omega)) (k:=?_))
  have hb2:=R0 s ((k:Nat):Int)
  refine C4 [0] [0,4,14] (k:=A0 ?_)
  refine C6 (b:=(F5 s ((k:Nat):Int))==47) kr (fun hc3=>?_) (fun hc3=>?_)
  ·
   simp at hc3
   refine A1 (K4 (k:=?_))
   refine A7 (j:=2) [0,0] (k:=L7 (ch:=[]) (s:=s) (vl:=none) (vh:=(some (.int .i64 ((k:Nat):Int)))) (l:=0) (h:=((k:Nat):Int)) (hb:=(fun _=>by omega)) (k:=?_))
   refine A7 (j:=6) [0,0,0] (k:=F2 20 (((k:Nat):Int)+1) (by omega) (by omega) kr ?_)
   refine L7 (ch:=[]) (s:=s) (vl:=(some (.int .i64 (((k:Nat):Int)+1)))) (vh:=none) (l:=((k:Nat):Int)+1) (h:=(s.size:Int)) (hb:=(fun _=>by omega)) (k:=C4 [0,0] [2,3] (k:=?_))
   refine A0 (C3 ?_)
   refine F8 (B3 ?_)
   refine B3 (F8 ?_)
   refine B3 (C1 [.tmp 2,.tmp 3] [.string (s.extract 0 k),.string (s.extract (Int.toNat (((k:Nat):Int)+1)) s.size)] (k:=?_))
   have e:=bIdx_eq (by omega) (by omega) hc1 hc3 hn
   refine ⟨?_,rfl⟩
   rw [if_neg (by rw [G5,e]; omega),G5,e]
   rfl
  ·
   simp at hc3
   refine B5 (D5 ?_)
   refine A0 (A2 ?_)
   refine A7 (j:=2) [0,0] (k:=F2 10 (((k:Nat):Int)+1) (by omega) (by omega) kr ?_)
   refine C4 [0] [0,4] (k:=E5 (s':=(k+1)) [0,4] kr rfl ⟨(by omega),(noB_succ hn hc3)⟩ (by omega))
 ·
  simp at hc1
  refine G6 (A8 ?_)
  refine A8 (C7 ?_)
  refine A0 (A1 ?_)
  refine G_p [0,0,0] [2,3] (k:=A0 ?_)
  refine C3 (C1 [.tmp 2,.tmp 3] [.string (ByteArray.mk #[]),.string s] (k:=?_))
  have e:=bIdx_none (by omega) (by omega) (fun j hj=>hn j (by omega))
  refine ⟨?_,rfl⟩
  rw [if_pos (by rw [G5,e]; omega)]
  rfl
theorem refDir (p:ByteArray) (hp:p.size≤9223372036854775807) (W0:World) (H:List Grp):Tri Tryz.prog 90 #[.string p] W0 H (fun v H'=>v=.string (D2 p)∧H'=H):=by
 refine C8 (args:=[.string p]) (n:=11) Tryz.func90 rfl rfl (Nat.le_of_ble_eq_true rfl) ?_
 refine A1 (B4 (E':=[⟨0,[],.string p⟩]) [0] [0] (k:=?_))
 refine A0 (A1 ?_)
 refine A2 (A7 (j:=1) [0] (k:=?_))
 refine N1 (ch:=[]) (f:=91) (fst:=#[]) (caps:=#[]) (vs:=[.string p]) (hf:=Tryz.func91) (hsure:=J0 kr) (hc:=refSplit _ hp _ _) (k:=?_)
 rintro v H' ⟨rfl,rfl⟩
 by_cases hs1:G5 p<0
 ·
  rw [if_pos hs1]
  refine D3 (E':=[⟨3,[],.string (ByteArray.mk #[])⟩]) [0,0,0,0,0] [3] (k:=A0 ?_)
  refine A1 (B4 (E':=[⟨2,[],.string (ByteArray.mk #[])⟩]) [0,0] [2] (k:=?_))
  refine A0 (C3 ?_)
  refine C1 [.tmp 2] [.string (ByteArray.mk #[])] (k:=?_)
  exact ⟨by simp [Q3,D2,hs1],rfl⟩
 ·
  rw [if_neg hs1]
  obtain ⟨hs1a,hs1b,hs1c⟩:=Q2 hs1
  refine C4 [0,0,0,0,0] [3] (k:=A0 ?_)
  refine A1 (G_p [0,0] [2] (k:=?_))
  refine A0 (C3 ?_)
  refine C1 [.tmp 2] [.string (p.extract 0 (G5 p).toNat)] (k:=?_)
  exact ⟨by simp [Q3,D2,hs1],rfl⟩
theorem refRight (p:ByteArray) (hp:p.size≤9223372036854775807) (W0:World) (H:List Grp):Tri Tryz.prog 66 #[.string p] W0 H (fun v H'=>v=.bool (A3 p)∧H'=H):=by
 refine C8 (args:=[.string p]) (n:=26) Tryz.func66 rfl rfl (Nat.le_of_ble_eq_true rfl) ?_
 refine A1 (B4 (E':=[⟨0,[],.string p⟩]) [0] [0] (k:=?_))
 refine A0 (A1 ?_)
 refine A2 (A7 (j:=1) [0] (k:=?_))
 refine N1 (ch:=[]) (f:=91) (fst:=#[]) (caps:=#[]) (vs:=[.string p]) (hf:=Tryz.func91) (hsure:=J0 kr) (hc:=refSplit _ hp _ _) (k:=?_)
 rintro v H' ⟨rfl,rfl⟩
 by_cases hs1:G5 p<0
 ·
  rw [if_pos hs1]
  refine C4 [0,0,0,0,0] [0,3,4] (k:=A0 ?_)
  refine A1 (A1 ?_)
  refine A2 (A7 (j:=5) [0,0,0,0,0] (k:=?_))
  refine F2 14 (0+(p.size:Int)) (by omega) (by omega) kr (C4 [0,0,0] [3,4,17] (k:=?_))
  refine A0 (C6 (b:=decide ((0+(p.size:Int))<(p.size:Int))) kr (fun hc3=>?_) (fun hc3=>?_))
  ·
   simp at hc3
  ·
   skip
   refine B5 (A0 ?_)
   refine A1 (A2 ?_)
   refine A7 (j:=1) [0] (k:=F6 (vs:=[.string p]) Tryz.func11 (refPart _ hp _ _) ?_)
   refine D3 (E':=[⟨2,[],.bool (H0 p)⟩]) [0] [2] (k:=A0 ?_)
   refine C3 (C1 [.tmp 2] [.bool (H0 p)] (k:=?_))
   exact ⟨by simp [Q3,A3,hs1],rfl⟩
 ·
  rw [if_neg hs1]
  obtain ⟨hs1a,hs1b,hs1c⟩:=Q2 hs1
  refine C4 [0,0,0,0,0] [0,3,4] (k:=A0 ?_)
  refine A1 (A1 ?_)
  refine A2 (A7 (j:=5) [0,0,0,0,0] (k:=?_))
  refine F2 14 (((p.extract 0 (G5 p).toNat).size:Int)+((p.extract ((G5 p).toNat+1) p.size).size:Int)) (by omega) (by omega) kr (C4 [0,0,0] [3,4,17] (k:=?_))
  refine A0 (C6 (b:=decide ((((p.extract 0 (G5 p).toNat).size:Int)+((p.extract ((G5 p).toNat+1) p.size).size:Int))<(p.size:Int))) kr (fun hc5=>?_) (fun hc5=>?_))
  ·
   skip
   refine A1 (A2 ?_)
   refine A7 (j:=1) [0] (k:=F6 (vs:=[.string (p.extract 0 (G5 p).toNat)]) Tryz.func11 (refPart _ (by simp only [ByteArray.size_extract]; omega) _ _) ?_)
   refine A7 (j:=4) [0,0] (k:=J9 (ch:=[(20,true)]) (f:=11) (fst:=#[]) (caps:=#[]) (vs:=[.string (p.extract ((G5 p).toNat+1) p.size)]) (v:=.bool (H0 (p.extract ((G5 p).toNat+1) p.size))) (hf:=Tryz.func11) (hc:=(fun hc=>refPart _ (by simp only [ByteArray.size_extract]; omega) _ _)) (k:=?_))
   refine C4 [6,0] [2] (k:=A0 ?_)
   refine C3 (B3 ?_)
   refine C1 [.tmp 2] [.bool ((H0 (p.extract 0 (G5 p).toNat))&&(H0 (p.extract ((G5 p).toNat+1) p.size)))] (k:=?_)
   exact ⟨by simp [Q3,A3,hs1],rfl⟩
  ·
   simp only [decide_eq_false_iff_not] at hc5; omega
theorem sliteIndex (s:ByteArray) (W0:World) (H:List Grp):Tri Tryz.prog 99 #[.string s,.string (ByteArray.mk #[47])] W0 H (fun v H'=>v=.int .i64 (G5 s)∧H'=H):=by
 refine C8 (args:=[.string s,.string (ByteArray.mk #[47])]) (n:=143) Tryz.func99 rfl rfl (Nat.le_of_ble_eq_true rfl) ?_
 refine A1 (G_p [0] [0,1] (k:=?_))
 refine A0 (A1 ?_)
 refine G_p [0,0,0] [0,1,5] (k:=A0 ?_)
 refine A1 (C5 ?_)
 refine A1 (G_p [0,0,0,0,0,0,3,0] [0,1,5,16] (k:=?_))
 refine A0 (C6 (b:=(ByteArray.mk #[47]).toList==s.toList) kr (fun hc1=>?_) (fun hc1=>?_))
 ·
  have hc1:=slash_one (by simpa using hc1)
  refine A1 (B4 (E':=[⟨4,[],.int .i64 0⟩]) [0] [4] (k:=?_))
  refine A0 (C3 ?_)
  refine F8 (B3 ?_)
  refine C1 [.tmp 4] [.int .i64 0] (k:=?_)
  exact ⟨by rw [hc1]; rfl,rfl⟩
 ·
  simp at hc1
  refine A1 (G_p [0,0,0] [0,1,5,24] (k:=?_))
  refine A0 (I1 kr ?_)
  refine A1 (A2 ?_)
  refine A7 (j:=2) [0,0] (k:=W9 (ch:=[]) (s:=(ByteArray.mk #[47])) (kd:=.i64) (j:=0) (hb:=(fun _=>by decide)) (k:=?_))
  refine F6 (vs:=[.string s,.int .u8 47]) Tryz.func117 (Y7 _ _ _ _) (D3 (E':=[⟨4,[],.int .i64 (bIdx s 47)⟩]) [0] [4] (k:=?_))
  refine A0 (C3 ?_)
  refine F8 (B3 ?_)
  refine C1 [.tmp 4] [.int .i64 (bIdx s 47)] (k:=?_)
  exact ⟨rfl,rfl⟩
theorem sliteCut (s:ByteArray) (hs:s.size≤9223372036854775807) (W0:World) (H:List Grp):Tri Tryz.prog 78 #[.string s,.string (ByteArray.mk #[47])] W0 H (fun v H'=>v=.tuple (if G5 s<0 then #[.string s,.string (ByteArray.mk #[]),.bool false] else #[.string (s.extract 0 (G5 s).toNat),.string (s.extract ((G5 s).toNat+1) s.size),.bool true])∧H'=H):=by
 have hsl:=slash_or s
 refine C8 (args:=[.string s,.string (ByteArray.mk #[47])]) (n:=23) Tryz.func78 rfl rfl (Nat.le_of_ble_eq_true rfl) ?_
 refine A1 (G_p [0,0,0] [0,1] (k:=?_))
 refine A0 (A1 ?_)
 refine A1 (A2 ?_)
 refine A7 (j:=2) [0,0] (k:=F6 (vs:=[.string s,.string (ByteArray.mk #[47])]) Tryz.func99 (sliteIndex _ _ _) ?_)
 refine C4 [0] [0,1,7] (k:=A0 ?_)
 refine A1 (G_p [0,0] [0,1,7,12] (k:=?_))
 refine A0 (C6 (b:=decide ((G5 s) ≥ 0)) kr (fun hc1=>?_) (fun hc1=>?_))
 ·
  simp at hc1
  refine A1 (K4 (k:=?_))
  refine A7 (j:=2) [0,0] (k:=L7 (ch:=[]) (s:=s) (vl:=none) (vh:=(some (.int .i64 (G5 s)))) (l:=0) (h:=G5 s) (hb:=(fun _=>by omega)) (k:=?_))
  refine A7 (j:=8) [0,0,0,0,0] (k:=F2 20 ((G5 s)+1) (by omega) (by omega) kr ?_)
  refine L7 (ch:=[]) (s:=s) (vl:=(some (.int .i64 ((G5 s)+1)))) (vh:=none) (l:=(G5 s)+1) (h:=(s.size:Int)) (hb:=(fun _=>by omega)) (k:=C4 [0,0,0] [4,5,6] (k:=?_))
  refine A0 (C3 ?_)
  refine B3 (C1 [.tmp 4,.tmp 5,.tmp 6] [.string (s.extract 0 (Int.toNat (G5 s))),.string (s.extract (Int.toNat ((G5 s)+1)) s.size),.bool true] (k:=?_))
  exact ⟨by rw [if_neg (by omega),show (G5 s+1).toNat=(G5 s).toNat+1 from by omega]; rfl,rfl⟩
 ·
  simp at hc1
  refine B5 (A0 ?_)
  refine A1 (G_p [0,0,0,0] [4,5,6] (k:=?_))
  refine A0 (C3 ?_)
  refine C1 [.tmp 4,.tmp 5,.tmp 6] [.string s,.string (ByteArray.mk #[]),.bool false] (k:=?_)
  exact ⟨by rw [if_pos (by omega)]; rfl,rfl⟩
theorem stringsCut (s:ByteArray) (hs:s.size≤9223372036854775807) (W0:World) (H:List Grp):Tri Tryz.prog 41 #[.string s,.string (ByteArray.mk #[47])] W0 H (fun v H'=>v=.tuple (if G5 s<0 then #[.string s,.string (ByteArray.mk #[]),.bool false] else #[.string (s.extract 0 (G5 s).toNat),.string (s.extract ((G5 s).toNat+1) s.size),.bool true])∧H'=H):=by
 refine C8 (args:=[.string s,.string (ByteArray.mk #[47])]) (n:=13) Tryz.func41 rfl rfl (Nat.le_of_ble_eq_true rfl) ?_
 refine A1 (G_p [0,0,0] [0,1] (k:=?_))
 refine A0 (A1 ?_)
 refine A2 (A7 (j:=2) [0,0] (k:=?_))
 refine N1 (ch:=[]) (f:=78) (fst:=#[]) (caps:=#[]) (vs:=[.string s,.string (ByteArray.mk #[47])]) (hf:=Tryz.func78) (hsure:=J0 kr) (hc:=sliteCut _ hs _ _) (k:=?_)
 rintro v H' ⟨rfl,rfl⟩
 by_cases hs1:G5 s<0
 ·
  rw [if_pos hs1]
  refine C4 [0,0,0,0,0,0] [4,5,6] (k:=A0 ?_)
  refine C3 (C1 [.tmp 4,.tmp 5,.tmp 6] [.string s,.string (ByteArray.mk #[]),.bool false] (k:=?_))
  exact ⟨rfl,rfl⟩
 ·
  rw [if_neg hs1]
  obtain ⟨hs1a,hs1b,hs1c⟩:=Q2 hs1
  refine C4 [0,0,0,0,0,0] [4,5,6] (k:=A0 ?_)
  refine C3 (C1 [.tmp 4,.tmp 5,.tmp 6] [.string (s.extract 0 (G5 s).toNat),.string (s.extract ((G5 s).toNat+1) s.size),.bool true] (k:=?_))
  exact ⟨rfl,rfl⟩
theorem vfsPart (s:ByteArray) (hs:s.size≤9223372036854775807) (W0:World) (H:List Grp):Tri Tryz.prog 76 #[.string s] W0 H (fun v H'=>v=.bool (H0 s)∧H'=H):=by
 refine C8 (args:=[.string s]) (n:=58) Tryz.func76 rfl rfl (Nat.le_of_ble_eq_true rfl) ?_
 refine A1 (B4 (E':=[⟨0,[],.string s⟩]) [0] [0] (k:=?_))
 refine A0 (A1 ?_)
 refine A1 (G_p [0,0,0,0,0,0,0,5,0,0,0,5,0,0,0,5] [0,20] (k:=?_))
 refine A0 (C6 (b:=(((decide ((s.size:Int)<1))||(decide ((s.size:Int) > 80)))||(s.toList==(ByteArray.mk #[46]).toList))||(s.toList==(ByteArray.mk #[46,46]).toList)) kr (fun hc1=>?_) (fun hc1=>?_))
 ·
  have hf:=part_no hc1
  refine A1 (B4 (E':=[⟨2,[],.bool false⟩]) [0] [2] (k:=?_))
  refine A0 (C3 ?_)
  refine B3 (C1 [.tmp 2] [.bool false] (k:=?_))
  exact ⟨by rw [hf]; rfl,rfl⟩
 ·
  have hf:=part_yes hc1
  have hsz:s.size≤80:=by (revert hc1; simp; omega)
  refine B5 (A0 ?_)
  refine A1 (A1 ?_)
  refine G_p [0,0,0] [0,22,23] (k:=A0 ?_)
  refine C5 (I8 (EI:=(fun ξ:Nat=>[⟨0,[],.string s⟩,⟨22,[],.int .i64 (s.size:Int)⟩,⟨23,[],.int .i64 ((ξ:Nat):Int)⟩])) (HI:=(fun ξ:Nat=>H)) (Φ:=(fun ξ:Nat=>(ξ≤s.size)∧(pall s ξ))) (μ:=(fun ξ:Nat=>s.size - ξ)) (s0:=(0)) [0,22,23] kr rfl ⟨(by omega),pall_zero⟩ ?_)
  rintro k ⟨hk,hp⟩
  refine A1 (G_p [0] [0,22,23,24] (k:=?_))
  refine A0 (A1 ?_)
  refine C6 (b:=decide (((k:Nat):Int)<(s.size:Int))) kr (fun hc2=>?_) (fun hc2=>?_)
  ·
   simp at hc2
   refine B5 (A0 ?_)
   refine A1 (C5 ?_)
   refine A1 (G_p [0,0] [0,3,22,23] (k:=?_))
   refine A0 (A1 ?_)
   refine A2 (A7 (j:=2) [0,0] (k:=?_))
   refine W9 (ch:=[]) (s:=s) (kd:=.i64) (j:=((k:Nat):Int)) (hb:=(fun _=>by omega)) (k:=?_)
   have hb3:=R0 s ((k:Nat):Int)
   refine C4 [0] [0,4,22,23] (k:=A0 ?_)
   refine A1 (A2 ?_)
   refine A7 (j:=24) [0,0,0,0,0,6,0,0,0,0,0,0,6,5,0,0,0,0,0,0,6,5,0,0] (k:=J9 (ch:=[(51,false)]) (f:=98) (fst:=#[]) (caps:=#[]) (vs:=[.string (ByteArray.mk #[45,95,46]),.int .u8 (F5 s ((k:Nat):Int))]) (v:=.int .i64 (bIdx (ByteArray.mk #[45,95,46]) (F5 s ((k:Nat):Int)))) (hf:=Tryz.func98) (hc:=(fun hc=>stringsIndexByte _ _ _ _)) (k:=?_))
   refine C4 [0,5,0] [0,22,23,56] (k:=A0 ?_)
   refine C6 (b:=!(((((decide ((F5 s ((k:Nat):Int)) ≥ 97))&&(decide ((F5 s ((k:Nat):Int))≤122)))||((decide ((F5 s ((k:Nat):Int)) ≥ 65))&&(decide ((F5 s ((k:Nat):Int))≤90))))||((decide ((F5 s ((k:Nat):Int)) ≥ 48))&&(decide ((F5 s ((k:Nat):Int))≤57))))||(decide ((bIdx (ByteArray.mk #[45,95,46]) (F5 s ((k:Nat):Int))) ≥ 0)))) kr (fun hc4=>?_) (fun hc4=>?_)
   ·
    rw [three_idx hb3.1 hb3.2] at hc4
    have hpb:pbyte (F5 s k)=false:=by (simp only [pbyte]; revert hc4; simp; omega)
    refine A1 (B4 (E':=[⟨2,[],.bool false⟩]) [0] [2] (k:=?_))
    refine A0 (C3 ?_)
    refine F8 (B3 ?_)
    refine B3 (F8 ?_)
    refine B3 (C1 [.tmp 2] [.bool false] (k:=?_))
    exact ⟨by simp [Q3,hf,pallB_false hc2 hpb],rfl⟩
   ·
    rw [three_idx hb3.1 hb3.2] at hc4
    have hpb:pbyte (F5 s k)=true:=by (simp only [pbyte]; revert hc4; simp; omega)
    refine B5 (D5 ?_)
    refine A0 (A2 ?_)
    refine A7 (j:=1) [0] (k:=F2 57 (((k:Nat):Int)+1) (by omega) (by omega) kr ?_)
    refine C4 [0] [0,22,23] (k:=E5 (s':=(k+1)) [0,22,23] kr rfl ⟨(by omega),(pall_succ hp hpb)⟩ (by omega))
  ·
   simp at hc2
   refine G6 (A8 ?_)
   refine A8 (C7 ?_)
   refine A0 (A1 ?_)
   refine B4 (E':=[⟨2,[],.bool true⟩]) [0] [2] (k:=A0 ?_)
   refine C3 (C1 [.tmp 2] [.bool true] (k:=?_))
   exact ⟨by simp [Q3,hf,pallB_true hp hc2],rfl⟩
theorem T2 (p:ByteArray) (hp:p.size≤9223372036854775807) (W0:World) (H:List Grp):Tri Tryz.prog 34 #[.string p] W0 H (fun v H'=>v=.bool (A3 p)∧H'=H):=by
 refine C8 (args:=[.string p]) (n:=22) Tryz.func34 rfl rfl (Nat.le_of_ble_eq_true rfl) ?_
 refine A1 (B4 (E':=[⟨0,[],.string p⟩]) [0] [0] (k:=?_))
 refine A0 (A1 ?_)
 refine A2 (A7 (j:=1) [0] (k:=?_))
 refine N1 (ch:=[]) (f:=41) (fst:=#[]) (caps:=#[]) (vs:=[.string p,.string (ByteArray.mk #[47])]) (hf:=Tryz.func41) (hsure:=J0 kr) (hc:=stringsCut _ hp _ _) (k:=?_)
 rintro v H' ⟨rfl,rfl⟩
 by_cases hs1:G5 p<0
 ·
  rw [if_pos hs1]
  refine C4 [0,0,0,0,0,0,0] [3,4,5] (k:=A0 ?_)
  refine A1 (A2 ?_)
  refine A7 (j:=1) [0] (k:=F6 (vs:=[.string p]) Tryz.func76 (vfsPart _ hp _ _) ?_)
  refine D3 (E':=[⟨2,[],.bool ((H0 p)&&true)⟩]) [0,0,0,0,1,1,2,6,0] [2] (k:=A0 ?_)
  refine C3 (C1 [.tmp 2] [.bool ((H0 p)&&true)] (k:=?_))
  exact ⟨by simp [Q3,A3,hs1],rfl⟩
 ·
  rw [if_neg hs1]
  obtain ⟨hs1a,hs1b,hs1c⟩:=Q2 hs1
  refine C4 [0,0,0,0,0,0,0] [3,4,5] (k:=A0 ?_)
  refine A1 (A2 ?_)
  refine A7 (j:=1) [0] (k:=F6 (vs:=[.string (p.extract 0 (G5 p).toNat)]) Tryz.func76 (vfsPart _ (by simp only [ByteArray.size_extract]; omega) _ _) ?_)
  refine A7 (j:=7) [0,0,0,0,0] (k:=J9 (ch:=[(17,false),(14,true)]) (f:=76) (fst:=#[]) (caps:=#[]) (vs:=[.string (p.extract ((G5 p).toNat+1) p.size)]) (v:=.bool (H0 (p.extract ((G5 p).toNat+1) p.size))) (hf:=Tryz.func76) (hc:=(fun hc=>vfsPart _ (by simp only [ByteArray.size_extract]; omega) _ _)) (k:=?_))
  refine C4 [3,6,0] [2] (k:=A0 ?_)
  refine C3 (C1 [.tmp 2] [.bool ((H0 (p.extract 0 (G5 p).toNat))&&(H0 (p.extract ((G5 p).toNat+1) p.size)))] (k:=?_))
  exact ⟨by simp [Q3,A3,hs1],rfl⟩
theorem Q1 (p:ByteArray) (hp:p.size≤9223372036854775807) (W0:World) (H:List Grp):Tri Tryz.prog 38 #[.string p] W0 H (fun v H'=>v=.string (D2 p)∧H'=H):=by
 refine C8 (args:=[.string p]) (n:=15) Tryz.func38 rfl rfl (Nat.le_of_ble_eq_true rfl) ?_
 refine A1 (B4 (E':=[⟨0,[],.string p⟩]) [0] [0] (k:=?_))
 refine A0 (A1 ?_)
 refine A2 (A7 (j:=1) [0] (k:=?_))
 refine N1 (ch:=[]) (f:=41) (fst:=#[]) (caps:=#[]) (vs:=[.string p,.string (ByteArray.mk #[47])]) (hf:=Tryz.func41) (hsure:=J0 kr) (hc:=stringsCut _ hp _ _) (k:=?_)
 rintro v H' ⟨rfl,rfl⟩
 by_cases hs1:G5 p<0
 ·
  rw [if_pos hs1]
  refine C4 [0,0,0,0,0,0,0] [3,5] (k:=A0 ?_)
  refine A1 (A1 ?_)
  refine G_p [0,0] [3,13] (k:=A0 ?_)
  refine I1 kr (A1 ?_)
  refine B4 (E':=[⟨2,[],.string (ByteArray.mk #[])⟩]) [0] [2] (k:=A0 ?_)
  refine C3 (B3 ?_)
  refine C1 [.tmp 2] [.string (ByteArray.mk #[])] (k:=?_)
  exact ⟨by simp [Q3,D2,hs1],rfl⟩
 ·
  rw [if_neg hs1]
  obtain ⟨hs1a,hs1b,hs1c⟩:=Q2 hs1
  refine C4 [0,0,0,0,0,0,0] [3,5] (k:=A0 ?_)
  refine A1 (A1 ?_)
  refine G_p [0,0] [3,13] (k:=A0 ?_)
  refine I2 kr (B5 ?_)
  refine A0 (A1 ?_)
  refine G_p [0,0] [2] (k:=A0 ?_)
  refine C3 (C1 [.tmp 2] [.string (p.extract 0 (G5 p).toNat)] (k:=?_))
  exact ⟨by simp [Q3,D2,hs1],rfl⟩
end Go.Proofs.YtlaoeiaaeifidaaGreat
namespace Go.Sw
def u8s (l:List UInt8):List Value:=l.map fun b=>Value.int .u8 (b.toNat:Int)
theorem GL_bytesStr {d:Bool} {P:Program} {ops:Array Oper} {i:Nat} {Q:G3} {n:Fr} {E:Env} {W0:World} {H:List Grp} {o:Oper} {ch:List (Nat × Bool)} {src dst e:TypeId} {x:Operand} {a:Addr} {cap:Nat} {S:Nat→Obj→Prop} (l:List UInt8)
    (ho:ops[i]? = some o) (hop:o.op=.convert src dst x) (hx:evO E ch x=some (.slice (some a) l.length cap)) (hs:P.underlying src=some (.slice e)) (he:P.underlying e=some (.int .u8)) (hds:P.underlying dst=some .string)
    (hch:F3 ops E o.guard=some ch) (hd:H7 n ch o.dst=true) (hk:K3 E ch=true)
    (hrd:Rd S (some a) (u8s l)) (hS:∀ b o,S b o→At W0 H b o)
    (k:GL d P ops (i+1) Q n (Env.put E o.dst ch (.string ⟨l.toArray⟩)) W0 H):GL d P ops i Q n E W0 H:=by
  refine J2 ho hch hd hk (fun r hr _ w hsat=>?_) k
  unfold execOp
  simp only [hop]
  rw [hr _ _ hx]
  have:=Go.run_convert_bytes_back (P:=P) w src dst e a cap l hs he hds (fun j hj=>by
    have hv:(u8s l)[j]? = some (.int .u8 (l[j].toNat:Int)):=by simp [u8s,hj]
    obtain ⟨b,off,c,t,fz,h1,h2,h3,h4⟩:=hrd.elt hv
    have ha:a.add j=⟨b,off+j,none⟩:=h3
    rw [ha]
    exact Z1 (hsat.at (hS _ _ h2)) h4)
  simp only [Sem.run_bind,Sem.run_pure,this,Result.andThen_ok]
  exact ⟨rfl,rfl⟩
theorem E2 {d:Bool} {P:Program} {ops:Array Oper} {i:Nat} {Q:G3} {n:Fr} {E:Env} {W0:World} {H:List Grp} {o:Oper} {ch:List (Nat × Bool)} {t e:TypeId} {x ix:Operand} {b off len sz:Nat} {kd:IntKind} {j:Int}
    (ho:ops[i]? = some o:=by exact rfl) (hop:o.op=.indexAddr t x ix:=by exact rfl) (hx:evO E ch x=some (.pointer (some ⟨b,off,none⟩)):=by kernel_rfl) (hix:evO E ch ix=some (.int kd j):=by kernel_rfl) (hu:P.underlying t=some (.array len e):=by kernel_rfl) (hsz:Z6 P e=some sz:=by kernel_rfl)
    (hch:F3 ops E o.guard=some ch:=by kernel_rfl) (hd:H7 n ch o.dst=true:=by kernel_rfl) (hk:K3 E ch=true:=by kernel_rfl)
    (hb:chB E ch→0≤j∧j<len)
    (k:GL d P ops (i+1) Q n (Env.put E o.dst ch (.pointer (some ⟨b,off+j.toNat * sz,none⟩))) W0 H):GL d P ops i Q n E W0 H:=by
  refine J2 ho hch hd hk (fun r hr hcb w _=>?_) k
  obtain ⟨h0,h1⟩:=hb hcb
  unfold execOp
  simp only [hop]
  rw [hr _ _ hx,hr _ _ hix]
  simp only [Instr.indexAt,asIntOf,Instr.sureAddr,Sem.run_bind,Sem.run_pure,Result.andThen_ok,run_underlying hu,if_pos (⟨h0,h1⟩:0≤j∧j<(len:Int)),K0 hsz,N8]
  exact ⟨rfl,rfl⟩
end Go.Sw
namespace Go.Vf
open Go.Sw Go.RowKit
def B6 (fails once:Bool) (calls:Int) (right:Bool):Int × Bool × Int :=
  if right=false then (2,fails,calls) else if fails=false then (0,fails,calls) else if calls > 0 then (0,fails,calls - 1) else (62,!once,calls)
theorem callS_arg {f o r:Bool} {c:Int} (h:(!r)=true):B6 f o c r=(2,f,c):=by unfold B6; cases r <;> simp at h ⊢
theorem callS_ok {f o r:Bool} {c:Int} (h:(!r)=false) (hf:(!f)=true):B6 f o c r=(0,f,c):=by unfold B6; cases r <;> cases f <;> simp at h hf ⊢
theorem callS_dec {f o r:Bool} {c:Int} (h:(!r)=false) (hf:(!f)=false) (hc:decide (c > 0)=true):B6 f o c r=(0,f,c - 1):=by
  have:=of_decide_eq_true hc
  unfold B6; cases r <;> cases f <;> simp at h hf ⊢; omega
theorem callS_no {f o r:Bool} {c:Int} (h:(!r)=false) (hf:(!f)=false) (hc:decide (c > 0)=false):B6 f o c r=(62,!o,c):=by
  have:=of_decide_eq_false hc
  unfold B6; cases r <;> cases f <;> simp at h hf ⊢; omega
def sumN (f:Value→Nat) (m:SM):Nat:=(m.map fun e=>f e.2.1).sum
theorem sumN_snoc (f:Value→Nat) (m:SM) (e:ByteArray × Value × Nat):sumN f (m++[e])=sumN f m+f e.2.1:=by
  unfold sumN; rw [List.map_append,List.sum_append]; simp
theorem sumN_perm {f:Value→Nat} {a b:SM} (h:a.Perm b):sumN f a=sumN f b:=(h.map _).sum_nat
theorem sumN_part {f:Value→Nat} {a b c:SM} (h:(a++b).Perm c):sumN f a≤sumN f c:=by
  rw [← sumN_perm h]; unfold sumN; rw [List.map_append,List.sum_append]; omega
theorem u8s_one {l:List UInt8}:∀ u∈u8s l,u.oneCell'=true:=by
  intro u hu
  unfold u8s at hu
  obtain ⟨b,_,rfl⟩:=List.mem_map.1 hu
  rfl
theorem u8s_len (l:List UInt8):(u8s l).length=l.length:=by unfold u8s; rw [List.length_map]
theorem own_nil {et:TypeId} {v:Value} {g:Grp} {n:Nat} {cs:List Value} (h:Go.Sw.Own et 1 v g (0+n) ([]++cs)):Go.Sw.Own et 1 v g n cs:=by simpa using h
theorem A0b (k:ByteArray) (v:Value):MapOk [(k,v,0)] 1:=⟨by simp,by simp,by simp⟩
theorem hv1 (k:ByteArray) (p:Nat):∀ e∈[(k,Value.pointer (some ⟨p,0,none⟩),0)],e.2.1=Value.pointer none∨∃ p,e.2.1=Value.pointer (some ⟨p,0,none⟩):=by
  intro e he
  rw [List.mem_singleton.1 he]; exact .inr ⟨p,rfl⟩
theorem hv0 (k:ByteArray):∀ e∈[(k,Value.pointer none,0)],e.2.1=Value.pointer none∨∃ p,e.2.1=Value.pointer (some ⟨p,0,none⟩):=by
  intro e he
  rw [List.mem_singleton.1 he]; exact .inl rfl
def MadeOf:List SM→SM × Nat→SM × Nat→Prop
  | [],s,s'=>s'=s
  | x::r,s,s'=>∃ dn,dn.Perm x∧MadeOf r (F9 s dn) s'
theorem made_snoc {x:SM} {dn:SM} (hd:dn.Perm x):∀ {xs:List SM} {s s1:SM × Nat},MadeOf xs s s1→MadeOf (xs++[x]) s (F9 s1 dn)
  | [],s,s1,h=>by subst h; exact ⟨dn,hd,rfl⟩
  | y::r,s,s1,⟨d,h1,h2⟩=>⟨d,h1,made_snoc hd h2⟩
theorem made_ok:∀ {xs:List SM} {s s':SM × Nat},MadeOf xs s s'→MapOk s.1 s.2→MapOk s'.1 s'.2
  | [],_,_,h,ho=>by subst h; exact ho
  | _::_,_,_,⟨_,_,h⟩,ho=>made_ok h (ho.fold _)
theorem K8 {α:Type} {l:List α} {k:Nat} {d:α} (h:k<l.length):l.take (k+1)=l.take k++[l.getD k d]:=by
  rw [List.take_add_one,List.getElem?_eq_getElem h,List.getD_eq_getElem?_getD,List.getElem?_eq_getElem h]; rfl
theorem map_at {qs:List Nat} {k:Nat} (h:k<qs.length):(qs.map fun q=>Value.map (some q))[k]? = some (.map (some (qs.getD k 0))):=by
  rw [List.getElem?_map,List.getElem?_eq_getElem h,List.getD_eq_getElem?_getD,List.getElem?_eq_getElem h]; rfl
theorem maps_ne {qs:List Nat} {k:Nat} (h:k<qs.length):(qs.map fun q=>Value.map (some q))≠[]:=by
  intro h'; rw [List.map_eq_nil_iff] at h'; rw [h'] at h; simp at h
def F1 (k n:Int):Int:=Int.tmod (Int.tmod k n+n) n
theorem R6 {k n:Int} (hn:0<n):0≤F1 k n∧F1 k n<n:=by
  unfold F1
  have h1:=Int.tmod_lt_of_pos k hn
  have h2:-n<Int.tmod k n:=by
    have:=Int.lt_tmod_of_pos k hn
    omega
  have h3:0≤Int.tmod k n+n:=by omega
  exact ⟨Int.tmod_nonneg n h3,Int.tmod_lt_of_pos _ hn⟩
theorem next_is {k n:Int} (hn:0<n) (hn2:n≤1000000000000) (_:-9223372036854775808≤k) (_:k≤9223372036854775807):Int.tmod (IntKind.wrap .i64 (Int.tmod k n+n)) n=F1 k n:=by
  have h1:=Int.tmod_lt_of_pos k hn
  have h2:=Int.lt_tmod_of_pos k hn
  rw [w64 (by omega) (by omega)]
  rfl
theorem tmod_ne {n:Int} (k:Int) (hn:0<n):-n<Int.tmod k n∧Int.tmod k n<n:=⟨by have:=Int.lt_tmod_of_pos k hn; omega,Int.tmod_lt_of_pos k hn⟩
end Go.Vf
namespace Go.Proofs.YtlaoeiaaeifidaaGreat
open Go.Sw Go.Lib Go.Vf Go.RowKit
theorem vCall (d nb kb cb:Nat) (room calls:Int) (bv:Value) (fails once:Bool) (right:Bool) (hc:-9223372036854775808≤calls∧calls≤9223372036854775807) (W0:World) (H:List Grp):Tri Tryz.prog 33 #[pt d,.bool right] W0 ([(d,.cells #[.int .i64 room,bv,.map (some nb),.map (some kb),.map (some cb),.bool fails,.bool once,.int .i64 calls] 72 (0,0))]::H) (fun v H'=>v=.int .i64 (B6 fails once calls right).1∧H'=([(d,.cells #[.int .i64 room,bv,.map (some nb),.map (some kb),.map (some cb),.bool ((B6 fails once calls right).2.1),.bool once,.int .i64 ((B6 fails once calls right).2.2)] 72 (0,0))]::H)):=by
 refine C8 (args:=[pt d,.bool right]) (n:=38) Tryz.func33 rfl rfl (Nat.le_of_ble_eq_true rfl) ?_
 refine A1 (B4 (E':=[⟨0,[],pt d⟩,⟨1,[],.bool right⟩]) [0] [0,1] (k:=?_))
 refine A0 (A1 ?_)
 refine C5 (A1 ?_)
 refine G_p [0,0,0] [0,1,5] (k:=A0 ?_)
 refine I2 kr (A1 ?_)
 refine B4 (E':=[⟨0,[],pt d⟩,⟨8,[],.bool (!right)⟩]) [0,0,0] [0,8] (k:=A0 ?_)
 refine C6 (b:=!right) kr (fun hc1=>?_) (fun hc1=>?_)
 ·
  have hr:=hc1
  refine A1 (B4 (E':=[⟨4,[],.int .i64 2⟩]) [0] [4] (k:=?_))
  refine A0 (C3 ?_)
  refine F8 (B3 ?_)
  refine C1 [.tmp 4] [.int .i64 2] (k:=?_)
  rw [callS_arg hr]
  exact ⟨rfl,rfl⟩
 ·
  have hr:=hc1
  refine A1 (A2 ?_)
  refine A7 (j:=3) [0,0,0] (k:=A5 (ch:=[]) (b:=d) (off:=5) (v:=.bool fails) (hA:=At.grp 0 0 rfl rfl) (k:=?_))
  refine C4 [0,0] [0,11] (k:=A0 ?_)
  refine C6 (b:=!fails) kr (fun hc2=>?_) (fun hc2=>?_)
  ·
   have hf:=hc2
   refine A1 (B4 (E':=[⟨4,[],.int .i64 0⟩]) [0] [4] (k:=?_))
   refine A0 (C3 ?_)
   refine F8 (B3 ?_)
   refine C1 [.tmp 4] [.int .i64 0] (k:=?_)
   rw [callS_ok hr hf]
   exact ⟨rfl,rfl⟩
  ·
   have hf:=hc2
   refine A1 (A2 ?_)
   refine A7 (j:=3) [0,0,0] (k:=A5 (ch:=[]) (b:=d) (off:=7) (v:=.int .i64 calls) (hA:=At.grp 0 0 rfl rfl) (k:=?_))
   refine C4 [0,0] [0,17] (k:=A0 ?_)
   refine C6 (b:=decide (calls > 0)) kr (fun hc3=>?_) (fun hc3=>?_)
   ·
    have hp:=hc3
    simp at hc3
    refine A1 (A2 ?_)
    refine A7 (j:=3) [0,0,0] (k:=A5 (ch:=[]) (b:=d) (off:=7) (v:=.int .i64 calls) (hA:=At.grp 0 0 rfl rfl) (k:=?_))
    refine A7 (j:=5) [0] (k:=F2 27 (calls - 1) (by omega) (by omega) kr ?_)
    refine A7 (j:=7) [0,0] (k:=G4 (ch:=[]) (b:=d) (off:=7) (v:=.int .i64 (calls - 1)) (j:=0) ([(d,.cells #[.int .i64 room,bv,.map (some nb),.map (some kb),.map (some cb),.bool fails,.bool once,.int .i64 (calls - 1)] 72 (0,0))]::H) (hoff:=Nat.le_of_ble_eq_true rfl) (hfz:=(fun _ _=>F0)) (k:=?_))
    refine D3 (E':=[]) [] [] (k:=A0 ?_)
    refine A1 (B4 (E':=[⟨4,[],.int .i64 0⟩]) [0] [4] (k:=?_))
    refine A0 (C3 ?_)
    refine F8 (B3 ?_)
    refine C1 [.tmp 4] [.int .i64 0] (k:=?_)
    rw [callS_dec hr hf hp]
    exact ⟨rfl,rfl⟩
   ·
    have hp:=hc3
    simp at hc3
    refine B5 (D5 ?_)
    refine A0 (A1 ?_)
    refine A2 (A7 (j:=4) [0,0,0,0] (k:=?_))
    refine A5 (ch:=[]) (b:=d) (off:=6) (v:=.bool once) (hA:=At.grp 0 0 rfl rfl) (k:=A7 (j:=8) [0,0,0] (k:=?_))
    refine G4 (ch:=[]) (b:=d) (off:=5) (v:=.bool (!once)) (j:=0) ([(d,.cells #[.int .i64 room,bv,.map (some nb),.map (some kb),.map (some cb),.bool (!once),.bool once,.int .i64 calls] 72 (0,0))]::H) (hoff:=Nat.le_of_ble_eq_true rfl) (hfz:=(fun _ _=>F0)) (k:=D3 (E':=[]) [] [] (k:=?_))
    refine A0 (A1 ?_)
    refine B4 (E':=[⟨4,[],.int .i64 62⟩]) [0] [4] (k:=A0 ?_)
    refine C3 (C1 [.tmp 4] [.int .i64 62] (k:=?_))
    rw [callS_no hr hf hp]
    exact ⟨rfl,rfl⟩
theorem vFail (d nb kb cb:Nat) (room calls:Int) (bv:Value) (fails once:Bool) (n:Int) (o:Bool) (W0:World) (H:List Grp):Tri Tryz.prog 24 #[pt d,.int .i64 n,.bool o] W0 ([(d,.cells #[.int .i64 room,bv,.map (some nb),.map (some kb),.map (some cb),.bool fails,.bool once,.int .i64 calls] 72 (0,0))]::H) (fun v H'=>v=.tuple #[]∧H'=([(d,.cells #[.int .i64 room,bv,.map (some nb),.map (some kb),.map (some cb),.bool true,.bool o,.int .i64 (if 0 > n then 0 else n)] 72 (0,0))]::H)):=by
 refine C8 (args:=[pt d,.int .i64 n,.bool o]) (n:=20) Tryz.func24 rfl rfl (Nat.le_of_ble_eq_true rfl) ?_
 refine A1 (G_p [0,0] [0,1,2,7] (k:=?_))
 refine A0 (I1 kr ?_)
 refine A2 (A7 (j:=8) [0,0,0,0,0,0,0,0] (k:=?_))
 refine G4 (ch:=[]) (b:=d) (off:=5) (v:=.bool true) (j:=0) ([(d,.cells #[.int .i64 room,bv,.map (some nb),.map (some kb),.map (some cb),.bool true,.bool once,.int .i64 calls] 72 (0,0))]::H) (hoff:=Nat.le_of_ble_eq_true rfl) (hfz:=(fun _ _=>F0)) (k:=A7 (j:=11) [0,0] (k:=?_))
 refine G4 (ch:=[]) (b:=d) (off:=6) (v:=.bool o) (j:=0) ([(d,.cells #[.int .i64 room,bv,.map (some nb),.map (some kb),.map (some cb),.bool true,.bool o,.int .i64 calls] 72 (0,0))]::H) (hoff:=Nat.le_of_ble_eq_true rfl) (hfz:=(fun _ _=>F0)) (k:=A7 (j:=14) [0,0] (k:=?_))
 refine G4 (ch:=[]) (b:=d) (off:=7) (v:=.int .i64 (if 0 > n then 0 else n)) (j:=0) ([(d,.cells #[.int .i64 room,bv,.map (some nb),.map (some kb),.map (some cb),.bool true,.bool o,.int .i64 (if 0 > n then 0 else n)] 72 (0,0))]::H) (hoff:=Nat.le_of_ble_eq_true rfl) (hfz:=(fun _ _=>F0)) (k:=D3 (E':=[]) [] [] (k:=?_))
 refine C1 [] [] (k:=?_)
 exact ⟨rfl,rfl⟩
theorem vNew (room:Int) (W0:World) (H:List Grp):Tri Tryz.prog 8 #[.int .i64 room] W0 H (fun v H'=>∃ d nb kb cb,v=.pointer (some ⟨d,0,none⟩)∧H'=[(d,.cells #[.int .i64 (if 0 > room then 0 else room),.slice none 0 0,.map (some nb),.map (some kb),.map (some cb),.bool false,.bool false,.int .i64 0] 72 (0,0))]::[(cb,.map (B2 []) 0)]::[(kb,.map (B2 []) 0)]::[(nb,.map (B2 []) 0)]::H):=by
 refine C8 (args:=[.int .i64 room]) (n:=10) Tryz.func8 rfl rfl (Nat.le_of_ble_eq_true rfl) ?_
 refine A1 (B4 (E':=[⟨0,[],.int .i64 room⟩]) [0] [0] (k:=?_))
 refine A0 (A1 ?_)
 refine A2 (A7 (j:=2) [0,0] (k:=?_))
 refine R2 (ch:=[]) (k:=(fun b1=>?_))
 refine R2 (ch:=[]) (k:=(fun b2=>?_))
 refine R2 (ch:=[]) (k:=(fun b3=>?_))
 refine A7 (j:=6) [0] (k:=R3 (ch:=[]) (v:=.agg #[.int .i64 (if 0 > room then 0 else room),.slice none 0 0,.map (some b1),.map (some b2),.map (some b3),.bool false,.bool false,.int .i64 0]) (k:=(fun b4=>?_)))
 refine D3 (E':=[⟨2,[],pt b4⟩]) [0] [2] (k:=A0 ?_)
 refine C3 (C1 [.tmp 2] [pt b4] (k:=?_))
 exact ⟨_,_,_,_,rfl,rfl⟩
theorem vApply (nb q nc cc:Nat) (nm cm:SM) (hn:MapOk nm nc) (hcm:MapOk cm cc) (hv:∀ e∈cm,e.2.1=.pointer none∨∃ p,e.2.1=.pointer (some ⟨p,0,none⟩)) (W0:World) (H:List Grp) (hA:At W0 H q (.map (B2 cm) cc)):Tri Tryz.prog 72 #[.map (some nb),.map (some q)] W0 ([(nb,.map (B2 nm) nc)]::H) (fun v H'=>∃ dn,dn.Perm cm∧v=.tuple #[]∧H'=[(nb,.map (B2 (F9 (nm,nc) dn).1) (F9 (nm,nc) dn).2)]::H):=by
 refine C8 (args:=[.map (some nb),.map (some q)]) (n:=20) Tryz.func72 rfl rfl (Nat.le_of_ble_eq_true rfl) ?_
 refine A1 (A2 ?_)
 refine A7 (j:=1) [0] (k:=GL_range (i:=1) (ch:=[]) (kt:=9) (et:=74) (r:=q) (c:=cc) (m:=cm) rfl rfl kr kr kr kr kr (At.cons hA) (fun it1=>?_))
 refine C4 [] [0,7] (k:=A0 ?_)
 refine C5 (I8 (EI:=(fun ξ:SM × SM=>[⟨0,[],.map (some nb)⟩,⟨7,[],pt it1⟩])) (HI:=(fun ξ:SM × SM=>([(it1,.mapIter (some q) cc (Q7 ξ.1) cc)]::[(nb,.map (B2 ((F9 (nm,nc) ξ.1).1)) ((F9 (nm,nc) ξ.1).2))]::H))) (Φ:=(fun ξ:SM × SM=>((ξ.1++ξ.2).Perm cm))) (μ:=(fun ξ:SM × SM=>ξ.2.length)) (s0:=([],cm)) [0,7] kr (by rfl) (List.Perm.refl _) ?_)
 rintro ⟨dn,rest⟩ hpm
 refine A1 (A2 ?_)
 refine GL_next (i:=0) (ch:=[]) (it:=it1) (r:=q) (c:=cc) (j:=0) (q:=0) (m:=cm) (dn:=dn) (rest:=rest) rfl rfl kr kr kr kr rfl rfl (At.cons (At.cons hA)) hcm hpm (fun hend6=>?_) (fun e2 rest3 hp4 hq5=>?_)
 ·
  refine C4 [0] [0,7,9] (k:=A0 ?_)
  refine A1 (I2 kr ?_)
  refine G6 (A8 ?_)
  refine A8 (C7 ?_)
  refine E0 (H':=([(nb,.map (B2 ((F9 (nm,nc) dn).1)) ((F9 (nm,nc) dn).2))]::H)) (fun w h=>h.erase 0) (C1 [] [] (k:=?_))
  exact ⟨dn,by simpa [hend6] using hpm,rfl,rfl⟩
 ·
  have hve:=hv e2 (hq5.mem_iff.1 (by simp))
  obtain ⟨k7,v8,st9⟩:=e2
  simp only at hve
  rcases hve with rfl | ⟨p10,rfl⟩
  ·
   refine C4 [0] [0,7,9] (k:=A0 ?_)
   refine A1 (I1 kr ?_)
   refine B5 (A0 ?_)
   refine C5 (A1 ?_)
   refine A2 (GL_entry (ch:=[]) (it:=it1) (r:=q) (c:=cc) (m:=cm) (dn:=dn) (e:=(k7,.pointer none,st9)) (hI:=At.grp 0 0 rfl rfl) (hA:=At.cons (At.cons hA)) (hok:=hcm) (he:=hq5.mem_iff.1 (by simp)) (kk:=?_))
   refine C4 [0,0,0,0] [0,4,5,7] (k:=A0 ?_)
   refine A1 (G_p [0,0] [0,4,5,7,14] (k:=?_))
   refine A0 (I1 kr ?_)
   refine A2 (A7 (j:=2) [0,0] (k:=?_))
   refine GL_delete (ch:=[]) (ts:=#[68,9]) (t:=68) (kt:=9) (et:=74) (r:=nb) (c:=(F9 (nm,nc) dn).2) (j:=1) (q:=0) (m:=(F9 (nm,nc) dn).1) (k:=k7) (H':=([(it1,.mapIter (some q) cc (Q7 (dn++[(k7,.pointer none,st9)])) cc)]::[(nb,.map (B2 (mdel ((F9 (nm,nc) dn).1) k7)) ((F9 (nm,nc) dn).2))]::H)) (kk:=C4 [] [0,7] (k:=?_))
   refine D5 (E5 (s':=(dn++[(k7,.pointer none,st9)],rest3)) [0,7] kr (by rw [foldS_snoc]; rfl) hq5 (by have:=hp4.length_eq; simp only [List.length_cons] at this; show rest3.length<rest.length; omega))
  ·
   refine C4 [0] [0,7,9] (k:=A0 ?_)
   refine A1 (I1 kr ?_)
   refine B5 (A0 ?_)
   refine C5 (A1 ?_)
   refine A2 (GL_entry (ch:=[]) (it:=it1) (r:=q) (c:=cc) (m:=cm) (dn:=dn) (e:=(k7,.pointer (some ⟨p10,0,none⟩),st9)) (hI:=At.grp 0 0 rfl rfl) (hA:=At.cons (At.cons hA)) (hok:=hcm) (he:=hq5.mem_iff.1 (by simp)) (kk:=?_))
   refine C4 [0,0,0,0] [0,4,5,7] (k:=A0 ?_)
   refine A1 (G_p [0,0] [0,4,5,7,14] (k:=?_))
   refine A0 (I2 kr ?_)
   refine A2 (A7 (j:=3) [0,0,0] (k:=?_))
   refine J8 (ch:=[]) (kt:=9) (et:=74) (r:=nb) (c:=(F9 (nm,nc) dn).2) (j:=1) (q:=0) (m:=(F9 (nm,nc) dn).1) (k:=k7) (v:=pt p10) (H':=([(it1,.mapIter (some q) cc (Q7 (dn++[(k7,.pointer (some ⟨p10,0,none⟩),st9)])) cc)]::[(nb,.map (B2 (I3 ((F9 (nm,nc) dn).1) ((F9 (nm,nc) dn).2) k7 (pt p10))) (if J7 ((F9 (nm,nc) dn).1) k7 then (F9 (nm,nc) dn).2 else (F9 (nm,nc) dn).2+1))]::H)) (hop:=.inl rfl) (kk:=C4 [] [0,7] (k:=?_))
   refine D5 (E5 (s':=(dn++[(k7,.pointer (some ⟨p10,0,none⟩),st9)],rest3)) [0,7] kr (by rw [foldS_snoc]; rfl) hq5 (by have:=hp4.length_eq; simp only [List.length_cons] at this; show rest3.length<rest.length; omega))
end Go.Proofs.YtlaoeiaaeifidaaGreat
namespace Go.Proofs.YtlaoeiaaeifidaaGreat
open Go.Sw Go.Lib Go.Vf Go.RowKit
theorem vCloneNil  (W0:World) (H:List Grp):Tri Tryz.prog 36 #[.slice none 0 0] W0 H (fun v H'=>v=.slice none 0 0∧H'=H):=by
 refine C8 (args:=[.slice none 0 0]) (n:=8) Tryz.func36 rfl rfl (Nat.le_of_ble_eq_true rfl) ?_
 refine A1 (B4 (E':=[⟨0,[],.slice none 0 0⟩]) [0] [0] (k:=?_))
 refine A0 (A1 ?_)
 refine A1 (G_p [0,0] [0,4] (k:=?_))
 refine A0 (I1 kr ?_)
 refine A1 (B4 (E':=[⟨2,[],.slice none 0 0⟩]) [0] [2] (k:=?_))
 refine A0 (C3 ?_)
 refine B3 (C1 [.tmp 2] [.slice none 0 0] (k:=?_))
 exact ⟨rfl,rfl⟩
theorem vClone (b off n cap:Nat) (S:Nat→Obj→Prop) (l:List UInt8) (hrd:Rd S (some ⟨b,off,none⟩) (u8s l)) (hl:l.length=n) (hn:n≤1000000000) (W0:World) (H:List Grp) (hS:∀ y o,S y o→At W0 H y o):Tri Tryz.prog 36 #[.slice (some ⟨b,off,none⟩) n cap] W0 H (fun v H'=>∃ g,Go.Sw.Own 5 1 v g n (u8s l)∧H'=g::H):=by
 refine C8 (args:=[.slice (some ⟨b,off,none⟩) n cap]) (n:=8) Tryz.func36 rfl rfl (Nat.le_of_ble_eq_true rfl) ?_
 refine A1 (G_p [0] [0] (k:=?_))
 refine A0 (A1 ?_)
 refine A1 (G_p [0,0] [0,4] (k:=?_))
 refine A0 (I2 kr ?_)
 refine B5 (A0 ?_)
 refine A1 (A2 ?_)
 refine C2 (ch:=[]) (e:=5) (l:=[]) (c:=[]) (k:=(fun b1=>?_))
 refine A7 (j:=2) [0] (k:=E9 (i:=2) (ch:=[]) (t:=22) (tx:=22) (e:=5) (inf:=Tryz.t5) (s:=.slice (some ⟨b1,0,none⟩) 0 0) (x:=.slice (some ⟨b,off,none⟩) n cap) (n:=0) (m:=n) (j:=0) (cs:=[]) (news:=(u8s l)) (g:=[(b1,.cells #[] 5 (0,0))]) (S:=S) rfl rfl rfl rfl kr kr kr rfl rfl (.inl ⟨5,kr⟩) (fun ⟨_,h⟩=>by cases h) (fun _=>⟨5,kr⟩) kr kr kr rfl (Go.Sw.Own.lit rfl) (SrcOf.slice _ _ _ _ hrd (fun h=>by cases h)) (fun y o h=>(At.cons (hS y o h))) (by show (u8s l).length=n * 1; rw [u8s_len,hl,Nat.mul_one]) u8s_one (by omega) (by show (0+n) * 1≤140737488355328; omega) (fun v2 g3 hO4=>?_))
 refine D3 (E':=[⟨2,[],v2⟩]) [0] [2] (k:=A0 ?_)
 refine C3 (C1 [.tmp 2] [v2] (k:=?_))
 exact ⟨g3,own_nil hO4,rfl⟩
theorem vCloneE (ad:Addr) (cap:Nat) (W0:World) (H:List Grp):Tri Tryz.prog 36 #[.slice (some ad) 0 cap] W0 H (fun v H'=>∃ g,Go.Sw.Own 5 1 v g 0 []∧H'=g::H):=by
 refine C8 (args:=[.slice (some ad) 0 cap]) (n:=8) Tryz.func36 rfl rfl (Nat.le_of_ble_eq_true rfl) ?_
 refine A1 (B4 (E':=[⟨0,[],.slice (some ad) 0 cap⟩]) [0] [0] (k:=?_))
 refine A0 (A1 ?_)
 refine A1 (G_p [0,0] [0,4] (k:=?_))
 refine A0 (I2 kr ?_)
 refine B5 (A0 ?_)
 refine A1 (A2 ?_)
 refine C2 (ch:=[]) (e:=5) (l:=[]) (c:=[]) (k:=(fun b1=>?_))
 refine A7 (j:=2) [0] (k:=E9 (i:=2) (ch:=[]) (t:=22) (tx:=22) (e:=5) (inf:=Tryz.t5) (s:=.slice (some ⟨b1,0,none⟩) 0 0) (x:=.slice (some ad) 0 cap) (n:=0) (m:=0) (j:=0) (cs:=[]) (news:=([])) (g:=[(b1,.cells #[] 5 (0,0))]) (S:=(fun _ _=>False)) rfl rfl rfl rfl kr kr kr rfl rfl (.inl ⟨5,kr⟩) (fun ⟨_,h⟩=>by cases h) (fun _=>⟨5,kr⟩) kr kr kr rfl (Go.Sw.Own.lit rfl) (SrcOf.slice _ _ _ _ (.inl rfl) (fun h=>by cases h)) (fun _ _ h=>h.elim) rfl (fun u h=>absurd h List.not_mem_nil) (by omega) (by show (0+0) * 1≤140737488355328; omega) (fun v2 g3 hO4=>?_))
 refine D3 (E':=[⟨2,[],v2⟩]) [0] [2] (k:=A0 ?_)
 refine C3 (C1 [.tmp 2] [v2] (k:=?_))
 exact ⟨g3,own_nil hO4,rfl⟩
theorem vUsed (d nb kb cb nc:Nat) (room calls:Int) (bv:Value) (fails once:Bool) (nm:SM) (szf:Value→Nat) (hn:MapOk nm nc) (hs:sumN szf nm≤1000000000000) (W0:World) (H:List Grp) (hB:∀ e∈nm,∃ p a c kv,e.2.1=.pointer (some ⟨p,0,none⟩)∧At W0 H p (.cells #[.slice a (szf e.2.1) c,kv] 76 (0,0))):Tri Tryz.prog 35 #[pt d] W0 ([(d,.cells #[.int .i64 room,bv,.map (some nb),.map (some kb),.map (some cb),.bool fails,.bool once,.int .i64 calls] 72 (0,0))]::[(nb,.map (B2 nm) nc)]::H) (fun v H'=>v=.int .i64 ((sumN szf nm:Nat):Int)∧H'=([(d,.cells #[.int .i64 room,bv,.map (some nb),.map (some kb),.map (some cb),.bool fails,.bool once,.int .i64 calls] 72 (0,0))]::[(nb,.map (B2 nm) nc)]::H)):=by
 refine C8 (args:=[pt d]) (n:=25) Tryz.func35 rfl rfl (Nat.le_of_ble_eq_true rfl) ?_
 refine A1 (B4 (E':=[⟨0,[],pt d⟩]) [0] [0] (k:=?_))
 refine A0 (A1 ?_)
 refine B4 (E':=[⟨0,[],pt d⟩,⟨3,[],.int .i64 0⟩]) [0] [0,3] (k:=A0 ?_)
 refine A1 (A1 ?_)
 refine G_p [0,0] [0,3,7] (k:=A0 ?_)
 refine I1 kr (A1 ?_)
 refine A2 (A7 (j:=3) [0,0,0] (k:=?_))
 refine A5 (ch:=[]) (b:=d) (off:=2) (v:=.map (some nb)) (hA:=At.grp 0 0 rfl rfl) (k:=GL_range (i:=4) (ch:=[]) (kt:=9) (et:=74) (r:=nb) (c:=nc) (m:=nm) rfl rfl kr kr kr kr kr (At.grp 1 0 rfl rfl) (fun it1=>?_))
 refine D3 (E':=[⟨3,[],.int .i64 0⟩,⟨12,[],pt it1⟩]) [] [3,12] (k:=A0 ?_)
 refine C5 (I8 (EI:=(fun ξ:SM × SM=>[⟨3,[],.int .i64 ((sumN szf ξ.1:Nat):Int)⟩,⟨12,[],pt it1⟩])) (HI:=(fun ξ:SM × SM=>([(it1,.mapIter (some nb) nc (Q7 ξ.1) nc)]::[(d,.cells #[.int .i64 room,bv,.map (some nb),.map (some kb),.map (some cb),.bool fails,.bool once,.int .i64 calls] 72 (0,0))]::[(nb,.map (B2 nm) nc)]::H))) (Φ:=(fun ξ:SM × SM=>((ξ.1++ξ.2).Perm nm))) (μ:=(fun ξ:SM × SM=>ξ.2.length)) (s0:=([],nm)) [3,12] kr (by rfl) (List.Perm.refl _) ?_)
 rintro ⟨dn,rest⟩ hpm
 have hsp:=sumN_part (f:=szf) hpm
 refine A1 (A2 ?_)
 refine GL_next (i:=0) (ch:=[]) (it:=it1) (r:=nb) (c:=nc) (j:=0) (q:=0) (m:=nm) (dn:=dn) (rest:=rest) rfl rfl kr kr kr kr rfl rfl (At.grp 2 0 rfl rfl) hn hpm (fun hend6=>?_) (fun e2 rest3 hp4 hq5=>?_)
 ·
  refine C4 [0] [3,12,14] (k:=A0 ?_)
  refine A1 (I2 kr ?_)
  refine G6 (A8 ?_)
  refine A8 (C7 ?_)
  refine A0 (A1 ?_)
  refine G_p [0,0] [2] (k:=A0 ?_)
  refine C3 (E0 (H':=([(d,.cells #[.int .i64 room,bv,.map (some nb),.map (some kb),.map (some cb),.bool fails,.bool once,.int .i64 calls] 72 (0,0))]::[(nb,.map (B2 nm) nc)]::H)) (fun w h=>h.erase 0) ?_)
  refine C1 [.tmp 2] [.int .i64 ((sumN szf dn:Nat):Int)] (k:=?_)
  exact ⟨by rw [sumN_perm (show dn.Perm nm by simpa [hend6] using hpm)]; rfl,rfl⟩
 ·
  obtain ⟨p10,a11,c12,kv13,hve,hat14⟩:=hB e2 (hq5.mem_iff.1 (by simp))
  obtain ⟨k7,v8,st9⟩:=e2
  simp only at hve
  subst hve
  have hsq:=sumN_part (f:=szf) hq5
  rw [sumN_snoc] at hsq
  simp only at hsq
  refine C4 [0] [3,12,14] (k:=A0 ?_)
  refine A1 (I1 kr ?_)
  refine B5 (A0 ?_)
  refine C5 (A1 ?_)
  refine A2 (GL_entry (ch:=[]) (it:=it1) (r:=nb) (c:=nc) (m:=nm) (dn:=dn) (e:=(k7,.pointer (some ⟨p10,0,none⟩),st9)) (hI:=At.grp 0 0 rfl rfl) (hA:=At.grp 2 0 rfl rfl) (hok:=hn) (he:=hq5.mem_iff.1 (by simp)) (kk:=?_))
  refine C4 [0,0] [3,5,12] (k:=A0 ?_)
  refine A2 (A7 (j:=4) [0,0,0,0] (k:=?_))
  refine A5 (ch:=[]) (b:=p10) (off:=0) (v:=.slice a11 (szf (.pointer (some ⟨p10,0,none⟩))) c12) (hA:=At.cons (At.cons (At.cons hat14))) (k:=A7 (j:=7) [0,0] (k:=?_))
  refine F2 23 (((sumN szf dn:Nat):Int)+(((szf (.pointer (some ⟨p10,0,none⟩))):Nat):Int)) (by omega) (by omega) kr (C4 [0] [3,12] (k:=?_))
  refine D5 (H8 (E':=[⟨3,[],.int .i64 (((sumN szf dn:Nat):Int)+(((szf (.pointer (some ⟨p10,0,none⟩))):Nat):Int))⟩,⟨12,[],pt it1⟩]) kr ?_)
  refine H8 (E':=[⟨3,[],.int .i64 ((sumN szf (dn++[(k7,.pointer (some ⟨p10,0,none⟩),st9)]):Nat):Int)⟩,⟨12,[],pt it1⟩]) (by rw [sumN_snoc]; rfl) (E5 (s':=(dn++[(k7,.pointer (some ⟨p10,0,none⟩),st9)],rest3)) [3,12] kr (by rfl) hq5 (by have:=hp4.length_eq; simp only [List.length_cons] at this; show rest3.length<rest.length; omega))
theorem vReadNo (d nb kb cb nc:Nat) (room calls:Int) (bv:Value) (fails once:Bool) (nm:SM) (path:ByteArray) (hg:S4 nm path=none) (W0:World) (H:List Grp):Tri Tryz.prog 13 #[pt d,.string path] W0 ([(d,.cells #[.int .i64 room,bv,.map (some nb),.map (some kb),.map (some cb),.bool fails,.bool once,.int .i64 calls] 72 (0,0))]::[(nb,.map (B2 nm) nc)]::H) (fun v H'=>v=.tuple #[.slice none 0 0,.int .i64 60]∧H'=([(d,.cells #[.int .i64 room,bv,.map (some nb),.map (some kb),.map (some cb),.bool fails,.bool once,.int .i64 calls] 72 (0,0))]::[(nb,.map (B2 nm) nc)]::H)):=by
 refine C8 (args:=[pt d,.string path]) (n:=22) Tryz.func13 rfl rfl (Nat.le_of_ble_eq_true rfl) ?_
 refine A1 (B4 (E':=[⟨0,[],pt d⟩,⟨1,[],.string path⟩]) [0,0] [0,1] (k:=?_))
 refine A0 (A1 ?_)
 refine A1 (G_p [0,0] [0,1,8] (k:=?_))
 refine A0 (I2 kr ?_)
 refine B5 (A0 ?_)
 refine A1 (A2 ?_)
 refine A7 (j:=3) [0,0,0] (k:=A5 (ch:=[]) (b:=d) (off:=2) (v:=.map (some nb)) (hA:=At.grp 0 0 rfl rfl) (k:=?_))
 refine A7 (j:=5) [0] (k:=L0 (ch:=[]) (kt:=9) (et:=74) (r:=nb) (c:=nc) (m:=nm) (k:=path) (z:=.pointer none) (ov:=none) (hA:=At.grp 1 0 rfl rfl) (hg:=(fun _=>hg)) (kk:=?_))
 refine D3 (E':=[⟨6,[],.pointer none⟩]) [0] [6] (k:=A0 ?_)
 refine A1 (A1 ?_)
 refine G_p [0,0] [6,16] (k:=A0 ?_)
 refine I1 kr (A1 ?_)
 refine G_p [0,0] [4,5] (k:=A0 ?_)
 refine C3 (B3 ?_)
 refine C1 [.tmp 4,.tmp 5] [.slice none 0 0,.int .i64 60] (k:=?_)
 exact ⟨rfl,rfl⟩
theorem vReadNil (d nb kb cb nc:Nat) (room calls:Int) (bv:Value) (fails once:Bool) (nm:SM) (path:ByteArray) (p:Nat) (kv:Value) (hg:S4 nm path=some (.pointer (some ⟨p,0,none⟩))) (W0:World) (H:List Grp) (hp:At W0 H p (.cells #[.slice none 0 0,kv] 76 (0,0))):Tri Tryz.prog 13 #[pt d,.string path] W0 ([(d,.cells #[.int .i64 room,bv,.map (some nb),.map (some kb),.map (some cb),.bool fails,.bool once,.int .i64 calls] 72 (0,0))]::[(nb,.map (B2 nm) nc)]::H) (fun v H'=>v=.tuple #[.slice none 0 0,.int .i64 0]∧H'=([(d,.cells #[.int .i64 room,bv,.map (some nb),.map (some kb),.map (some cb),.bool fails,.bool once,.int .i64 calls] 72 (0,0))]::[(nb,.map (B2 nm) nc)]::H)):=by
 refine C8 (args:=[pt d,.string path]) (n:=22) Tryz.func13 rfl rfl (Nat.le_of_ble_eq_true rfl) ?_
 refine A1 (B4 (E':=[⟨0,[],pt d⟩,⟨1,[],.string path⟩]) [0,0] [0,1] (k:=?_))
 refine A0 (A1 ?_)
 refine A1 (G_p [0,0] [0,1,8] (k:=?_))
 refine A0 (I2 kr ?_)
 refine B5 (A0 ?_)
 refine A1 (A2 ?_)
 refine A7 (j:=3) [0,0,0] (k:=A5 (ch:=[]) (b:=d) (off:=2) (v:=.map (some nb)) (hA:=At.grp 0 0 rfl rfl) (k:=?_))
 refine A7 (j:=5) [0] (k:=L0 (ch:=[]) (kt:=9) (et:=74) (r:=nb) (c:=nc) (m:=nm) (k:=path) (z:=.pointer none) (ov:=(some (pt p))) (hA:=At.grp 1 0 rfl rfl) (hg:=(fun _=>hg)) (kk:=?_))
 refine D3 (E':=[⟨6,[],pt p⟩]) [0] [6] (k:=A0 ?_)
 refine A1 (A1 ?_)
 refine B4 (E':=[⟨6,[],pt p⟩,⟨16,[],.bool false⟩]) [0,0] [6,16] (k:=A0 ?_)
 refine I2 kr (B5 ?_)
 refine A0 (A1 ?_)
 refine A2 (A7 (j:=3) [0,0,0] (k:=?_))
 refine A5 (ch:=[]) (b:=p) (off:=0) (v:=.slice none 0 0) (hA:=At.cons (At.cons hp)) (k:=F6 Tryz.func36 (vCloneNil _ _) ?_)
 refine C4 [0,0] [4,5] (k:=A0 ?_)
 refine C3 (C1 [.tmp 4,.tmp 5] [.slice none 0 0,.int .i64 0] (k:=?_))
 exact ⟨rfl,rfl⟩
theorem vReadYes (d nb kb cb nc:Nat) (room calls:Int) (bv:Value) (fails once:Bool) (nm:SM) (path:ByteArray) (b off n cap:Nat) (S:Nat→Obj→Prop) (l:List UInt8) (hrd:Rd S (some ⟨b,off,none⟩) (u8s l)) (hl:l.length=n) (hn:n≤1000000000) (p:Nat) (kv:Value) (hg:S4 nm path=some (.pointer (some ⟨p,0,none⟩))) (W0:World) (H:List Grp) (hS:∀ y o,S y o→At W0 H y o) (hp:At W0 H p (.cells #[.slice (some ⟨b,off,none⟩) n cap,kv] 76 (0,0))):Tri Tryz.prog 13 #[pt d,.string path] W0 ([(d,.cells #[.int .i64 room,bv,.map (some nb),.map (some kb),.map (some cb),.bool fails,.bool once,.int .i64 calls] 72 (0,0))]::[(nb,.map (B2 nm) nc)]::H) (fun v H'=>∃ x g,v=.tuple #[x,.int .i64 0]∧Go.Sw.Own 5 1 x g n (u8s l)∧H'=g::([(d,.cells #[.int .i64 room,bv,.map (some nb),.map (some kb),.map (some cb),.bool fails,.bool once,.int .i64 calls] 72 (0,0))]::[(nb,.map (B2 nm) nc)]::H)):=by
 refine C8 (args:=[pt d,.string path]) (n:=22) Tryz.func13 rfl rfl (Nat.le_of_ble_eq_true rfl) ?_
 refine A1 (B4 (E':=[⟨0,[],pt d⟩,⟨1,[],.string path⟩]) [0,0] [0,1] (k:=?_))
 refine A0 (A1 ?_)
 refine A1 (G_p [0,0] [0,1,8] (k:=?_))
 refine A0 (I2 kr ?_)
 refine B5 (A0 ?_)
 refine A1 (A2 ?_)
 refine A7 (j:=3) [0,0,0] (k:=A5 (ch:=[]) (b:=d) (off:=2) (v:=.map (some nb)) (hA:=At.grp 0 0 rfl rfl) (k:=?_))
 refine A7 (j:=5) [0] (k:=L0 (ch:=[]) (kt:=9) (et:=74) (r:=nb) (c:=nc) (m:=nm) (k:=path) (z:=.pointer none) (ov:=(some (pt p))) (hA:=At.grp 1 0 rfl rfl) (hg:=(fun _=>hg)) (kk:=?_))
 refine D3 (E':=[⟨6,[],pt p⟩]) [0] [6] (k:=A0 ?_)
 refine A1 (A1 ?_)
 refine B4 (E':=[⟨6,[],pt p⟩,⟨16,[],.bool false⟩]) [0,0] [6,16] (k:=A0 ?_)
 refine I2 kr (B5 ?_)
 refine A0 (A1 ?_)
 refine A2 (A7 (j:=3) [0,0,0] (k:=?_))
 refine A5 (ch:=[]) (b:=p) (off:=0) (v:=.slice (some ⟨b,off,none⟩) n cap) (hA:=At.cons (At.cons hp)) (k:=G2 Tryz.func36 (vClone b off n cap S l hrd hl hn _ _ (fun y o h=>(At.cons (At.cons (hS y o h))))) ?_)
 rintro v3 _ ⟨g1,hO2,rfl⟩
 refine D3 (E':=[⟨4,[],v3⟩,⟨5,[],.int .i64 0⟩]) [0,0] [4,5] (k:=A0 ?_)
 refine C3 (C1 [.tmp 4,.tmp 5] [v3,.int .i64 0] (k:=?_))
 exact ⟨_,g1,rfl,hO2,rfl⟩
end Go.Proofs.YtlaoeiaaeifidaaGreat
namespace Go.Proofs.YtlaoeiaaeifidaaGreat
open Go.Sw Go.Lib Go.Vf Go.RowKit
theorem vNameNew (d nb kb cb q nc cc xc:Nat) (room calls:Int) (bv:Value) (fails once:Bool) (nm cm xm:SM) (dir:ByteArray) (hn:MapOk nm nc) (hx:MapOk xm xc) (hv:∀ e∈xm,e.2.1=.pointer none∨∃ p,e.2.1=.pointer (some ⟨p,0,none⟩)) (hg:S4 cm dir=none) (W0:World) (H:List Grp) (hA:At W0 H q (.map (B2 xm) xc)):Tri Tryz.prog 37 #[pt d,.string dir,.map (some q)] W0 ([(d,.cells #[.int .i64 room,bv,.map (some nb),.map (some kb),.map (some cb),.bool fails,.bool once,.int .i64 calls] 72 (0,0))]::[(nb,.map (B2 nm) nc)]::[(cb,.map (B2 cm) cc)]::H) (fun v H'=>∃ dn x g,dn.Perm xm∧Go.Sw.Own 80 1 x g 1 [.map (some q)]∧v=.tuple #[]∧H'=([(d,.cells #[.int .i64 room,bv,.map (some nb),.map (some kb),.map (some cb),.bool fails,.bool once,.int .i64 calls] 72 (0,0))]::[(nb,.map (B2 ((F9 (nm,nc) dn).1)) ((F9 (nm,nc) dn).2))]::[(cb,.map (B2 (I3 cm cc dir x)) (if J7 cm dir then cc else cc+1))]::g::H)):=by
 refine C8 (args:=[pt d,.string dir,.map (some q)]) (n:=26) Tryz.func37 rfl rfl (Nat.le_of_ble_eq_true rfl) ?_
 refine A1 (A2 ?_)
 refine A7 (j:=3) [0,0,0] (k:=A5 (ch:=[]) (b:=d) (off:=2) (v:=.map (some nb)) (hA:=At.grp 0 0 rfl rfl) (k:=?_))
 refine A7 (j:=5) [0] (k:=I5 rfl (H':=([(nb,.map (B2 nm) nc)]::[(d,.cells #[.int .i64 room,bv,.map (some nb),.map (some kb),.map (some cb),.bool fails,.bool once,.int .i64 calls] 72 (0,0))]::[(cb,.map (B2 cm) cc)]::H)) (fun w h=>(h.front (j:=1) rfl)) ?_)
 refine G2 Tryz.func72 (vApply nb q nc xc nm xm hn hx hv _ _ (At.cons (At.cons hA))) ?_
 rintro v H' ⟨dn1,hdn2,rfl,rfl⟩
 refine C4 [] [0,1,2] (k:=A0 ?_)
 refine D7 ([(nb,.map (B2 ((F9 (nm,nc) dn1).1)) ((F9 (nm,nc) dn1).2))]::[(d,.cells #[.int .i64 room,bv,.map (some nb),.map (some kb),.map (some cb),.bool fails,.bool once,.int .i64 calls] 72 (0,0))]::H) kr (D0 (fuel:=14) [(0,0)] (fun w h=>(h.erase 2)) (k:=?_))
 refine G0 (ad:=⟨d,0,none⟩) 1 (hL:=(fun w h=>(h.erase 2))) (k:=D0 (fuel:=12) [(2,0)] (fun w h=>(h.erase 2)) (k:=?_))
 refine A9 3 (hL:=(fun w h=>(h.erase 2))) (hy:=A5 (i:=3) (ch:=[]) (b:=d) (off:=4) (v:=.map (some cb)) (hA:=At.grp 1 0 rfl rfl) (k:=B1 kr rfl)) (k:=D0 (fuel:=9) [(4,0),(5,0)] (fun w h=>(h.erase 2)) (k:=?_))
 refine G0 (ad:=⟨d,0,none⟩) 6 (hL:=(fun w h=>(h.erase 2))) (k:=D0 (fuel:=7) [(7,0)] (fun w h=>(h.erase 2)) (k:=?_))
 refine A9 8 (hL:=(fun w h=>(h.erase 2))) (hy:=A5 (i:=8) (ch:=[]) (b:=d) (off:=4) (v:=.map (some cb)) (hA:=At.grp 1 0 rfl rfl) (k:=B1 kr rfl)) (k:=D0 (fuel:=4) [(9,0),(11,0)] (fun w h=>(h.erase 2)) (k:=?_))
 refine O0 10 12 (k:=?_) (k':=?_)
 ·
  refine L0 (ch:=[]) (kt:=9) (et:=118) (r:=cb) (c:=cc) (m:=cm) (k:=dir) (z:=.slice none 0 0) (ov:=none) (hA:=At.grp 2 0 rfl rfl) (hg:=(fun _=>hg)) (kk:=A6 kr (fun w h=>(h.erase 2)) ?_)
  refine B9 12 (k:=C2 (ch:=[]) (e:=80) (l:=[(0,.map (some q))]) (c:=[.map (some q)]) (k:=(fun b3=>?_)))
  refine A6 kr (fun w h=>((h.erase 3).erase 0)) (I0 ([(b3,.cells #[.map (some q)] 80 (0,0))]::[(nb,.map (B2 ((F9 (nm,nc) dn1).1)) ((F9 (nm,nc) dn1).2))]::[(d,.cells #[.int .i64 room,bv,.map (some nb),.map (some kb),.map (some cb),.bool fails,.bool once,.int .i64 calls] 72 (0,0))]::H) (fun w h=>(h.erase 0)) ?_)
  refine B9 13 (k:=I5 rfl (H':=([]::[(b3,.cells #[.map (some q)] 80 (0,0))]::[(nb,.map (B2 ((F9 (nm,nc) dn1).1)) ((F9 (nm,nc) dn1).2))]::[(d,.cells #[.int .i64 room,bv,.map (some nb),.map (some kb),.map (some cb),.bool fails,.bool once,.int .i64 calls] 72 (0,0))]::[(cb,.map (B2 cm) cc)]::H)) (fun w h=>h.flat (List.Perm.refl _)) ?_)
  refine E9 (i:=13) (ch:=[]) (t:=118) (tx:=118) (e:=80) (inf:=Tryz.t80) (s:=.slice none 0 0) (x:=.slice (some ⟨b3,0,none⟩) 1 1) (n:=0) (m:=1) (j:=0) (cs:=[]) (news:=[.map (some q)]) (g:=[]) (S:=(inG [(b3,.cells #[.map (some q)] 80 (0,0))])) rfl rfl rfl rfl kr kr kr rfl rfl (.inl ⟨80,kr⟩) (fun ⟨_,h⟩=>by cases h) (fun _=>⟨80,kr⟩) kr kr kr rfl Go.Sw.Own.nil (SrcOf.slice _ _ _ _ Rd.lit (fun h=>by cases h)) (C9 1 rfl) kr (by intro u hu; rcases List.mem_singleton.1 hu with rfl; rfl) (by omega) (by show (0+1) * 8≤140737488355328; omega) (fun v4 g5 hO6=>A6 kr (fun w h=>((h.erase 4).erase 0)) ?_)
  refine I0 (g5::[(b3,.cells #[.map (some q)] 80 (0,0))]::[(nb,.map (B2 ((F9 (nm,nc) dn1).1)) ((F9 (nm,nc) dn1).2))]::[(d,.cells #[.int .i64 room,bv,.map (some nb),.map (some kb),.map (some cb),.bool fails,.bool once,.int .i64 calls] 72 (0,0))]::H) (fun w h=>(h.erase 0)) (B9 14 (k:=?_))
  refine J8 (ch:=[]) (kt:=9) (et:=118) (r:=cb) (c:=cc) (j:=4) (q:=0) (m:=cm) (k:=dir) (v:=v4) (H':=(g5::[(b3,.cells #[.map (some q)] 80 (0,0))]::[(nb,.map (B2 ((F9 (nm,nc) dn1).1)) ((F9 (nm,nc) dn1).2))]::[(d,.cells #[.int .i64 room,bv,.map (some nb),.map (some kb),.map (some cb),.bool fails,.bool once,.int .i64 calls] 72 (0,0))]::[(cb,.map (B2 (I3 cm cc dir (v4))) (if J7 cm dir then cc else cc+1))]::H)) (hop:=.inl rfl) (kk:=A6 kr (fun w h=>(h.erase 4)) ?_)
  refine D8 (E':=[]) [] (k:=E0 (H':=([(d,.cells #[.int .i64 room,bv,.map (some nb),.map (some kb),.map (some cb),.bool fails,.bool once,.int .i64 calls] 72 (0,0))]::[(nb,.map (B2 ((F9 (nm,nc) dn1).1)) ((F9 (nm,nc) dn1).2))]::[(cb,.map (B2 (I3 cm cc dir (v4))) (if J7 cm dir then cc else cc+1))]::g5::H)) (fun w h=>((((h.front (j:=4) rfl).front (j:=3) rfl).front (j:=4) rfl).erase 4)) ?_)
  refine C1 [] [] (k:=?_)
  exact ⟨_,_,g5,hdn2,hO6,rfl,rfl⟩
 ·
  refine C2 (ch:=[]) (e:=80) (l:=[(0,.map (some q))]) (c:=[.map (some q)]) (k:=(fun b7=>?_))
  refine A6 kr (fun w h=>((h.erase 3).erase 0)) (I0 ([(b7,.cells #[.map (some q)] 80 (0,0))]::[(nb,.map (B2 ((F9 (nm,nc) dn1).1)) ((F9 (nm,nc) dn1).2))]::[(d,.cells #[.int .i64 room,bv,.map (some nb),.map (some kb),.map (some cb),.bool fails,.bool once,.int .i64 calls] 72 (0,0))]::H) (fun w h=>(h.erase 0)) ?_)
  refine B9 10 (k:=L0 (ch:=[]) (kt:=9) (et:=118) (r:=cb) (c:=cc) (m:=cm) (k:=dir) (z:=.slice none 0 0) (ov:=none) (hA:=At.grp 3 0 rfl rfl) (hg:=(fun _=>hg)) (kk:=?_))
  refine A6 kr (fun w h=>(h.erase 3)) (B9 13 (k:=?_))
  refine I5 rfl (H':=([]::[(b7,.cells #[.map (some q)] 80 (0,0))]::[(nb,.map (B2 ((F9 (nm,nc) dn1).1)) ((F9 (nm,nc) dn1).2))]::[(d,.cells #[.int .i64 room,bv,.map (some nb),.map (some kb),.map (some cb),.bool fails,.bool once,.int .i64 calls] 72 (0,0))]::[(cb,.map (B2 cm) cc)]::H)) (fun w h=>h.flat (List.Perm.refl _)) (E9 (i:=13) (ch:=[]) (t:=118) (tx:=118) (e:=80) (inf:=Tryz.t80) (s:=.slice none 0 0) (x:=.slice (some ⟨b7,0,none⟩) 1 1) (n:=0) (m:=1) (j:=0) (cs:=[]) (news:=[.map (some q)]) (g:=[]) (S:=(inG [(b7,.cells #[.map (some q)] 80 (0,0))])) rfl rfl rfl rfl kr kr kr rfl rfl (.inl ⟨80,kr⟩) (fun ⟨_,h⟩=>by cases h) (fun _=>⟨80,kr⟩) kr kr kr rfl Go.Sw.Own.nil (SrcOf.slice _ _ _ _ Rd.lit (fun h=>by cases h)) (C9 1 rfl) kr (by intro u hu; rcases List.mem_singleton.1 hu with rfl; rfl) (by omega) (by show (0+1) * 8≤140737488355328; omega) (fun v8 g9 hO10=>?_))
  refine A6 kr (fun w h=>((h.erase 4).erase 0)) (I0 (g9::[(b7,.cells #[.map (some q)] 80 (0,0))]::[(nb,.map (B2 ((F9 (nm,nc) dn1).1)) ((F9 (nm,nc) dn1).2))]::[(d,.cells #[.int .i64 room,bv,.map (some nb),.map (some kb),.map (some cb),.bool fails,.bool once,.int .i64 calls] 72 (0,0))]::H) (fun w h=>(h.erase 0)) ?_)
  refine B9 14 (k:=J8 (ch:=[]) (kt:=9) (et:=118) (r:=cb) (c:=cc) (j:=4) (q:=0) (m:=cm) (k:=dir) (v:=v8) (H':=(g9::[(b7,.cells #[.map (some q)] 80 (0,0))]::[(nb,.map (B2 ((F9 (nm,nc) dn1).1)) ((F9 (nm,nc) dn1).2))]::[(d,.cells #[.int .i64 room,bv,.map (some nb),.map (some kb),.map (some cb),.bool fails,.bool once,.int .i64 calls] 72 (0,0))]::[(cb,.map (B2 (I3 cm cc dir (v8))) (if J7 cm dir then cc else cc+1))]::H)) (hop:=.inl rfl) (kk:=?_))
  refine A6 kr (fun w h=>(h.erase 4)) (D8 (E':=[]) [] (k:=?_))
  refine E0 (H':=([(d,.cells #[.int .i64 room,bv,.map (some nb),.map (some kb),.map (some cb),.bool fails,.bool once,.int .i64 calls] 72 (0,0))]::[(nb,.map (B2 ((F9 (nm,nc) dn1).1)) ((F9 (nm,nc) dn1).2))]::[(cb,.map (B2 (I3 cm cc dir (v8))) (if J7 cm dir then cc else cc+1))]::g9::H)) (fun w h=>((((h.front (j:=4) rfl).front (j:=3) rfl).front (j:=4) rfl).erase 4)) (C1 [] [] (k:=?_))
  exact ⟨_,_,g9,hdn2,hO10,rfl,rfl⟩
end Go.Proofs.YtlaoeiaaeifidaaGreat
namespace Go.Proofs.YtlaoeiaaeifidaaGreat
open Go.Sw Go.Lib Go.Vf Go.RowKit
theorem vSyncNo (d nb kb cb nc:Nat) (room calls:Int) (bv:Value) (fails once:Bool) (nm:SM) (path:ByteArray) (hpath:path.size≤9223372036854775807) (hca:-9223372036854775808≤calls∧calls≤9223372036854775807) (hg:S4 nm path=none) (W0:World) (H:List Grp):Tri Tryz.prog 86 #[pt d,.string path] W0 ([(d,.cells #[.int .i64 room,bv,.map (some nb),.map (some kb),.map (some cb),.bool fails,.bool once,.int .i64 calls] 72 (0,0))]::[(nb,.map (B2 nm) nc)]::H) (fun v H'=>((B6 fails once calls (A3 path)).1≠0∧v=.int .i64 (B6 fails once calls (A3 path)).1∧H'=([(d,.cells #[.int .i64 room,bv,.map (some nb),.map (some kb),.map (some cb),.bool ((B6 fails once calls (A3 path)).2.1),.bool once,.int .i64 ((B6 fails once calls (A3 path)).2.2)] 72 (0,0))]::[(nb,.map (B2 nm) nc)]::H))∨((B6 fails once calls (A3 path)).1=0∧v=.int .i64 60∧H'=([(d,.cells #[.int .i64 room,bv,.map (some nb),.map (some kb),.map (some cb),.bool ((B6 fails once calls (A3 path)).2.1),.bool once,.int .i64 ((B6 fails once calls (A3 path)).2.2)] 72 (0,0))]::[(nb,.map (B2 nm) nc)]::H))):=by
 refine C8 (args:=[pt d,.string path]) (n:=29) Tryz.func86 rfl rfl (Nat.le_of_ble_eq_true rfl) ?_
 refine A1 (B4 (E':=[⟨0,[],pt d⟩,⟨1,[],.string path⟩]) [0] [0,1] (k:=?_))
 refine A0 (A1 ?_)
 refine A1 (A2 ?_)
 refine A7 (j:=2) [0,0] (k:=F6 (vs:=[.string path]) Tryz.func34 (T2 _ hpath _ _) ?_)
 refine G2 Tryz.func33 (vCall d nb kb cb room calls bv fails once (A3 path) hca _ _) ?_
 rintro v H' ⟨rfl,rfl⟩
 refine C4 [0] [0,1,5] (k:=A0 ?_)
 refine A1 (G_p [0,0] [0,1,5,12] (k:=?_))
 refine A0 (C6 (b:=((B6 fails once calls (A3 path)).1) != 0) kr (fun hc1=>?_) (fun hc1=>?_))
 ·
  have hce:(B6 fails once calls (A3 path)).1≠0:=by simpa using hc1
  refine A1 (G_p [0,0] [4] (k:=?_))
  refine A0 (C3 ?_)
  refine B3 (C1 [.tmp 4] [.int .i64 ((B6 fails once calls (A3 path)).1)] (k:=?_))
  exact .inl ⟨hce,rfl,rfl⟩
 ·
  have hce:(B6 fails once calls (A3 path)).1=0:=by simpa using hc1
  refine B5 (A0 ?_)
  refine A1 (A2 ?_)
  refine A7 (j:=3) [0,0,0] (k:=A5 (ch:=[]) (b:=d) (off:=2) (v:=.map (some nb)) (hA:=At.grp 0 0 rfl rfl) (k:=?_))
  refine A7 (j:=5) [0] (k:=L0 (ch:=[]) (kt:=9) (et:=74) (r:=nb) (c:=nc) (m:=nm) (k:=path) (z:=.pointer none) (ov:=none) (hA:=At.grp 1 0 rfl rfl) (hg:=(fun _=>hg)) (kk:=?_))
  refine D3 (E':=[⟨6,[],.pointer none⟩]) [0] [6] (k:=A0 ?_)
  refine A1 (A1 ?_)
  refine G_p [0,0] [6,21] (k:=A0 ?_)
  refine I1 kr (A1 ?_)
  refine B4 (E':=[⟨4,[],.int .i64 60⟩]) [0] [4] (k:=A0 ?_)
  refine C3 (B3 ?_)
  refine C1 [.tmp 4] [.int .i64 60] (k:=?_)
  exact .inr ⟨hce,rfl,rfl⟩
theorem vSyncYes (d nb kb cb nc:Nat) (room calls:Int) (bv:Value) (fails once:Bool) (nm:SM) (path:ByteArray) (hpath:path.size≤9223372036854775807) (hca:-9223372036854775808≤calls∧calls≤9223372036854775807) (p n cn m ck:Nat) (an ak:Option Addr) (hg:S4 nm path=some (.pointer (some ⟨p,0,none⟩))) (W0:World) (H:List Grp):Tri Tryz.prog 86 #[pt d,.string path] W0 ([(d,.cells #[.int .i64 room,bv,.map (some nb),.map (some kb),.map (some cb),.bool fails,.bool once,.int .i64 calls] 72 (0,0))]::[(nb,.map (B2 nm) nc)]::[(p,.cells #[.slice an n cn,.slice ak m ck] 76 (0,0))]::H) (fun v H'=>((B6 fails once calls (A3 path)).1≠0∧v=.int .i64 (B6 fails once calls (A3 path)).1∧H'=([(d,.cells #[.int .i64 room,bv,.map (some nb),.map (some kb),.map (some cb),.bool ((B6 fails once calls (A3 path)).2.1),.bool once,.int .i64 ((B6 fails once calls (A3 path)).2.2)] 72 (0,0))]::[(nb,.map (B2 nm) nc)]::[(p,.cells #[.slice an n cn,.slice ak m ck] 76 (0,0))]::H))∨((B6 fails once calls (A3 path)).1=0∧v=.int .i64 0∧H'=([(d,.cells #[.int .i64 room,bv,.map (some nb),.map (some kb),.map (some cb),.bool ((B6 fails once calls (A3 path)).2.1),.bool once,.int .i64 ((B6 fails once calls (A3 path)).2.2)] 72 (0,0))]::[(nb,.map (B2 nm) nc)]::[(p,.cells #[.slice an n cn,.slice an n cn] 76 (0,0))]::H))):=by
 refine C8 (args:=[pt d,.string path]) (n:=29) Tryz.func86 rfl rfl (Nat.le_of_ble_eq_true rfl) ?_
 refine A1 (B4 (E':=[⟨0,[],pt d⟩,⟨1,[],.string path⟩]) [0] [0,1] (k:=?_))
 refine A0 (A1 ?_)
 refine A1 (A2 ?_)
 refine A7 (j:=2) [0,0] (k:=F6 (vs:=[.string path]) Tryz.func34 (T2 _ hpath _ _) ?_)
 refine G2 Tryz.func33 (vCall d nb kb cb room calls bv fails once (A3 path) hca _ _) ?_
 rintro v H' ⟨rfl,rfl⟩
 refine C4 [0] [0,1,5] (k:=A0 ?_)
 refine A1 (G_p [0,0] [0,1,5,12] (k:=?_))
 refine A0 (C6 (b:=((B6 fails once calls (A3 path)).1) != 0) kr (fun hc1=>?_) (fun hc1=>?_))
 ·
  have hce:(B6 fails once calls (A3 path)).1≠0:=by simpa using hc1
  refine A1 (G_p [0,0] [4] (k:=?_))
  refine A0 (C3 ?_)
  refine B3 (C1 [.tmp 4] [.int .i64 ((B6 fails once calls (A3 path)).1)] (k:=?_))
  exact .inl ⟨hce,rfl,rfl⟩
 ·
  have hce:(B6 fails once calls (A3 path)).1=0:=by simpa using hc1
  refine B5 (A0 ?_)
  refine A1 (A2 ?_)
  refine A7 (j:=3) [0,0,0] (k:=A5 (ch:=[]) (b:=d) (off:=2) (v:=.map (some nb)) (hA:=At.grp 0 0 rfl rfl) (k:=?_))
  refine A7 (j:=5) [0] (k:=L0 (ch:=[]) (kt:=9) (et:=74) (r:=nb) (c:=nc) (m:=nm) (k:=path) (z:=.pointer none) (ov:=(some (pt p))) (hA:=At.grp 1 0 rfl rfl) (hg:=(fun _=>hg)) (kk:=?_))
  refine D3 (E':=[⟨6,[],pt p⟩]) [0] [6] (k:=A0 ?_)
  refine A1 (A1 ?_)
  refine B4 (E':=[⟨6,[],pt p⟩,⟨21,[],.bool false⟩]) [0,0] [6,21] (k:=A0 ?_)
  refine I2 kr (B5 ?_)
  refine A0 (A1 ?_)
  refine A2 (A7 (j:=4) [0,0,0,0] (k:=?_))
  refine A5 (ch:=[]) (b:=p) (off:=0) (v:=.slice an n cn) (hA:=At.grp 2 0 rfl rfl) (k:=A7 (j:=7) [0,0] (k:=?_))
  refine G4 (ch:=[]) (b:=p) (off:=1) (v:=.slice an n cn) (j:=2) ([(d,.cells #[.int .i64 room,bv,.map (some nb),.map (some kb),.map (some cb),.bool ((B6 fails once calls (A3 path)).2.1),.bool once,.int .i64 ((B6 fails once calls (A3 path)).2.2)] 72 (0,0))]::[(nb,.map (B2 nm) nc)]::[(p,.cells #[.slice an n cn,.slice an n cn] 76 (0,0))]::H) (hoff:=Nat.le_of_ble_eq_true rfl) (hfz:=(fun _ _=>F0)) (k:=D3 (E':=[]) [] [] (k:=?_))
  refine A0 (A1 ?_)
  refine B4 (E':=[⟨4,[],.int .i64 0⟩]) [0] [4] (k:=A0 ?_)
  refine C3 (C1 [.tmp 4] [.int .i64 0] (k:=?_))
  exact .inr ⟨hce,rfl,rfl⟩
theorem vSyncDirNo (d nb kb cb kc cc:Nat) (room calls:Int) (bv:Value) (fails once:Bool) (km cm:SM) (dir:ByteArray) (hdir:dir.size≤9223372036854775807) (hca:-9223372036854775808≤calls∧calls≤9223372036854775807) (hk:MapOk km kc) (hg:S4 cm dir=none) (W0:World) (H:List Grp):Tri Tryz.prog 87 #[pt d,.string dir] W0 ([(d,.cells #[.int .i64 room,bv,.map (some nb),.map (some kb),.map (some cb),.bool fails,.bool once,.int .i64 calls] 72 (0,0))]::[(kb,.map (B2 km) kc)]::[(cb,.map (B2 cm) cc)]::H) (fun v H'=>((B6 fails once calls ((dir.toList==(ByteArray.mk #[]).toList)||H0 dir)).1≠0∧v=.int .i64 (B6 fails once calls ((dir.toList==(ByteArray.mk #[]).toList)||H0 dir)).1∧H'=([(d,.cells #[.int .i64 room,bv,.map (some nb),.map (some kb),.map (some cb),.bool ((B6 fails once calls ((dir.toList==(ByteArray.mk #[]).toList)||H0 dir)).2.1),.bool once,.int .i64 ((B6 fails once calls ((dir.toList==(ByteArray.mk #[]).toList)||H0 dir)).2.2)] 72 (0,0))]::[(kb,.map (B2 km) kc)]::[(cb,.map (B2 cm) cc)]::H))∨((B6 fails once calls ((dir.toList==(ByteArray.mk #[]).toList)||H0 dir)).1=0∧v=.int .i64 0∧H'=([(d,.cells #[.int .i64 room,bv,.map (some nb),.map (some kb),.map (some cb),.bool ((B6 fails once calls ((dir.toList==(ByteArray.mk #[]).toList)||H0 dir)).2.1),.bool once,.int .i64 ((B6 fails once calls ((dir.toList==(ByteArray.mk #[]).toList)||H0 dir)).2.2)] 72 (0,0))]::[(kb,.map (B2 km) kc)]::[(cb,.map (B2 (mdel cm dir)) cc)]::H))):=by
 refine C8 (args:=[pt d,.string dir]) (n:=42) Tryz.func87 rfl rfl (Nat.le_of_ble_eq_true rfl) ?_
 refine A1 (B4 (E':=[⟨0,[],pt d⟩,⟨1,[],.string dir⟩]) [0] [0,1] (k:=?_))
 refine A0 (A1 ?_)
 refine A1 (A2 ?_)
 refine A7 (j:=5) [0,0,0,0,0] (k:=J9 (ch:=[(11,false)]) (f:=76) (fst:=#[]) (caps:=#[]) (vs:=[.string dir]) (v:=.bool (H0 dir)) (hf:=Tryz.func76) (hc:=(fun hc=>vfsPart _ hdir _ _)) (k:=?_))
 refine A7 (j:=7) [5] (k:=G2 Tryz.func33 (vCall d nb kb cb room calls bv fails once ((dir.toList==(ByteArray.mk #[]).toList)||(H0 dir)) hca _ _) ?_)
 rintro v H' ⟨rfl,rfl⟩
 refine C4 [0] [0,1,5] (k:=A0 ?_)
 refine A1 (G_p [0,0] [0,1,5,17] (k:=?_))
 refine A0 (C6 (b:=((B6 fails once calls ((dir.toList==(ByteArray.mk #[]).toList)||(H0 dir))).1) != 0) kr (fun hc1=>?_) (fun hc1=>?_))
 ·
  have hce:(B6 fails once calls ((dir.toList==(ByteArray.mk #[]).toList)||H0 dir)).1≠0:=by simpa using hc1
  refine A1 (G_p [0,0] [4] (k:=?_))
  refine A0 (C3 ?_)
  refine B3 (C1 [.tmp 4] [.int .i64 ((B6 fails once calls ((dir.toList==(ByteArray.mk #[]).toList)||(H0 dir))).1)] (k:=?_))
  exact .inl ⟨hce,rfl,rfl⟩
 ·
  have hce:(B6 fails once calls ((dir.toList==(ByteArray.mk #[]).toList)||H0 dir)).1=0:=by simpa using hc1
  refine B5 (A0 ?_)
  refine A1 (A1 ?_)
  refine A2 (A7 (j:=3) [0,0,0] (k:=?_))
  refine A5 (ch:=[]) (b:=d) (off:=4) (v:=.map (some cb)) (hA:=At.grp 0 0 rfl rfl) (k:=A7 (j:=5) [0] (k:=?_))
  refine L0 (ch:=[]) (kt:=9) (et:=118) (r:=cb) (c:=cc) (m:=cm) (k:=dir) (z:=.slice none 0 0) (ov:=none) (hA:=At.grp 2 0 rfl rfl) (hg:=(fun _=>hg)) (kk:=C4 [0,0] [0,1,24,25,26] (k:=?_))
  refine A0 (C5 ?_)
  refine I8 (EI:=(fun ξ:Unit=>[⟨0,[],pt d⟩,⟨1,[],.string dir⟩,⟨24,[],.slice none 0 0⟩,⟨25,[],.int .i64 0⟩,⟨26,[],.int .i64 0⟩])) (HI:=(fun ξ:Unit=>([(d,.cells #[.int .i64 room,bv,.map (some nb),.map (some kb),.map (some cb),.bool ((B6 fails once calls ((dir.toList==(ByteArray.mk #[]).toList)||(H0 dir))).2.1),.bool once,.int .i64 ((B6 fails once calls ((dir.toList==(ByteArray.mk #[]).toList)||(H0 dir))).2.2)] 72 (0,0))]::[(kb,.map (B2 km) kc)]::[(cb,.map (B2 cm) cc)]::H))) (Φ:=(fun ξ:Unit=>True)) (μ:=(fun ξ:Unit=>0)) (s0:=(())) [0,1,24,25,26] kr rfl trivial ?_
  rintro u _
  refine A1 (G_p [0] [0,1,24,25,26,27] (k:=?_))
  refine A0 (A1 ?_)
  refine I2 kr (G6 ?_)
  refine A8 (A8 ?_)
  refine C7 (A0 ?_)
  refine A1 (A2 ?_)
  refine A7 (j:=3) [0,0,0] (k:=A5 (ch:=[]) (b:=d) (off:=4) (v:=.map (some cb)) (hA:=At.grp 0 0 rfl rfl) (k:=?_))
  refine A7 (j:=5) [0] (k:=GL_delete (ch:=[]) (ts:=#[69,9]) (t:=69) (kt:=9) (et:=118) (r:=cb) (c:=cc) (j:=2) (q:=0) (m:=cm) (k:=dir) (H':=([(d,.cells #[.int .i64 room,bv,.map (some nb),.map (some kb),.map (some cb),.bool ((B6 fails once calls ((dir.toList==(ByteArray.mk #[]).toList)||(H0 dir))).2.1),.bool once,.int .i64 ((B6 fails once calls ((dir.toList==(ByteArray.mk #[]).toList)||(H0 dir))).2.2)] 72 (0,0))]::[(kb,.map (B2 km) kc)]::[(cb,.map (B2 (mdel cm dir)) cc)]::H)) (kk:=?_))
  refine D3 (E':=[]) [] [] (k:=A0 ?_)
  refine A1 (B4 (E':=[⟨4,[],.int .i64 0⟩]) [0] [4] (k:=?_))
  refine A0 (C3 ?_)
  refine C1 [.tmp 4] [.int .i64 0] (k:=?_)
  exact .inr ⟨hce,rfl,rfl⟩
end Go.Proofs.YtlaoeiaaeifidaaGreat
namespace Go.Proofs.YtlaoeiaaeifidaaGreat
open Go.Sw Go.Lib Go.Vf Go.RowKit
theorem vSyncDir (d nb kb cb kc cc:Nat) (room calls:Int) (bv:Value) (fails once:Bool) (km cm:SM) (dir:ByteArray) (hdir:dir.size≤9223372036854775807) (hca:-9223372036854775808≤calls∧calls≤9223372036854775807) (hk:MapOk km kc) (ra:Option Addr) (rc:Nat) (S:Nat→Obj→Prop) (qs:List Nat) (xs:List SM) (xcs:List Nat) (hl:xs.length=qs.length) (hq:qs.length≤1000000) (hrd:Rd S ra (qs.map fun q=>Value.map (some q))) (hg:S4 cm dir=some (.slice ra qs.length rc)) (W0:World) (H:List Grp) (hS:∀ y o,S y o→At W0 H y o) (hAll:∀ i,i<qs.length→At W0 H (qs.getD i 0) (.map (B2 (xs.getD i [])) (xcs.getD i 0))∧MapOk (xs.getD i []) (xcs.getD i 0)∧∀ e∈xs.getD i [],e.2.1=.pointer none∨∃ p,e.2.1=.pointer (some ⟨p,0,none⟩)):Tri Tryz.prog 87 #[pt d,.string dir] W0 ([(d,.cells #[.int .i64 room,bv,.map (some nb),.map (some kb),.map (some cb),.bool fails,.bool once,.int .i64 calls] 72 (0,0))]::[(kb,.map (B2 km) kc)]::[(cb,.map (B2 cm) cc)]::H) (fun v H'=>((B6 fails once calls ((dir.toList==(ByteArray.mk #[]).toList)||H0 dir)).1≠0∧v=.int .i64 (B6 fails once calls ((dir.toList==(ByteArray.mk #[]).toList)||H0 dir)).1∧H'=([(d,.cells #[.int .i64 room,bv,.map (some nb),.map (some kb),.map (some cb),.bool ((B6 fails once calls ((dir.toList==(ByteArray.mk #[]).toList)||H0 dir)).2.1),.bool once,.int .i64 ((B6 fails once calls ((dir.toList==(ByteArray.mk #[]).toList)||H0 dir)).2.2)] 72 (0,0))]::[(kb,.map (B2 km) kc)]::[(cb,.map (B2 cm) cc)]::H))∨((B6 fails once calls ((dir.toList==(ByteArray.mk #[]).toList)||H0 dir)).1=0∧v=.int .i64 0∧∃ km1 kc1,MadeOf xs (km,kc) (km1,kc1)∧H'=([(d,.cells #[.int .i64 room,bv,.map (some nb),.map (some kb),.map (some cb),.bool ((B6 fails once calls ((dir.toList==(ByteArray.mk #[]).toList)||H0 dir)).2.1),.bool once,.int .i64 ((B6 fails once calls ((dir.toList==(ByteArray.mk #[]).toList)||H0 dir)).2.2)] 72 (0,0))]::[(kb,.map (B2 km1) kc1)]::[(cb,.map (B2 (mdel cm dir)) cc)]::H))):=by
 refine C8 (args:=[pt d,.string dir]) (n:=42) Tryz.func87 rfl rfl (Nat.le_of_ble_eq_true rfl) ?_
 refine A1 (B4 (E':=[⟨0,[],pt d⟩,⟨1,[],.string dir⟩]) [0] [0,1] (k:=?_))
 refine A0 (A1 ?_)
 refine A1 (A2 ?_)
 refine A7 (j:=5) [0,0,0,0,0] (k:=J9 (ch:=[(11,false)]) (f:=76) (fst:=#[]) (caps:=#[]) (vs:=[.string dir]) (v:=.bool (H0 dir)) (hf:=Tryz.func76) (hc:=(fun hc=>vfsPart _ hdir _ _)) (k:=?_))
 refine A7 (j:=7) [5] (k:=G2 Tryz.func33 (vCall d nb kb cb room calls bv fails once ((dir.toList==(ByteArray.mk #[]).toList)||(H0 dir)) hca _ _) ?_)
 rintro v H' ⟨rfl,rfl⟩
 refine C4 [0] [0,1,5] (k:=A0 ?_)
 refine A1 (G_p [0,0] [0,1,5,17] (k:=?_))
 refine A0 (C6 (b:=((B6 fails once calls ((dir.toList==(ByteArray.mk #[]).toList)||(H0 dir))).1) != 0) kr (fun hc1=>?_) (fun hc1=>?_))
 ·
  have hce:(B6 fails once calls ((dir.toList==(ByteArray.mk #[]).toList)||H0 dir)).1≠0:=by simpa using hc1
  refine A1 (G_p [0,0] [4] (k:=?_))
  refine A0 (C3 ?_)
  refine B3 (C1 [.tmp 4] [.int .i64 ((B6 fails once calls ((dir.toList==(ByteArray.mk #[]).toList)||(H0 dir))).1)] (k:=?_))
  exact .inl ⟨hce,rfl,rfl⟩
 ·
  have hce:(B6 fails once calls ((dir.toList==(ByteArray.mk #[]).toList)||H0 dir)).1=0:=by simpa using hc1
  refine B5 (A0 ?_)
  refine A1 (A1 ?_)
  refine A2 (A7 (j:=3) [0,0,0] (k:=?_))
  refine A5 (ch:=[]) (b:=d) (off:=4) (v:=.map (some cb)) (hA:=At.grp 0 0 rfl rfl) (k:=A7 (j:=5) [0] (k:=?_))
  refine L0 (ch:=[]) (kt:=9) (et:=118) (r:=cb) (c:=cc) (m:=cm) (k:=dir) (z:=.slice none 0 0) (ov:=(some (.slice ra qs.length rc))) (hA:=At.grp 2 0 rfl rfl) (hg:=(fun _=>hg)) (kk:=C4 [0,0] [0,1,24,25,26] (k:=?_))
  refine A0 (C5 ?_)
  refine I8 (EI:=(fun ξ:Nat × SM × Nat=>[⟨0,[],pt d⟩,⟨1,[],.string dir⟩,⟨24,[],.slice ra qs.length rc⟩,⟨25,[],.int .i64 ((qs.length:Nat):Int)⟩,⟨26,[],.int .i64 ((ξ.1:Nat):Int)⟩])) (HI:=(fun ξ:Nat × SM × Nat=>([(d,.cells #[.int .i64 room,bv,.map (some nb),.map (some kb),.map (some cb),.bool ((B6 fails once calls ((dir.toList==(ByteArray.mk #[]).toList)||H0 dir)).2.1),.bool once,.int .i64 ((B6 fails once calls ((dir.toList==(ByteArray.mk #[]).toList)||H0 dir)).2.2)] 72 (0,0))]::[(kb,.map (B2 ξ.2.1) ξ.2.2)]::[(cb,.map (B2 cm) cc)]::H))) (Φ:=(fun ξ:Nat × SM × Nat=>(ξ.1≤qs.length)∧(MadeOf (xs.take ξ.1) (km,kc) (ξ.2.1,ξ.2.2)))) (μ:=(fun ξ:Nat × SM × Nat=>qs.length - ξ.1)) (s0:=(0,km,kc)) [0,1,24,25,26] kr (by rfl) ⟨(by omega),(by rfl)⟩ ?_
  rintro ⟨k,km1,kc1⟩ ⟨hkk,hR⟩
  refine A1 (G_p [0] [0,1,24,25,26,27] (k:=?_))
  refine A0 (A1 ?_)
  refine C6 (b:=decide (((k:Nat):Int)<((qs.length:Nat):Int))) kr (fun hc2=>?_) (fun hc2=>?_)
  ·
   simp at hc2
   refine B5 (A0 ?_)
   refine A1 (C5 ?_)
   refine A1 (A2 ?_)
   refine B7 (ch:=[]) (a:=ra) (len:=qs.length) (cap:=rc) (kd:=.i64) (j:=((k:Nat):Int)) (e:=80) (sz:=1) (S:=S) (cs:=(qs.map fun q=>Value.map (some q))) (hrd:=hrd) (hb:=(fun _=>by exact ⟨by omega,by omega,maps_ne (k:=k) (by omega)⟩)) (k:=D4 (ch:=[]) (a:=ra) (q:=k * 1) (S:=S) (cs:=(qs.map fun q=>Value.map (some q))) (v:=.map (some (qs.getD k 0))) (hrd:=hrd) (hS:=(fun y o h=>(At.cons (At.cons (At.cons (hS y o h)))))) (hv:=(fun _=>(by rw [Nat.mul_one]; exact map_at (by omega)))) (k:=?_))
   refine C4 [0] [0,1,7,24,25,26] (k:=A0 ?_)
   refine A2 (A7 (j:=3) [0,0,0] (k:=?_))
   refine A5 (ch:=[]) (b:=d) (off:=3) (v:=.map (some kb)) (hA:=At.grp 0 0 rfl rfl) (k:=A7 (j:=5) [0] (k:=?_))
   refine I5 rfl (H':=([(kb,.map (B2 km1) kc1)]::[(d,.cells #[.int .i64 room,bv,.map (some nb),.map (some kb),.map (some cb),.bool ((B6 fails once calls ((dir.toList==(ByteArray.mk #[]).toList)||H0 dir)).2.1),.bool once,.int .i64 ((B6 fails once calls ((dir.toList==(ByteArray.mk #[]).toList)||H0 dir)).2.2)] 72 (0,0))]::[(cb,.map (B2 cm) cc)]::H)) (fun w h=>(h.front (j:=1) rfl)) (G2 Tryz.func72 (vApply kb (qs.getD k 0) kc1 (xcs.getD k 0) km1 (xs.getD k []) (made_ok hR hk) (hAll k (by omega)).2.1 (hAll k (by omega)).2.2 _ _ (At.cons (At.cons (hAll k (by omega)).1))) ?_)
   rintro v H' ⟨dn3,hdn4,rfl,rfl⟩
   refine C4 [] [0,1,24,25,26] (k:=D5 ?_)
   refine A0 (A2 ?_)
   refine A7 (j:=1) [0] (k:=F2 36 (((k:Nat):Int)+1) (by omega) (by omega) kr ?_)
   refine C4 [0] [0,1,24,25,26] (k:=E0 (H':=([(d,.cells #[.int .i64 room,bv,.map (some nb),.map (some kb),.map (some cb),.bool ((B6 fails once calls ((dir.toList==(ByteArray.mk #[]).toList)||H0 dir)).2.1),.bool once,.int .i64 ((B6 fails once calls ((dir.toList==(ByteArray.mk #[]).toList)||H0 dir)).2.2)] 72 (0,0))]::[(kb,.map (B2 ((F9 (km1,kc1) dn3).1)) ((F9 (km1,kc1) dn3).2))]::[(cb,.map (B2 cm) cc)]::H)) (fun w h=>(((h.front (j:=2) rfl).front (j:=1) rfl).front (j:=2) rfl)) ?_)
   refine E5 (s':=(k+1,(F9 (km1,kc1) dn3).1,(F9 (km1,kc1) dn3).2)) [0,1,24,25,26] kr rfl ⟨(by omega),(by rw [K8 (d:=[]) (by omega)]; exact made_snoc hdn4 hR)⟩ (by omega)
  ·
   simp at hc2
   refine G6 (A8 ?_)
   refine A8 (C7 ?_)
   refine A0 (A1 ?_)
   refine A2 (A7 (j:=3) [0,0,0] (k:=?_))
   refine A5 (ch:=[]) (b:=d) (off:=4) (v:=.map (some cb)) (hA:=At.grp 0 0 rfl rfl) (k:=A7 (j:=5) [0] (k:=?_))
   refine GL_delete (ch:=[]) (ts:=#[69,9]) (t:=69) (kt:=9) (et:=118) (r:=cb) (c:=cc) (j:=2) (q:=0) (m:=cm) (k:=dir) (H':=([(d,.cells #[.int .i64 room,bv,.map (some nb),.map (some kb),.map (some cb),.bool ((B6 fails once calls ((dir.toList==(ByteArray.mk #[]).toList)||H0 dir)).2.1),.bool once,.int .i64 ((B6 fails once calls ((dir.toList==(ByteArray.mk #[]).toList)||H0 dir)).2.2)] 72 (0,0))]::[(kb,.map (B2 km1) kc1)]::[(cb,.map (B2 (mdel cm dir)) cc)]::H)) (kk:=D3 (E':=[]) [] [] (k:=?_))
   refine A0 (A1 ?_)
   refine B4 (E':=[⟨4,[],.int .i64 0⟩]) [0] [4] (k:=A0 ?_)
   refine C3 (C1 [.tmp 4] [.int .i64 0] (k:=?_))
   have hkl:k=xs.length:=by omega
   rw [hkl,List.take_length] at hR
   exact .inr ⟨hce,rfl,km1,kc1,hR,rfl⟩
theorem vNext0 (kp cap:Nat) (a:Option Addr) (n:Int) (hn:0<n∧n≤1000000000000) (W0:World) (H:List Grp):Tri Tryz.prog 69 #[.int .i64 n,pt kp] W0 ([(kp,.cells #[.slice a 0 cap] 49 (0,0))]::H) (fun v H'=>v=.int .i64 (F1 0 n)∧H'=([(kp,.cells #[.slice a 0 cap] 49 (0,0))]::H)):=by
 refine C8 (args:=[.int .i64 n,pt kp]) (n:=20) Tryz.func69 rfl rfl (Nat.le_of_ble_eq_true rfl) ?_
 refine A1 (B4 (E':=[⟨0,[],.int .i64 n⟩,⟨1,[],pt kp⟩]) [0] [0,1] (k:=?_))
 refine A0 (A1 ?_)
 refine G_p [0] [0,1,4] (k:=A0 ?_)
 refine A1 (A1 ?_)
 refine A2 (A5 (ch:=[]) (b:=kp) (off:=0) (v:=.slice a 0 cap) (hA:=At.grp 0 0 rfl rfl) (k:=?_))
 refine C4 [0,0] [0,1,4,7] (k:=A0 ?_)
 refine I2 kr (B5 ?_)
 refine A0 (A1 ?_)
 refine A2 (A7 (j:=2) [0,0] (k:=?_))
 refine GL_rem (ch:=[]) (kd:=.i64) (a:=0) (b:=n) (hb:=(fun _=>by omega)) (k:=A7 (j:=6) [0,0,0] (k:=?_))
 refine GL_rem (ch:=[]) (kd:=.i64) (a:=IntKind.wrap .i64 ((Int.tmod 0 n)+n)) (b:=n) (hb:=(fun _=>by omega)) (k:=C4 [0] [3] (k:=?_))
 refine A0 (C3 ?_)
 refine C1 [.tmp 3] [.int .i64 (Int.tmod (IntKind.wrap .i64 ((Int.tmod 0 n)+n)) n)] (k:=?_)
 exact ⟨by rw [next_is hn.1 hn.2 (by omega) (by omega)]; rfl,rfl⟩
theorem vNext (kp:Nat) (n:Int) (hn:0<n∧n≤1000000000000) (a:Option Addr) (m cap:Nat) (S:Nat→Obj→Prop) (k:Int) (hk:-9223372036854775808≤k∧k≤9223372036854775807) (r:List Int) (hm:m=r.length+1) (hc:m≤cap) (hm2:m≤1000000000) (hrd:Rd S a ((k::r).map (Value.int .i64))) (W0:World) (H:List Grp) (hS:∀ y o,S y o→At W0 H y o):Tri Tryz.prog 69 #[.int .i64 n,pt kp] W0 ([(kp,.cells #[.slice a m cap] 49 (0,0))]::H) (fun v H'=>v=.int .i64 (F1 k n)∧H'=([(kp,.cells #[.slice (J4 a cap 1 1) (m - 1) (cap - 1)] 49 (0,0))]::H)):=by
 refine C8 (args:=[.int .i64 n,pt kp]) (n:=20) Tryz.func69 rfl rfl (Nat.le_of_ble_eq_true rfl) ?_
 refine A1 (B4 (E':=[⟨0,[],.int .i64 n⟩,⟨1,[],pt kp⟩]) [0] [0,1] (k:=?_))
 refine A0 (A1 ?_)
 refine G_p [0] [0,1,4] (k:=A0 ?_)
 refine A1 (A1 ?_)
 refine A2 (A5 (ch:=[]) (b:=kp) (off:=0) (v:=.slice a m cap) (hA:=At.grp 0 0 rfl rfl) (k:=?_))
 refine C4 [0,0] [0,1,4,7] (k:=A0 ?_)
 refine C6 (b:=decide (((m:Nat):Int) > 0)) kr (fun hc1=>?_) (fun hc1=>?_)
 ·
  skip
  refine D7 H kr (O0 0 3 (k:=?_) (k':=?_))
  ·
   refine A5 (ch:=[]) (b:=kp) (off:=0) (v:=.slice a m cap) (hA:=At.grp 0 0 rfl rfl) (k:=A6 kr (fun w h=>(h.erase 0)) ?_)
   refine A9 1 (hL:=(fun w h=>(h.erase 0))) (hy:=B7 (i:=1) (ch:=[]) (a:=a) (len:=m) (cap:=cap) (kd:=.i64) (j:=0) (e:=3) (sz:=1) (S:=S) (cs:=((k::r).map (Value.int .i64))) (hrd:=hrd) (hb:=(fun _=>by exact ⟨by omega,by omega,by simp⟩)) (k:=B1 kr rfl)) (k:=A9 2 kr (fun w h=>(h.erase 0)) (D4 (i:=2) (ch:=[]) (a:=a) (q:=0 * 1) (S:=S) (cs:=((k::r).map (Value.int .i64))) (v:=.int .i64 k) rfl rfl kr kr kr kr kr hrd (fun y o h=>(hS y o h)) (fun _=>rfl) (B1 kr rfl)) ?_)
   refine D0 (fuel:=3) [(5,0)] (fun w h=>(h.erase 0)) (k:=B9 3 (k:=?_))
   refine A5 (ch:=[]) (b:=kp) (off:=0) (v:=.slice a m cap) (hA:=At.grp 0 0 rfl rfl) (k:=A6 kr (fun w h=>(h.erase 0)) ?_)
   refine A9 4 (hL:=(fun w h=>(h.erase 0))) (hy:=O5 (i:=4) (ch:=[]) (a:=a) (len:=m) (cap:=cap) (e:=3) (sz:=1) (vl:=(some (.int .i64 1))) (vh:=none) (l:=1) (h:=((m:Nat):Int)) (hb:=(by intro _; omega)) (k:=B1 kr rfl)) (k:=B9 6 (k:=?_))
   refine G4 (ch:=[]) (b:=kp) (off:=0) (v:=.slice (J4 a cap 1 1) (m - 1) (cap - 1)) (j:=0) ([(kp,.cells #[.slice (J4 a cap 1 1) (m - 1) (cap - 1)] 49 (0,0))]::H) (hoff:=Nat.le_of_ble_eq_true rfl) (hfz:=(fun _ _=>F0)) (k:=A6 kr (fun w h=>(h.erase 0)) ?_)
   refine D8 (E':=[⟨0,[],.int .i64 n⟩,⟨4,[],.int .i64 k⟩]) [0,4] (k:=A0 ?_)
   refine A1 (A2 ?_)
   refine A7 (j:=2) [0,0] (k:=GL_rem (ch:=[]) (kd:=.i64) (a:=k) (b:=n) (hb:=(fun _=>by omega)) (k:=?_))
   refine A7 (j:=6) [0,0,0] (k:=GL_rem (ch:=[]) (kd:=.i64) (a:=IntKind.wrap .i64 ((Int.tmod k n)+n)) (b:=n) (hb:=(fun _=>by omega)) (k:=?_))
   refine C4 [0] [3] (k:=A0 ?_)
   refine C3 (C1 [.tmp 3] [.int .i64 (Int.tmod (IntKind.wrap .i64 ((Int.tmod k n)+n)) n)] (k:=?_))
   exact ⟨by rw [next_is hn.1 hn.2 hk.1 hk.2]; rfl,rfl⟩
  ·
   refine A5 (ch:=[]) (b:=kp) (off:=0) (v:=.slice a m cap) (hA:=At.grp 0 0 rfl rfl) (k:=A6 kr (fun w h=>(h.erase 0)) ?_)
   refine A9 4 (hL:=(fun w h=>(h.erase 0))) (hy:=O5 (i:=4) (ch:=[]) (a:=a) (len:=m) (cap:=cap) (e:=3) (sz:=1) (vl:=(some (.int .i64 1))) (vh:=none) (l:=1) (h:=((m:Nat):Int)) (hb:=(by intro _; omega)) (k:=B1 kr rfl)) (k:=B9 0 (k:=?_))
   refine A5 (ch:=[]) (b:=kp) (off:=0) (v:=.slice a m cap) (hA:=At.grp 0 0 rfl rfl) (k:=A6 kr (fun w h=>(h.erase 0)) ?_)
   refine A9 1 (hL:=(fun w h=>(h.erase 0))) (hy:=B7 (i:=1) (ch:=[]) (a:=a) (len:=m) (cap:=cap) (kd:=.i64) (j:=0) (e:=3) (sz:=1) (S:=S) (cs:=((k::r).map (Value.int .i64))) (hrd:=hrd) (hb:=(fun _=>by exact ⟨by omega,by omega,by simp⟩)) (k:=B1 kr rfl)) (k:=A9 2 kr (fun w h=>(h.erase 0)) (D4 (i:=2) (ch:=[]) (a:=a) (q:=0 * 1) (S:=S) (cs:=((k::r).map (Value.int .i64))) (v:=.int .i64 k) rfl rfl kr kr kr kr kr hrd (fun y o h=>(hS y o h)) (fun _=>rfl) (B1 kr rfl)) ?_)
   refine D0 (fuel:=1) [(5,0)] (fun w h=>(h.erase 0)) (k:=B9 6 (k:=?_))
   refine G4 (ch:=[]) (b:=kp) (off:=0) (v:=.slice (J4 a cap 1 1) (m - 1) (cap - 1)) (j:=0) ([(kp,.cells #[.slice (J4 a cap 1 1) (m - 1) (cap - 1)] 49 (0,0))]::H) (hoff:=Nat.le_of_ble_eq_true rfl) (hfz:=(fun _ _=>F0)) (k:=A6 kr (fun w h=>(h.erase 0)) ?_)
   refine D8 (E':=[⟨0,[],.int .i64 n⟩,⟨4,[],.int .i64 k⟩]) [0,4] (k:=A0 ?_)
   refine A1 (A2 ?_)
   refine A7 (j:=2) [0,0] (k:=GL_rem (ch:=[]) (kd:=.i64) (a:=k) (b:=n) (hb:=(fun _=>by omega)) (k:=?_))
   refine A7 (j:=6) [0,0,0] (k:=GL_rem (ch:=[]) (kd:=.i64) (a:=IntKind.wrap .i64 ((Int.tmod k n)+n)) (b:=n) (hb:=(fun _=>by omega)) (k:=?_))
   refine C4 [0] [3] (k:=A0 ?_)
   refine C3 (C1 [.tmp 3] [.int .i64 (Int.tmod (IntKind.wrap .i64 ((Int.tmod k n)+n)) n)] (k:=?_))
   exact ⟨by rw [next_is hn.1 hn.2 hk.1 hk.2]; rfl,rfl⟩
 ·
  simp at hc1; omega
end Go.Proofs.YtlaoeiaaeifidaaGreat
namespace Go.Proofs
open Go.Shelf
def Tryz.lays190_ren:Go.Shelf.Ren:=⟨fun | 190=>75 | 125=>97 | 258=>96 | 128=>115 | 129=>116 | 302=>106 | 303=>107 | 304=>108 | 305=>109 | 306=>110 | 307=>111 | 308=>112 | 309=>113 | 310=>114 | 333=>129 | 329=>130 | 330=>131 | 334=>132 | 335=>133 | 336=>134 | 344=>141 | n=>n,fun | 31=>32 | 9=>9 | 3=>3 | 46=>53 | 0=>0 | 51=>144 | 53=>163 | 4=>4 | 183=>155 | 182=>154 | 131=>159 | 5=>5 | 218=>177 | 222=>181 | 228=>190 | 229=>191 | n=>n,fun | n=>n⟩
theorem Tryz.lays190:Go.Proofs.Lays.n190 Tryz.prog Tryz.lays190_ren:={
  mixed:=by kernel_rfl
  f125:=Tryz.func97.trans (congrArg some (by kernel_rfl))
  f128:=Tryz.func115.trans (congrArg some (by kernel_rfl))
  f129:=Tryz.func116.trans (congrArg some (by kernel_rfl))
  f190:=Tryz.func75.trans (congrArg some (by kernel_rfl))
  f258:=Tryz.func96.trans (congrArg some (by kernel_rfl))
  f302:=Tryz.func106.trans (congrArg some (by kernel_rfl))
  f303:=Tryz.func107.trans (congrArg some (by kernel_rfl))
  f304:=Tryz.func108.trans (congrArg some (by kernel_rfl))
  f305:=Tryz.func109.trans (congrArg some (by kernel_rfl))
  f306:=Tryz.func110.trans (congrArg some (by kernel_rfl))
  f307:=Tryz.func111.trans (congrArg some (by kernel_rfl))
  f308:=Tryz.func112.trans (congrArg some (by kernel_rfl))
  f309:=Tryz.func113.trans (congrArg some (by kernel_rfl))
  f310:=Tryz.func114.trans (congrArg some (by kernel_rfl))
  f329:=Tryz.func130.trans (congrArg some (by kernel_rfl))
  f330:=Tryz.func131.trans (congrArg some (by kernel_rfl))
  f333:=Tryz.func129.trans (congrArg some (by kernel_rfl))
  f334:=Tryz.func132.trans (congrArg some (by kernel_rfl))
  f335:=Tryz.func133.trans (congrArg some (by kernel_rfl))
  f336:=Tryz.func134.trans (congrArg some (by kernel_rfl))
  f344:=Tryz.func141.trans (congrArg some (by kernel_rfl))
  t0:=Tryz.underlying0
  a0:=Tryz.isAgg0
  z0:=Tryz.sizeOf0
  v0:=Tryz.zeroValue0
  t3:=Tryz.underlying3
  a3:=Tryz.isAgg3
  z3:=Tryz.sizeOf3
  v3:=Tryz.zeroValue3
  t4:=Tryz.underlying4
  a4:=Tryz.isAgg4
  z4:=Tryz.sizeOf4
  v4:=Tryz.zeroValue4
  t5:=Tryz.underlying5
  a5:=Tryz.isAgg5
  z5:=Tryz.sizeOf5
  v5:=Tryz.zeroValue5
  t9:=Tryz.underlying9
  a9:=Tryz.isAgg9
  z9:=Tryz.sizeOf9
  v9:=Tryz.zeroValue9
  t31:=Tryz.underlying32
  a31:=Tryz.isAgg32
  z31:=Tryz.sizeOf32
  v31:=Tryz.zeroValue32
  t46:=Tryz.underlying53
  a46:=Tryz.isAgg53
  z46:=Tryz.sizeOf53
  v46:=Tryz.zeroValue53
  t51:=Tryz.underlying144
  a51:=Tryz.isAgg144
  z51:=Tryz.sizeOf144
  v51:=Tryz.zeroValue144
  t53:=Tryz.underlying163
  a53:=Tryz.isAgg163
  z53:=Tryz.sizeOf163
  v53:=Tryz.zeroValue163
  t131:=Tryz.underlying159
  a131:=Tryz.isAgg159
  z131:=Tryz.sizeOf159
  v131:=Tryz.zeroValue159
  t182:=Tryz.underlying154
  a182:=Tryz.isAgg154
  z182:=Tryz.sizeOf154
  v182:=Tryz.zeroValue154
  t183:=Tryz.underlying155
  a183:=Tryz.isAgg155
  z183:=Tryz.sizeOf155
  v183:=Tryz.zeroValue155
  t218:=Tryz.underlying177
  a218:=Tryz.isAgg177
  z218:=Tryz.sizeOf177
  v218:=Tryz.zeroValue177
  t222:=Tryz.underlying181
  a222:=Tryz.isAgg181
  z222:=Tryz.sizeOf181
  v222:=Tryz.zeroValue181
  t228:=Tryz.underlying190
  a228:=Tryz.isAgg190
  z228:=Tryz.sizeOf190
  v228:=Tryz.zeroValue190
  t229:=Tryz.underlying191
  a229:=Tryz.isAgg191
  z229:=Tryz.sizeOf191
  v229:=Tryz.zeroValue191 }
open Go.Sort Go.RowKit in
theorem Tryz.slices_Sort_string (blk off cap:Nat) (ss:List (List UInt8)) (w:World) (hH:Holds encStr w blk off ss.toArray) (hblk:blk<w.heap.size) (hsz:ss.length<4611686018427387904) :
    Calls Tryz.prog 75 #[.slice (some ⟨blk,off,none⟩) ss.length cap] w fun e w' =>
      e=.returned (.tuple #[])∧∃ n os,w'=grow (putRow encStr (Sort.ahead w n) blk off (ss.mergeSort fun x y=>decide (x≤y)).toArray) os:=Any.slices_Sort_string Tryz.lays190 blk off cap ss w hH hblk hsz
end Go.Proofs
namespace Go.Sw
open Go.RowKit
theorem run_clone {P:Program} {w:World} {r:Nat} {es:Array MapEntry} {clock:Nat} (t:TypeId) (hb:w.heap[r]? = some (.map es clock)) :
    (Extern.MapsClone.clone #[.iface t (.map (some r))]).run P w=.ok (.iface t (.map (some w.heap.size))) (w.alloc (.map es clock)):=by
  have e:Extern.MapsClone.clone #[.iface t (.map (some r))]=(getObj r >>= fun o=>match o with
      | .map entries clock=>(newObj (.map entries clock) >>= fun n=>pure (.iface t (.map (some n))))
      | _ => stuck "maps.clone: a map expected") := rfl
  rw [e]
  simp only [Sem.run_bind,M8 hb,Result.andThen_ok,run_newObj,Sem.run_pure]
  rfl
theorem GL_cloneX {P:Program} {ops:Array Oper} {i:Nat} {Q:G3} {n:Fr} {E:Env} {W0:World} {H:List Grp} {o:Oper} {ch:List (Nat × Bool)} {c:Call} {fo:Operand} {f:FuncId} {t:TypeId} {r clock:Nat} {es:Array MapEntry} {fn:Func}
    (ho:ops[i]? = some o) (hop:o.op=.call c) (hce:c.callee=.value fo) (hfo:evO E ch fo=some (.func (.func f) #[] #[])) (hargs:evL (evO E ch) c.args.toList=some [.iface t (.map (some r))])
    (hf : P.funcs[f]? = some fn) (hrt : (fn.name == "runtime.NumGoroutine") = false) (hbody : fn.body.isNone = true) (hn : Extern.findNext fn = none) (he : Extern.find fn = some Extern.MapsClone.clone)
    (hch:F3 ops E o.guard=some ch) (hd:H7 n ch o.dst=true) (hsure:P4 E ch=true) (hA:At W0 H r (.map es clock))
    (k:∀ b,GL false P ops (i+1) Q n (Env.put E o.dst ch (.iface t (.map (some b)))) W0 ([(b,.map es clock)]::H)):GL false P ops i Q n E W0 H:=by
  refine Y4 (R:=fun v H1=>∃ b,v=.iface t (.map (some b))∧H1=[(b,.map es clock)]::H) ho hch hd hsure (fun rr hr w hs=>?_) (by rintro v H1 ⟨b,rfl,rfl⟩; exact k b)
  refine ⟨_,w.alloc (.map es clock),_,⟨w.heap.size,rfl,rfl⟩,hs.new rfl rfl rfl rfl,.inl ?_⟩
  unfold execOp
  simp only [hop]
  simp only [resolve,hce]
  rw [hr _ _ hfo,O6 hr hargs]
  simp only [Deferred.ofValue,Sem.run_bind,Sem.run_pure,Result.andThen_ok,invoke]
  have:=run_callFunc_extern hf hrt hbody hn he #[.iface t (.map (some r))] w
  simp only [Array.empty_append,Array.append_empty,this,run_clone t (hs.at hA),Result.andThen_ok]
theorem GL_assert {d:Bool} {P:Program} {ops:Array Oper} {i:Nat} {Q:G3} {n:Fr} {E:Env} {W0:World} {H:List Grp} {o:Oper} {ch:List (Nat × Bool)} {x:Operand} {xt t k e:TypeId} {v:Value}
    (ho:ops[i]? = some o) (hop:o.op=.typeAssert x xt t false) (hx:evO E ch x=some (.iface t v)) (hu:P.underlying t=some (.map k e))
    (hch:F3 ops E o.guard=some ch) (hd:H7 n ch o.dst=true) (hk:K3 E ch=true)
    (kk:GL d P ops (i+1) Q n (Env.put E o.dst ch v) W0 H):GL d P ops i Q n E W0 H:=by
  refine J2 ho hch hd hk (fun r hr _ w _=>?_) kk
  unfold execOp
  simp only [hop]
  rw [hr _ _ hx]
  simp [Instr.typeAssert,run_underlying hu,Result.andThen]
  exact ⟨rfl,rfl⟩
theorem P6 {P:Program} {ops:Array Oper} {i:Nat} {Q:G3} {n:Fr} {E:Env} {W0:World} {H:List Grp} {o:Oper} {ch:List (Nat × Bool)} {src dst e:TypeId} {x:Operand} {s:ByteArray}
    (ho:ops[i]? = some o:=by exact rfl) (hop:o.op=.convert src dst x:=by exact rfl) (hx:evO E ch x=some (.string s):=by kernel_rfl) (hs':P.underlying src=some .string:=by kernel_rfl) (hds:P.underlying dst=some (.slice e):=by kernel_rfl) (he:P.underlying e=some (.int .u8):=by kernel_rfl)
    (hch:F3 ops E o.guard=some ch:=by kernel_rfl) (hd:H7 n ch o.dst=true:=by kernel_rfl) (hsure:P4 E ch=true:=by kernel_rfl)
    (k:∀ b cap g,s.size≤cap→Rd (inG g) (some ⟨b,0,none⟩) (u8s s.data.toList)→GL false P ops (i+1) Q n (Env.put E o.dst ch (.slice (some ⟨b,0,none⟩) s.size cap)) W0 (g::H)):GL false P ops i Q n E W0 H:=by
  refine Y4 (R:=fun v H1=>∃ b cap g,v=.slice (some ⟨b,0,none⟩) s.size cap∧s.size≤cap∧Rd (inG g) (some ⟨b,0,none⟩) (u8s s.data.toList)∧H1=g::H) ho hch hd hsure (fun rr hr w hs=>?_) (by rintro v H1 ⟨b,cap,g,rfl,h1,h2,rfl⟩; exact k b cap g h1 h2)
  have hrun:=run_bytes_of_string (P:=P) w src dst e s hs' hds he
  refine ⟨_,w.drew.alloc (.cells (bytesRow s (grownCap w s.size 0 e)) e ((bytesRow s (grownCap w s.size 0 e)).size,(bytesRow s (grownCap w s.size 0 e)).size+1)),_,⟨w.heap.size,grownCap w s.size 0 e,_,rfl,by have:=grownCap_ge w s.size 0 e; omega,?_,rfl⟩,(hs.drew).new rfl rfl rfl rfl,.inl ?_⟩
  · refine .inr ⟨_,0,_,_,_,rfl,List.mem_singleton.2 rfl,fun j u hu=>?_⟩
    unfold u8s at hu
    rw [List.getElem?_map] at hu
    cases hj:s.data.toList[j]? with
    | none=>rw [hj] at hu; simp at hu
    | some b =>
      rw [hj] at hu
      simp only [Option.map_some,Option.some.injEq] at hu
      obtain ⟨hlt,hb⟩:=List.getElem?_eq_some_iff.1 hj
      have hlt':j<s.data.size:=by simpa using hlt
      rw [Nat.zero_add,bytesRow_at s _ j hlt',← hu,← hb]
      simp
  · unfold execOp
    simp only [hop]
    rw [hr _ _ hx]
    simp only [Sem.run_bind,Sem.run_pure,hrun,Result.andThen_ok]
end Go.Sw
namespace Go.Vf
open Go.Sw Go.RowKit Go.Sort Go.Proofs
def V7 (ws:List ByteArray):List ByteArray:=((ws.map fun s=>s.data.toList).mergeSort fun x y=>decide (x≤y)).map fun l=>⟨l.toArray⟩
theorem strs_sort (ws:List ByteArray):strs (V7 ws)=((ws.map fun s=>s.data.toList).mergeSort fun x y=>decide (x≤y)).map encStr:=by
  unfold strs V7
  rw [List.map_map]
  rfl
theorem sortB_len (ws:List ByteArray):(V7 ws).length=ws.length:=by unfold V7; rw [List.length_map,List.length_mergeSort,List.length_map]
theorem S9 (ws:List ByteArray):(V7 ws).Perm ws:=by
  unfold V7
  have h:((ws.map fun s=>s.data.toList).mergeSort fun x y=>decide (x≤y)).Perm (ws.map fun s=>s.data.toList):=List.mergeSort_perm _ _
  have h2:=h.map fun l=>(⟨l.toArray⟩:ByteArray)
  rw [List.map_map] at h2
  have e:ws.map ((fun l=>(⟨l.toArray⟩:ByteArray)) ∘ fun s=>s.data.toList)=ws:=by
    rw [show ((fun l:List UInt8=>(⟨l.toArray⟩:ByteArray)) ∘ fun s:ByteArray=>s.data.toList)=id from rfl,List.map_id]
  rwa [e] at h2
end Go.Vf
namespace Go.Proofs.YtlaoeiaaeifidaaGreat
open Go.Sw Go.Lib Go.Vf Go.RowKit
theorem vMapClone (kb kc:Nat) (km:SM) (W0:World) (H:List Grp):Tri Tryz.prog 73 #[.map (some kb)] W0 ([(kb,.map (B2 km) kc)]::H) (fun v H'=>∃ b,v=.map (some b)∧H'=[(b,.map (B2 km) kc)]::[(kb,.map (B2 km) kc)]::H):=by
 refine C8 (args:=[.map (some kb)]) (n:=9) Tryz.func73 rfl rfl (Nat.le_of_ble_eq_true rfl) ?_
 refine A1 (B4 (E':=[⟨0,[],.map (some kb)⟩]) [0] [0] (k:=?_))
 refine A0 (A1 ?_)
 refine A1 (G_p [0,0] [0,4] (k:=?_))
 refine A0 (I2 kr ?_)
 refine B5 (A0 ?_)
 refine A1 (A2 ?_)
 refine A7 (j:=2) [0,0] (k:=GL_cloneX (i:=2) (ch:=[]) (f:=94) (t:=68) (r:=kb) (clock:=kc) (es:=B2 km) rfl rfl rfl kr kr Tryz.func94 kr rfl kr kr kr kr kr (At.grp 0 0 rfl rfl) (fun b1=>?_))
 refine GL_assert (i:=3) (ch:=[]) (xt:=20) (t:=68) (k:=9) (e:=74) (v:=.map (some b1)) rfl rfl kr kr kr kr kr (D3 (E':=[⟨2,[],.map (some b1)⟩]) [0] [2] (k:=?_))
 refine A0 (C3 ?_)
 refine C1 [.tmp 2] [.map (some b1)] (k:=?_)
 exact ⟨_,rfl,rfl⟩
end Go.Proofs.YtlaoeiaaeifidaaGreat
namespace Go.Proofs
open Go.Shelf
def Tryz.keys41_ren:Go.Shelf.Ren:=⟨fun | 7=>71 | 10=>93 | n=>n,fun | 23=>69 | 26=>9 | 3=>118 | 28=>116 | 0=>0 | 27=>115 | 33=>31 | 4=>4 | n=>n,fun | n=>n⟩
theorem Tryz.keys41:Go.Proofs.SlLaysZ.n7 Tryz.prog Tryz.keys41_ren:={
  mixed:=by kernel_rfl
  f7:=⟨Tryz.f71.name,by decide,Tryz.func71.trans (congrArg some (by kernel_rfl))⟩
  f10:=⟨Tryz.f93.name,by decide,Tryz.func93.trans (congrArg some (by kernel_rfl))⟩
  t0:=Tryz.underlying0
  a0:=Tryz.isAgg0
  z0:=Tryz.sizeOf0
  v0:=Tryz.zeroValue0
  t4:=Tryz.underlying4
  a4:=Tryz.isAgg4
  z4:=Tryz.sizeOf4
  v4:=Tryz.zeroValue4
  t23:=Tryz.underlying69
  a23:=Tryz.isAgg69
  z23:=Tryz.sizeOf69
  v23:=Tryz.zeroValue69
  t26:=Tryz.underlying9
  a26:=Tryz.isAgg9
  z26:=Tryz.sizeOf9
  v26:=Tryz.zeroValue9
  t27:=Tryz.underlying115
  a27:=Tryz.isAgg115
  z27:=Tryz.sizeOf115
  v27:=Tryz.zeroValue115
  t28:=Tryz.underlying116
  a28:=Tryz.isAgg116
  z28:=Tryz.sizeOf116
  v28:=Tryz.zeroValue116
  t33:=Tryz.underlying31
  a33:=Tryz.isAgg31
  z33:=Tryz.sizeOf31
  v33:=Tryz.zeroValue31 }
def Tryz.sorted40_ren:Go.Shelf.Ren:=⟨fun | 6=>70 | 8=>92 | 9=>75 | 11=>105 | 13=>97 | 12=>96 | 23=>115 | 24=>116 | 14=>106 | 15=>107 | 16=>108 | 17=>109 | 18=>110 | 19=>111 | 20=>112 | 21=>113 | 22=>114 | 25=>129 | 26=>130 | 27=>131 | 28=>132 | 29=>133 | 30=>134 | 31=>141 | n=>n,fun | 26=>9 | 28=>116 | 24=>32 | 0=>0 | 3=>3 | 37=>53 | 48=>144 | 50=>163 | 4=>4 | 40=>155 | 39=>154 | 45=>159 | 5=>5 | 9=>9 | 51=>177 | 55=>181 | 57=>190 | 58=>191 | 33=>31 | n=>n,fun | n=>n⟩
theorem Tryz.sorted40:Go.Proofs.SlLaysZ.n6 Tryz.prog Tryz.sorted40_ren:={
  mixed:=by kernel_rfl
  f6:=⟨Tryz.f70.name,by decide,Tryz.func70.trans (congrArg some (by kernel_rfl))⟩
  f8:=⟨Tryz.f92.name,by decide,Tryz.func92.trans (congrArg some (by kernel_rfl))⟩
  f11:=⟨Tryz.f105.name,by decide,Tryz.func105.trans (congrArg some (by kernel_rfl))⟩
  t0:=Tryz.underlying0
  a0:=Tryz.isAgg0
  z0:=Tryz.sizeOf0
  v0:=Tryz.zeroValue0
  t24:=Tryz.underlying32
  a24:=Tryz.isAgg32
  z24:=Tryz.sizeOf32
  v24:=Tryz.zeroValue32
  t26:=Tryz.underlying9
  a26:=Tryz.isAgg9
  z26:=Tryz.sizeOf9
  v26:=Tryz.zeroValue9
  t28:=Tryz.underlying116
  a28:=Tryz.isAgg116
  z28:=Tryz.sizeOf116
  v28:=Tryz.zeroValue116
  i26:=by kernel_rfl }
end Go.Proofs
namespace Go.Vf
open Go.Sw Go.RowKit Go.Sort Go.Proofs Go.Shelf
open Go.WideElems (Fit rg)
def anyR:Value→Option (DataW Nat × List MemPlace):=fun _=>some (.lit (.bool false),[])
def datM (P:Program) (cm:SM):DataW Nat:=.map (((B2 cm).toList.map (rg P 9 anyR)).foldr DataW.insert [])
theorem rd_ent {e:ByteArray × Value × Nat} (h:e.1.size≤9223372036854775807):WideElems.rd Tryz.prog 9 anyR (entM e)=some (.string e.1.data.toList,.lit (.bool false)):=by
  unfold WideElems.rd
  rw [show keyOf Tryz.prog 9 (entM e).key=some (.string e.1.data.toList) from WideMaps.keyOf_string_mk Tryz.underlying9 (by unfold maxLen; omega)]
  rfl
theorem rg_ent {e:ByteArray × Value × Nat} (h:e.1.size≤9223372036854775807):rg Tryz.prog 9 anyR (entM e)=(.string e.1.data.toList,.lit (.bool false)):=by
  unfold rg
  rw [rd_ent h]
  rfl
theorem A0e (cm:SM):(B2 cm).toList=cm.map entM:=by unfold B2; rfl
theorem ent_apart {cm:SM} (h:cm.Pairwise fun x y=>(x.1==y.1)=false):(cm.map entM).Pairwise fun x y=>x.key≠y.key :=
  List.pairwise_map.2 (h.imp fun {x y} hxy e=>by
    have:x.1=y.1:=by
      have e':Value.string x.1=Value.string y.1:=e
      injection e'
    exact (baNe.1 hxy) this)
theorem own_map {cm:SM} {cc cb:Nat} {w:World} (hm:MapOk cm cc) (hks:∀ e∈cm,e.1.size≤9223372036854775807) (hl:cm.length≤1000000000) (hb:w.heap[cb]? = some (.map (B2 cm) cc)) :
    w.ownsMap Tryz.prog 9 anyR cb cm.length (datM Tryz.prog cm):=by
  refine ⟨B2 cm,cc,hb,⟨?_,?_,?_⟩,?_,rfl⟩
  · rw [← Array.length_toList,A0e,List.length_map]; unfold maxLen; omega
  · rw [MapKept.stamped_iff,A0e]
    refine ⟨?_,?_,ent_apart hm.keys⟩
    · intro x hx
      obtain ⟨e,he,rfl⟩:=List.mem_map.1 hx
      exact hm.lt e he
    · rw [List.map_map]; exact hm.born
  · intro x hx
    rw [A0e] at hx
    obtain ⟨e,he,rfl⟩:=List.mem_map.1 hx
    exact ⟨_,rd_ent (hks e he)⟩
  · rw [← Array.length_toList,A0e,List.length_map]; exact Nat.le_refl _
theorem keys_dat {cm:SM} (hks:∀ e∈cm,e.1.size≤9223372036854775807):(strKeys (datM Tryz.prog cm)).Perm ((cm.map Prod.fst).map fun s=>s.data.toList):=by
  have h1:(strKeys (datM Tryz.prog cm)).Perm ((((B2 cm).toList.map (rg Tryz.prog 9 anyR))).map fun p=>strOf p.1):=(WideShapes.sorted_perm _).map _
  have h2:(((B2 cm).toList.map (rg Tryz.prog 9 anyR))).map (fun p=>strOf p.1)=(cm.map Prod.fst).map fun s=>s.data.toList:=by
    rw [A0e,List.map_map,List.map_map,List.map_map]
    refine List.map_congr_left fun e he=>?_
    simp only [Function.comp_apply]
    rw [rg_ent (hks e he)]
    unfold strOf
    rfl
  rwa [h2] at h1
theorem dat_size (P:Program) (cm:SM):Maps.size (datM P cm)=cm.length:=by
  have e:Maps.size (datM P cm)=(((B2 cm).toList.map (rg P 9 anyR)).foldr DataW.insert []).length:=rfl
  rw [e,(WideShapes.sorted_perm _).length_eq,List.length_map,A0e,List.length_map]
theorem sorts40 (m:Nat):AnyZ.SortsIn Tryz.prog Tryz.sorted40_ren Fence.wide m :=
  ⟨fun blk off cap ss W hH hblk hsz=>callsIn_wide.2 (Tryz.slices_Sort_string blk off cap ss W hH hblk hsz),
   fun p cap W=>callsIn_wide.2 (Any.slices_Sort_string_none Tryz.lays190 p cap W)⟩
set_option maxHeartbeats 1000000 in
theorem sortedC (cm:SM) (cc cb kb:Nat) (hm:MapOk cm cc) (hks:∀ e∈cm,e.1.size≤9223372036854775807) (hl:cm.length≤1000000000) (W0:World) (H:List Grp) :
    Tri Tryz.prog 70 #[.func (.func 93) #[] #[.pointer (some ⟨kb,0,none⟩)]] W0
      ([(kb,.cells #[.map (some cb)] 69 (0,0))]::[(cb,.map (B2 cm) cc)]::H)
      (fun v H'=>∃ g,Go.Sw.Own 9 1 v g cm.length (strs (V7 (cm.map Prod.fst)))∧H'=g::[(kb,.cells #[.map (some cb)] 69 (0,0))]::[(cb,.map (B2 cm) cc)]::H):=by
  intro w hs
  have hk:w.heap[kb]? = some (.cells #[.map (some cb)] 69 (0,0)):=hs.has (kb,_) (by simp)
  have hb:w.heap[cb]? = some (.map (B2 cm) cc):=hs.has (cb,_) (by simp)
  have hown:=own_map hm hks hl hb
  have hcell:w.cell? ⟨kb,0,none⟩=some (.map (some cb)):=by
    unfold World.cell?
    rw [hk]
    rfl
  have hseq:SeqGives Fence.wide 2 Tryz.prog 93 #[.pointer (some ⟨kb,0,none⟩)] encStr (fun ss=>ss.Perm (strKeys (datM Tryz.prog cm))) (Maps.size (datM Tryz.prog cm)) w :=
    AnyZ.keys_gives (ρ:=Tryz.keys41_ren) { Tryz.keys41 with } Fence.wide 2 trivial rfl (by omega) kb cb cm.length (datM Tryz.prog cm) w (Array.getElem?_eq_some_iff.1 hk).1 hcell hown
  have hc:=AnyZ.sorted_in Tryz.sorted40 Fence.wide 5 trivial trivial trivial trivial rfl (by omega) (sorts40 _) (enters_of Tryz.func75 (by kernel_rfl) rfl) 93 #[.pointer (some ⟨kb,0,none⟩)] trivial (enters_of Tryz.func93 (by kernel_rfl) rfl) _ (Maps.size (datM Tryz.prog cm)) (by rw [dat_size]; unfold maxLen; omega) (by rw [dat_size]; omega) w hseq
  refine (callsIn_wide.1 hc).mono fun e w' ⟨v,ss,h1,h2,h3,_,h5⟩=>?_
  have hp:ss.Perm ((cm.map Prod.fst).map fun s=>s.data.toList):=h2.trans (keys_dat hks)
  have hlen:ss.length=cm.length:=by rw [hp.length_eq,List.length_map,List.length_map]
  have hss:(ss.mergeSort fun x y=>decide (x≤y)).map encStr=strs (V7 (cm.map Prod.fst)):=by
    rw [strs_sort]
    exact congrArg (List.map encStr) (mergeSort_of_perm hp)
  rw [hss,hlen] at h3
  have hbel:Below W0.heap.size W0 w':=⟨h5.os.trans hs.below.os,h5.tape.trans hs.below.tape,h5.output.trans hs.below.output,Nat.le_trans hs.below.size h5.size,fun k hk=>by
    rw [h5.block k (Nat.lt_of_lt_of_le hk hs.below.size),hs.below.block k hk]⟩
  have hhas:∀ p,p∈([(kb,.cells #[.map (some cb)] 69 (0,0))]::[(cb,.map (B2 cm) cc)]::H:List Grp).flatten→w'.heap[p.1]? = some p.2:=fun p hp=>by
    have h0:=hs.has p hp
    rw [h5.block p.1 (Array.getElem?_eq_some_iff.1 h0).1,h0]
  obtain ⟨l1,⟨rfl,l2⟩ | ⟨g,cap,cur,rfl,g1,g2,g3,g4,g5,g6⟩⟩:=h3
  · exact ⟨_,_,h1,⟨[],⟨l1,.inl ⟨rfl,rfl,l2⟩⟩,rfl⟩,⟨hbel,by simpa using hs.nodup,fun p hp=>hhas p (by simpa using hp),fun p hp=>hs.high p (by simpa using hp)⟩⟩
  · have hcur:cur.toList=strs (V7 (cm.map Prod.fst))++cur.toList.drop (cm.length * 1):=by
      rw [← g6,List.take_append_drop]
    have hcur2:cur=(strs (V7 (cm.map Prod.fst))++cur.toList.drop (cm.length * 1)).toArray:=by
      rw [← hcur]
    refine ⟨_,_,h1,⟨[(g,.cells (strs (V7 (cm.map Prod.fst))++cur.toList.drop (cm.length * 1)).toArray 9 (0,0))],⟨l1,.inr ⟨g,cap,cur.toList.drop (cm.length * 1),rfl,rfl,g3,?_⟩⟩,rfl⟩,⟨hbel,?_,?_,?_⟩⟩
    · rw [← hcur,Array.length_toList,g5]
    · rw [List.flatten_cons,List.singleton_append,List.map_cons,List.nodup_cons]
      refine ⟨fun hin=>?_,hs.nodup⟩
      obtain ⟨p,hp,he⟩:=List.mem_map.1 hin
      have h0:=(Array.getElem?_eq_some_iff.1 (hs.has p hp)).1
      have he':p.1=g:=he
      omega
    · intro p hp
      rw [List.flatten_cons,List.singleton_append,List.mem_cons] at hp
      rcases hp with rfl | hp
      · show w'.heap[g]? = _
        rw [← hcur2]
        exact g2
      · exact hhas p hp
    · intro p hp
      rw [List.flatten_cons,List.singleton_append,List.mem_cons] at hp
      rcases hp with rfl | hp
      · exact Nat.le_trans hs.below.size g1
      · exact hs.high p hp
end Go.Vf
namespace Go.Vf
open Go.Sw Go.RowKit
structure BE where
  p:Nat
  an:Option Addr
  n:Nat
  cn:Nat
  ak:Option Addr
  m:Nat
  ck:Nat
instance:Inhabited BE:=⟨⟨0,none,0,0,none,0,0⟩⟩
def beO (b:BE):Nat × Obj:=(b.p,.cells #[.slice b.an b.n b.cn,.slice b.ak b.m b.ck] 76 (0,0))
def G9 (bs:List BE):Grp:=bs.map beO
theorem bodyG_at {bs:List BE} {k:Nat} (h:k<bs.length):(G9 bs)[k]? = some (beO (bs.getD k default)):=by
  unfold G9
  rw [List.getElem?_map,List.getElem?_eq_getElem h,List.getD_eq_getElem?_getD,List.getElem?_eq_getElem h]; rfl
theorem V0 (bs:List BE) (k:Nat) (b:BE):(G9 bs).set k (beO b)=G9 (bs.set k b):=by
  unfold G9; rw [List.map_set]
structure KS where
  l:List Int
  a:Option Addr
  c:Nat
def G1 (k:KS):KS:=⟨k.l.drop 1,if k.l=[] then k.a else J4 k.a k.c 1 1,if k.l=[] then k.c else k.c - 1⟩
def KsOk (S:Nat→Obj→Prop) (k:KS):Prop:=Rd S k.a (k.l.map (Value.int .i64))∧k.l.length≤k.c∧k.l.length≤1000000000∧∀ x∈k.l,-9223372036854775808≤x∧x≤9223372036854775807
theorem ksNext_ok {S:Nat→Obj→Prop} {k:KS} (h:KsOk S k):KsOk S (G1 k):=by
  obtain ⟨h1,h2,h3,h4⟩:=h
  obtain ⟨l,a,c⟩:=k
  cases l with
  | nil=>exact ⟨h1,h2,h3,h4⟩
  | cons x l =>
    simp only [List.length_cons] at h2 h3
    refine ⟨?_,?_,?_,fun y hy=>h4 y (List.mem_cons_of_mem _ hy)⟩
    · have:=h1.cut (cap:=c) (l:=1) (sz:=1) (m:=l.length) (by omega)
      have e:(((x::l).map (Value.int .i64)).drop (1 * 1)).take l.length=l.map (Value.int .i64):=by
        rw [Nat.mul_one,List.map_cons,List.drop_succ_cons,List.drop_zero,List.take_of_length_le (by simp)]
      rw [e] at this
      simpa [G1] using this
    · show l.length≤(if (x::l)=[] then c else c - 1)
      simp; omega
    · show l.length≤1000000000
      omega
def T9 (b:BE) (k:KS):BE × KS :=
  if (b.n:Int) - (b.m:Int) > 0 then
    (⟨b.p,J4 b.an b.cn (Int.toNat 0) 1,Int.toNat ((b.m:Int)+F1 (k.l.headD 0) ((b.n:Int) - (b.m:Int)+1)) - Int.toNat 0,b.cn - Int.toNat 0,
      J4 b.an b.cn (Int.toNat 0) 1,Int.toNat ((b.m:Int)+F1 (k.l.headD 0) ((b.n:Int) - (b.m:Int)+1)) - Int.toNat 0,b.cn - Int.toNat 0⟩,G1 k)
  else (⟨b.p,b.ak,b.m,b.ck,b.ak,b.m,b.ck⟩,k)
def stB (bs:List BE) (k:KS):Nat→List BE × KS
  | 0=>(bs,k)
  | j+1=>((stB bs k j).1.set j (T9 ((stB bs k j).1.getD j default) (stB bs k j).2).1,(T9 ((stB bs k j).1.getD j default) (stB bs k j).2).2)
theorem stB_len (bs:List BE) (k:KS):∀ j,(stB bs k j).1.length=bs.length
  | 0=>rfl
  | j+1=>by rw [stB,List.length_set,stB_len bs k j]
theorem stB_ok {S:Nat→Obj→Prop} {bs:List BE} {k:KS} (h:KsOk S k):∀ j,KsOk S (stB bs k j).2
  | 0=>h
  | j+1=>by
    have:=stB_ok (bs:=bs) h j
    rw [stB]
    unfold T9
    split
    · exact ksNext_ok this
    · exact this
theorem stB_at (bs:List BE) (k:KS):∀ (j i:Nat),j≤i→(stB bs k j).1.getD i default=bs.getD i default
  | 0,_,_=>rfl
  | j+1,i,h=>by
    rw [stB,List.getD_eq_getElem?_getD,List.getElem?_set_ne (by omega),← List.getD_eq_getElem?_getD]
    exact stB_at bs k j i (by omega)
structure RowC where
  a:Option Addr
  c:Nat
  qs:List Nat
  xs:List SM
  xcs:List Nat
structure RowOk (S:Nat→Obj→Prop) (W0:World) (H:List Grp) (cm:SM) (d:ByteArray) (r:RowC):Prop where
  get:S4 cm d=some (.slice r.a r.qs.length r.c)
  rd:Rd S r.a (r.qs.map fun q=>Value.map (some q))
  len:r.xs.length=r.qs.length
  le:r.qs.length≤1000000
  lec:r.qs.length≤r.c
  lay:∀ i,i<r.qs.length→At W0 H (r.qs.getD i 0) (.map (B2 (r.xs.getD i [])) (r.xcs.getD i 0))∧MapOk (r.xs.getD i []) (r.xcs.getD i 0)∧∀ e∈r.xs.getD i [],e.2.1=.pointer none∨∃ p,e.2.1=.pointer (some ⟨p,0,none⟩)
def keptN (r:RowC) (k:KS):Nat:=Int.toNat (F1 (k.l.headD 0) (((r.qs.length:Nat):Int)+1))
def CrashK (rows:ByteArray→RowC):List ByteArray→(SM × Nat) × KS→(SM × Nat) × KS→Prop
  | [],s,t=>t=s
  | d::r,s,t=>∃ s1,MadeOf ((rows d).xs.take (keptN (rows d) s.2)) s.1 s1∧CrashK rows r (s1,G1 s.2) t
theorem crashK_snoc {rows:ByteArray→RowC} {d:ByteArray} {s1:SM × Nat}:∀ {l:List ByteArray} {s t:(SM × Nat) × KS},CrashK rows l s t→MadeOf ((rows d).xs.take (keptN (rows d) t.2)) t.1 s1→CrashK rows (l++[d]) s (s1,G1 t.2)
  | [],s,t,h,hm=>by subst h; exact ⟨s1,hm,rfl⟩
  | _::_,_,_,⟨s2,h1,h2⟩,hm=>⟨s2,h1,crashK_snoc h2 hm⟩
theorem rd_cut0 {S:Nat→Obj→Prop} {a:Option Addr} {cs:List Value} {c m:Nat} (h:Rd S a cs) (hm:m≤cs.length) (hc:cs.length≤c):Rd S (J4 a c (Int.toNat 0) 1) (cs.take m):=by
  have:=h.cut (cap:=c) (l:=0) (sz:=1) (m:=m) (by omega)
  simpa using this
theorem map_take_at {qs:List Nat} {k m:Nat} (h:k<m) (hq:k<qs.length):((qs.map fun q=>Value.map (some q)).take m)[k]? = some (.map (some (qs.getD k 0))):=by
  rw [List.getElem?_take_of_lt h]; exact map_at hq
theorem ptr_at {bs:List BE} {k:Nat} (h:k<bs.length):(bs.map fun b=>Value.pointer (some ⟨b.p,0,none⟩))[k]? = some (.pointer (some ⟨(bs.getD k default).p,0,none⟩)):=by
  rw [List.getElem?_map,List.getElem?_eq_getElem h,List.getD_eq_getElem?_getD,List.getElem?_eq_getElem h]; rfl
theorem sort_mem {ws:List ByteArray} {i:Nat} (h:i<(V7 ws).length):(V7 ws).getD i default∈ws:=by
  rw [List.getD_eq_getElem?_getD,List.getElem?_eq_getElem h]
  exact (S9 ws).mem_iff.1 (List.getElem_mem h)
theorem stB_p (bs:List BE) (k:KS) (i:Nat):∀ j,((stB bs k j).1.getD i default).p=(bs.getD i default).p
  | 0=>rfl
  | j+1=>by
    rw [stB]
    by_cases h:i<(stB bs k j).1.length
    · by_cases hj:j=i
      · subst hj
        rw [List.getD_eq_getElem?_getD,List.getElem?_set_self h]
        unfold T9
        split <;> exact stB_p bs k j j
      · rw [List.getD_eq_getElem?_getD,List.getElem?_set_ne hj,← List.getD_eq_getElem?_getD]
        exact stB_p bs k i j
    · have h2:∀ l:List BE,l.length≤i→l.getD i default=default:=fun l hl=>by
        rw [List.getD_eq_getElem?_getD,List.getElem?_eq_none hl]; rfl
      have h3:=stB_p bs k i j
      rw [h2 _ (Nat.not_lt.1 h)] at h3
      rw [h2 _ (by rw [List.length_set]; omega)]
      exact h3
theorem Q6 {bs:List BE} {ks:KS} {j:Nat} (h:j<bs.length):(G9 (stB bs ks j).1)[j]? = some ((bs.getD j default).p,.cells #[.slice ((stB bs ks j).1.getD j default).an ((stB bs ks j).1.getD j default).n ((stB bs ks j).1.getD j default).cn,.slice ((stB bs ks j).1.getD j default).ak ((stB bs ks j).1.getD j default).m ((stB bs ks j).1.getD j default).ck] 76 (0,0)):=by
  rw [bodyG_at (by rw [stB_len]; exact h),beO,stB_p]
theorem getD_mem {bs:List BE} {j:Nat} (h:j<bs.length):bs.getD j default∈bs:=by
  rw [List.getD_eq_getElem?_getD,List.getElem?_eq_getElem h]
  exact List.getElem_mem h
theorem bodyG_at_set (l:List BE) (j:Nat) (e:BE) (h:j<l.length):(G9 (l.set j e))[j]? = some (e.p,.cells #[.slice e.an e.n e.cn,.slice e.ak e.m e.ck] 76 (0,0)):=by
  rw [bodyG_at (by rw [List.length_set]; exact h),List.getD_eq_getElem?_getD,List.getElem?_set_self h]; rfl
theorem stB_yes {bs:List BE} {ks:KS} {j:Nat} (h:(((stB bs ks j).1.getD j default).n:Int) - (((stB bs ks j).1.getD j default).m:Int) > 0) :
    stB bs ks (j+1)=((stB bs ks j).1.set j ⟨(bs.getD j default).p,J4 ((stB bs ks j).1.getD j default).an ((stB bs ks j).1.getD j default).cn 0 1,Int.toNat ((((stB bs ks j).1.getD j default).m:Int)+F1 ((stB bs ks j).2.l.headD 0) ((((stB bs ks j).1.getD j default).n:Int) - (((stB bs ks j).1.getD j default).m:Int)+1)) - 0,((stB bs ks j).1.getD j default).cn - 0,
      J4 ((stB bs ks j).1.getD j default).an ((stB bs ks j).1.getD j default).cn 0 1,Int.toNat ((((stB bs ks j).1.getD j default).m:Int)+F1 ((stB bs ks j).2.l.headD 0) ((((stB bs ks j).1.getD j default).n:Int) - (((stB bs ks j).1.getD j default).m:Int)+1)) - 0,((stB bs ks j).1.getD j default).cn - 0⟩,G1 (stB bs ks j).2):=by
  rw [stB]
  unfold T9
  rw [if_pos h,stB_p]
  rfl
theorem stB_no {bs:List BE} {ks:KS} {j:Nat} (h:¬ (((stB bs ks j).1.getD j default).n:Int) - (((stB bs ks j).1.getD j default).m:Int) > 0) :
    stB bs ks (j+1)=((stB bs ks j).1.set j ⟨(bs.getD j default).p,((stB bs ks j).1.getD j default).ak,((stB bs ks j).1.getD j default).m,((stB bs ks j).1.getD j default).ck,((stB bs ks j).1.getD j default).ak,((stB bs ks j).1.getD j default).m,((stB bs ks j).1.getD j default).ck⟩,(stB bs ks j).2):=by
  rw [stB]
  unfold T9
  rw [if_neg h,stB_p]
theorem N_heq {Q:G3} {x:Exit} {n:Fr} {E:Env} {W0:World} {H H':List Grp} (h:H=H':=by exact rfl) (k:N Q x n E W0 H'):N Q x n E W0 H:=by subst h; exact k
theorem take_ne {α:Type} {l:List α} {m:Nat} (h:0<m) (h2:0<l.length):l.take m≠[]:=by
  intro e
  have:=congrArg List.length e
  rw [List.length_take] at this
  simp only [List.length_nil] at this
  omega
end Go.Vf
namespace Go.Proofs.YtlaoeiaaeifidaaGreat
open Go.Sw Go.Lib Go.Vf Go.RowKit
theorem vNextA (kp:Nat) (k:KS) (n:Int) (hn:0<n∧n≤1000000000000) (S:Nat→Obj→Prop) (hk:KsOk S k) (W0:World) (H:List Grp) (hS:∀ y o,S y o→At W0 H y o) :
    Tri Tryz.prog 69 #[.int .i64 n,.pointer (some ⟨kp,0,none⟩)] W0 ([(kp,.cells #[.slice k.a k.l.length k.c] 49 (0,0))]::H) (fun v H'=>v=.int .i64 (F1 (k.l.headD 0) n)∧H'=[(kp,.cells #[.slice (G1 k).a (G1 k).l.length (G1 k).c] 49 (0,0))]::H):=by
  obtain ⟨h1,h2,h3,h4⟩:=hk
  obtain ⟨l,a,c⟩:=k
  cases l with
  | nil=>exact vNext0 kp c a n hn W0 H
  | cons x l=>exact vNext kp n hn a (l.length+1) c S x (h4 x List.mem_cons_self) l rfl h2 h3 h1 W0 H hS
theorem vKeys (cb:Nat) (W0:World) (H:List Grp):Tri Tryz.prog 71 #[.map (some cb)] W0 H (fun v H'=>∃ b,v=.func (.func 93) #[] #[.pointer (some ⟨b,0,none⟩)]∧H'=[(b,.cells #[.map (some cb)] 69 (0,0))]::H):=by
 refine C8 (args:=[.map (some cb)]) (n:=4) Tryz.func71 rfl rfl (Nat.le_of_ble_eq_true rfl) ?_
 refine A1 (A2 ?_)
 refine R3 (ch:=[]) (v:=.map (some cb)) (k:=(fun b1=>?_))
 refine D3 (E':=[⟨1,[],pt b1⟩]) [0] [1] (k:=A0 ?_)
 refine A1 (B4 (E':=[⟨2,[],.func (.func 93) #[] #[pt b1]⟩]) [0,0] [2] (k:=?_))
 refine A0 (C3 ?_)
 refine C1 [.tmp 2] [.func (.func 93) #[] #[pt b1]] (k:=?_)
 exact ⟨_,rfl,rfl⟩
set_option maxHeartbeats 2000000 in
theorem vCrash (d nb kb cb kc cc:Nat) (room calls:Int) (fails once:Bool) (km cm:SM) (bs:List BE) (ba:Option Addr) (bc:Nat) (ks:KS) (rows:ByteArray→RowC) (S:Nat→Obj→Prop) (hks:KsOk S ks) (hbl:bs.length≤1000000) (hbn:∀ b∈bs,b.n≤b.cn∧b.n≤1000000000∧b.m≤b.n) (hrb:Rd S ba (bs.map fun b=>Value.pointer (some ⟨b.p,0,none⟩))) (hkm:MapOk km kc) (hcm:MapOk cm cc) (hcs:∀ e∈cm,e.1.size≤9223372036854775807) (hcl:cm.length≤1000000000) (W0:World) (H:List Grp) (hS:∀ y o,S y o→At W0 H y o) (hrows:∀ d,d∈cm.map Prod.fst→RowOk S W0 H cm d (rows d)):Tri Tryz.prog 28 #[pt d,.slice ks.a ks.l.length ks.c] W0 ([(d,.cells #[.int .i64 room,.slice ba bs.length bc,.map (some nb),.map (some kb),.map (some cb),.bool fails,.bool once,.int .i64 calls] 72 (0,0))]::G9 bs::[(kb,.map (B2 km) kc)]::[(cb,.map (B2 cm) cc)]::H) (fun v H'=>v=.tuple #[]∧∃ b b2 km1 kc1 ks1,CrashK rows (V7 (cm.map Prod.fst)) ((km,kc),(stB bs ks bs.length).2) ((km1,kc1),ks1)∧H'=([(d,.cells #[.int .i64 room,.slice ba bs.length bc,.map (some b),.map (some kb),.map (some b2),.bool false,.bool once,.int .i64 calls] 72 (0,0))]::G9 (stB bs ks bs.length).1::[(kb,.map (B2 km1) kc1)]::[(b,.map (B2 km1) kc1)]::[(b2,.map (B2 ([])) 0)]::H)):=by
 refine C8 (args:=[pt d,.slice ks.a ks.l.length ks.c]) (n:=116) Tryz.func28 rfl rfl (Nat.le_of_ble_eq_true rfl) ?_
 refine A1 (A2 ?_)
 refine R3 (ch:=[]) (v:=.slice ks.a ks.l.length ks.c) (k:=(fun b1=>?_))
 refine D3 (E':=[⟨0,[],pt d⟩,⟨3,[],pt b1⟩]) [] [0,3] (k:=A0 ?_)
 refine A1 (A1 ?_)
 refine G_p [0,0] [0,3,14] (k:=A0 ?_)
 refine I2 kr (B5 ?_)
 refine A0 (A1 ?_)
 refine G_p [0,0] [0,4] (k:=A0 ?_)
 refine A1 (A1 ?_)
 refine A2 (A7 (j:=3) [0,0,0] (k:=?_))
 refine A5 (ch:=[]) (b:=d) (off:=1) (v:=.slice ba bs.length bc) (hA:=At.grp 1 0 rfl rfl) (k:=C4 [0,0] [0,4,19,20,21] (k:=?_))
 refine A0 (C5 ?_)
 refine I8 (EI:=(fun ξ:Nat=>[⟨0,[],pt d⟩,⟨4,[],.func (.func 69) #[] #[pt b1]⟩,⟨19,[],.slice ba bs.length bc⟩,⟨20,[],.int .i64 ((bs.length:Nat):Int)⟩,⟨21,[],.int .i64 ((ξ:Nat):Int)⟩])) (HI:=(fun ξ:Nat=>([(b1,.cells #[.slice (stB bs ks ξ).2.a ((stB bs ks ξ).2.l.length) ((stB bs ks ξ).2.c)] 49 (0,0))]::[(d,.cells #[.int .i64 room,.slice ba bs.length bc,.map (some nb),.map (some kb),.map (some cb),.bool fails,.bool once,.int .i64 calls] 72 (0,0))]::G9 (stB bs ks ξ).1::[(kb,.map (B2 km) kc)]::[(cb,.map (B2 cm) cc)]::H))) (Φ:=(fun ξ:Nat=>(ξ≤bs.length))) (μ:=(fun ξ:Nat=>bs.length - ξ)) (s0:=(0)) [0,4,19,20,21] kr (by rfl) (by omega) ?_
 rintro j hj
 refine A1 (G_p [0] [0,4,19,20,21,22] (k:=?_))
 refine A0 (A1 ?_)
 refine C6 (b:=decide (((j:Nat):Int)<((bs.length:Nat):Int))) kr (fun hc2=>?_) (fun hc2=>?_)
 ·
  replace hc2:=of_decide_eq_true hc2
  have hjl:j<bs.length:=by omega
  have hB:(stB bs ks j).1.getD j default=bs.getD j default:=stB_at bs ks j j (Nat.le_refl _)
  obtain ⟨hb1,hb2,hb3⟩:((stB bs ks j).1.getD j default).n≤((stB bs ks j).1.getD j default).cn∧((stB bs ks j).1.getD j default).n≤1000000000∧((stB bs ks j).1.getD j default).m≤((stB bs ks j).1.getD j default).n:=by (rw [hB]; exact hbn _ (getD_mem hjl))
  refine B5 (A0 ?_)
  refine A1 (C5 ?_)
  refine A1 (A2 ?_)
  refine B7 (ch:=[]) (a:=ba) (len:=bs.length) (cap:=bc) (kd:=.i64) (j:=((j:Nat):Int)) (e:=74) (sz:=1) (S:=S) (cs:=(bs.map fun b=>Value.pointer (some ⟨b.p,0,none⟩))) (hrd:=hrb) (hb:=(fun _=>by exact ⟨by omega,by omega,by (intro h; have h2:=congrArg List.length h; rw [List.length_map] at h2; exact absurd h2 (by show ¬ bs.length=0; omega))⟩)) (k:=D4 (ch:=[]) (a:=ba) (q:=j * 1) (S:=S) (cs:=(bs.map fun b=>Value.pointer (some ⟨b.p,0,none⟩))) (v:=pt ((bs.getD j default).p)) (hrd:=hrb) (hS:=(fun y o h=>(At.cons (At.cons (At.cons (At.cons (At.cons (hS y o h)))))))) (hv:=(fun _=>(by rw [Nat.mul_one]; exact ptr_at (by omega)))) (k:=?_))
  refine C4 [0] [0,4,6,19,20,21] (k:=A0 ?_)
  refine A1 (A1 ?_)
  refine K4 (k:=A7 (j:=3) [0,0,0] (k:=?_))
  refine A5 (ch:=[]) (b:=(bs.getD j default).p) (off:=0) (v:=.slice ((stB bs ks j).1.getD j default).an (((stB bs ks j).1.getD j default).n) (((stB bs ks j).1.getD j default).cn)) (hA:=At.grp 2 j rfl (Q6 hjl)) (k:=A7 (j:=8) [0,0,0,0] (k:=?_))
  refine A5 (ch:=[]) (b:=(bs.getD j default).p) (off:=1) (v:=.slice ((stB bs ks j).1.getD j default).ak (((stB bs ks j).1.getD j default).m) (((stB bs ks j).1.getD j default).ck)) (hA:=At.grp 2 j rfl (Q6 hjl)) (k:=A7 (j:=11) [0,0] (k:=?_))
  refine F2 35 (((((stB bs ks j).1.getD j default).n:Nat):Int) - ((((stB bs ks j).1.getD j default).m:Nat):Int)) (by omega) (by omega) kr (C4 [0] [0,4,6,7,19,20,21] (k:=?_))
  refine A0 (A1 ?_)
  refine G_p [0,0] [0,4,6,7,19,20,21,37] (k:=A0 ?_)
  refine C6 (b:=decide ((((((stB bs ks j).1.getD j default).n:Nat):Int) - ((((stB bs ks j).1.getD j default).m:Nat):Int)) > 0)) kr (fun hc4=>?_) (fun hc4=>?_)
  ·
   replace hc4:=of_decide_eq_true hc4
   refine G_join (T:=Unit) (fun _=>[⟨0,[],pt d⟩,⟨4,[],.func (.func 69) #[] #[pt b1]⟩,⟨6,[],pt ((bs.getD j default).p)⟩,⟨19,[],.slice ba bs.length bc⟩,⟨20,[],.int .i64 ((bs.length:Nat):Int)⟩,⟨21,[],.int .i64 ((j:Nat):Int)⟩]) (fun _=>([(b1,.cells #[.slice (G1 (stB bs ks j).2).a ((G1 (stB bs ks j).2).l.length) ((G1 (stB bs ks j).2).c)] 49 (0,0))]::[(d,.cells #[.int .i64 room,.slice ba bs.length bc,.map (some nb),.map (some kb),.map (some cb),.bool fails,.bool once,.int .i64 calls] 72 (0,0))]::G9 ((stB bs ks j).1.set j ⟨(bs.getD j default).p,((stB bs ks j).1.getD j default).an,((stB bs ks j).1.getD j default).n,((stB bs ks j).1.getD j default).cn,(J4 ((stB bs ks j).1.getD j default).an (((stB bs ks j).1.getD j default).cn) 0 1),(Int.toNat (((((stB bs ks j).1.getD j default).m:Nat):Int)+(F1 ((stB bs ks j).2.l.headD 0) ((((((stB bs ks j).1.getD j default).n:Nat):Int) - ((((stB bs ks j).1.getD j default).m:Nat):Int))+1)))) - 0,((stB bs ks j).1.getD j default).cn - 0⟩)::[(kb,.map (B2 km) kc)]::[(cb,.map (B2 cm) cc)]::H)) (fun _=>True) ?_ ?_
   ·
    refine D7 ([(d,.cells #[.int .i64 room,.slice ba bs.length bc,.map (some nb),.map (some kb),.map (some cb),.bool fails,.bool once,.int .i64 calls] 72 (0,0))]::[(kb,.map (B2 km) kc)]::[(cb,.map (B2 cm) cc)]::H) kr (D0 (fuel:=17) [(0,0),(1,0)] (fun w h=>((h.erase 2).erase 0)) (k:=?_))
    refine G0 (ad:=⟨(bs.getD j default).p,0,none⟩) 2 (hL:=(fun w h=>((h.erase 2).erase 0))) (k:=D0 (fuel:=14) [(3,0),(5,0)] (fun w h=>((h.erase 2).erase 0)) (k:=?_))
    refine G0 (ad:=⟨(bs.getD j default).p,0,none⟩) 6 (hL:=(fun w h=>((h.erase 2).erase 0))) (k:=D0 (fuel:=9) [(7,0),(10,0),(11,0),(12,0)] (fun w h=>((h.erase 2).erase 0)) (k:=?_))
    refine O7 50 ((((((stB bs ks j).1.getD j default).n:Nat):Int) - ((((stB bs ks j).1.getD j default).m:Nat):Int))+1) (by omega) (by omega) kr (GH_eff3 4 8 13 kr kr kr kr kr kr kr ?_ ?_ ?_)
    ·
     refine A5 (ch:=[]) (b:=(bs.getD j default).p) (off:=0) (v:=.slice ((stB bs ks j).1.getD j default).an (((stB bs ks j).1.getD j default).n) (((stB bs ks j).1.getD j default).cn)) (hA:=At.grp 2 j rfl (Q6 hjl)) (k:=A6 kr (fun w h=>((h.erase 2).erase 0)) ?_)
     refine O0 8 13 (k:=?_) (k':=?_)
     ·
      refine A5 (ch:=[]) (b:=(bs.getD j default).p) (off:=1) (v:=.slice ((stB bs ks j).1.getD j default).ak (((stB bs ks j).1.getD j default).m) (((stB bs ks j).1.getD j default).ck)) (hA:=At.grp 2 j rfl (Q6 hjl)) (k:=A6 kr (fun w h=>((h.erase 2).erase 0)) ?_)
      refine R9 (v:=.int .i64 ((((stB bs ks j).1.getD j default).m:Nat):Int)) 9 (hL:=(fun w h=>((h.erase 2).erase 0))) (k:=B9 13 (k:=?_))
      refine N1 (ch:=[]) (f:=69) (fst:=#[]) (caps:=#[pt b1]) (vs:=[.int .i64 ((((((stB bs ks j).1.getD j default).n:Nat):Int) - ((((stB bs ks j).1.getD j default).m:Nat):Int))+1)]) (hf:=Tryz.func69) (hsure:=J0 kr) (hc:=vNextA b1 (stB bs ks j).2 ((((((stB bs ks j).1.getD j default).n:Nat):Int) - ((((stB bs ks j).1.getD j default).m:Nat):Int))+1) (by omega) S (stB_ok hks j) _ _ (fun y o h=>(At.cons (At.cons (At.cons (At.cons (hS y o h))))))) (k:=?_)
      rintro v H' ⟨rfl,rfl⟩
      have hnx:=R6 (k:=(stB bs ks j).2.l.headD 0) (n:=(((((stB bs ks j).1.getD j default).n:Nat):Int) - ((((stB bs ks j).1.getD j default).m:Nat):Int))+1) (by omega)
      refine A6 kr (fun w h=>((h.erase 2).erase 0)) (D0 (fuel:=4) [(14,0)] (fun w h=>((h.erase 2).erase 0)) (k:=?_))
      refine O7 52 (((((stB bs ks j).1.getD j default).m:Nat):Int)+(F1 ((stB bs ks j).2.l.headD 0) ((((((stB bs ks j).1.getD j default).n:Nat):Int) - ((((stB bs ks j).1.getD j default).m:Nat):Int))+1))) (by omega) (by omega) kr (A9 15 (hL:=(fun w h=>((h.erase 2).erase 0))) (hy:=O5 (i:=15) (ch:=[]) (a:=((stB bs ks j).1.getD j default).an) (len:=((stB bs ks j).1.getD j default).n) (cap:=((stB bs ks j).1.getD j default).cn) (e:=5) (sz:=1) (vl:=none) (vh:=(some (.int .i64 (((((stB bs ks j).1.getD j default).m:Nat):Int)+(F1 ((stB bs ks j).2.l.headD 0) ((((((stB bs ks j).1.getD j default).n:Nat):Int) - ((((stB bs ks j).1.getD j default).m:Nat):Int))+1)))))) (l:=0) (h:=((((stB bs ks j).1.getD j default).m:Nat):Int)+(F1 ((stB bs ks j).2.l.headD 0) ((((((stB bs ks j).1.getD j default).n:Nat):Int) - ((((stB bs ks j).1.getD j default).m:Nat):Int))+1))) (hb:=(fun _=>by omega)) (k:=B1 kr rfl)) (k:=?_))
      refine G0 (ad:=⟨(bs.getD j default).p,0,none⟩) 16 (hL:=(fun w h=>((h.erase 2).erase 0))) (k:=D0 (fuel:=1) [(17,0)] (fun w h=>((h.erase 2).erase 0)) (k:=?_))
      refine B9 18 (k:=M7 (ch:=[]) (b:=(bs.getD j default).p) (off:=1) (v:=.slice (J4 ((stB bs ks j).1.getD j default).an (((stB bs ks j).1.getD j default).cn) 0 1) ((Int.toNat (((((stB bs ks j).1.getD j default).m:Nat):Int)+(F1 ((stB bs ks j).2.l.headD 0) ((((((stB bs ks j).1.getD j default).n:Nat):Int) - ((((stB bs ks j).1.getD j default).m:Nat):Int))+1)))) - 0) (((stB bs ks j).1.getD j default).cn - 0)) (c:=#[.slice ((stB bs ks j).1.getD j default).an (((stB bs ks j).1.getD j default).n) (((stB bs ks j).1.getD j default).cn),.slice ((stB bs ks j).1.getD j default).ak (((stB bs ks j).1.getD j default).m) (((stB bs ks j).1.getD j default).ck)]) (c':=#[.slice ((stB bs ks j).1.getD j default).an (((stB bs ks j).1.getD j default).n) (((stB bs ks j).1.getD j default).cn),.slice (J4 ((stB bs ks j).1.getD j default).an (((stB bs ks j).1.getD j default).cn) 0 1) ((Int.toNat (((((stB bs ks j).1.getD j default).m:Nat):Int)+(F1 ((stB bs ks j).2.l.headD 0) ((((((stB bs ks j).1.getD j default).n:Nat):Int) - ((((stB bs ks j).1.getD j default).m:Nat):Int))+1)))) - 0) (((stB bs ks j).1.getD j default).cn - 0)]) (j:=2) (m:=j) (H':=([(b1,.cells #[.slice (G1 (stB bs ks j).2).a ((G1 (stB bs ks j).2).l.length) ((G1 (stB bs ks j).2).c)] 49 (0,0))]::[(d,.cells #[.int .i64 room,.slice ba bs.length bc,.map (some nb),.map (some kb),.map (some cb),.bool fails,.bool once,.int .i64 calls] 72 (0,0))]::G9 ((stB bs ks j).1.set j ⟨(bs.getD j default).p,((stB bs ks j).1.getD j default).an,((stB bs ks j).1.getD j default).n,((stB bs ks j).1.getD j default).cn,(J4 ((stB bs ks j).1.getD j default).an (((stB bs ks j).1.getD j default).cn) 0 1),(Int.toNat (((((stB bs ks j).1.getD j default).m:Nat):Int)+(F1 ((stB bs ks j).2.l.headD 0) ((((((stB bs ks j).1.getD j default).n:Nat):Int) - ((((stB bs ks j).1.getD j default).m:Nat):Int))+1)))) - 0,((stB bs ks j).1.getD j default).cn - 0⟩)::[(kb,.map (B2 km) kc)]::[(cb,.map (B2 cm) cc)]::H)) (hi:=Q6 hjl) (hoff:=Nat.le_of_ble_eq_true rfl) (hfz:=(fun _ _=>F0)) (hH':=congrArg (List.set ([(b1,.cells #[.slice (G1 (stB bs ks j).2).a ((G1 (stB bs ks j).2).l.length) ((G1 (stB bs ks j).2).c)] 49 (0,0))]::[(d,.cells #[.int .i64 room,.slice ba bs.length bc,.map (some nb),.map (some kb),.map (some cb),.bool fails,.bool once,.int .i64 calls] 72 (0,0))]::G9 (stB bs ks j).1::[(kb,.map (B2 km) kc)]::[(cb,.map (B2 cm) cc)]::H) 2) (V0 (stB bs ks j).1 j ⟨(bs.getD j default).p,((stB bs ks j).1.getD j default).an,((stB bs ks j).1.getD j default).n,((stB bs ks j).1.getD j default).cn,(J4 ((stB bs ks j).1.getD j default).an (((stB bs ks j).1.getD j default).cn) 0 1),(Int.toNat (((((stB bs ks j).1.getD j default).m:Nat):Int)+(F1 ((stB bs ks j).2.l.headD 0) ((((((stB bs ks j).1.getD j default).n:Nat):Int) - ((((stB bs ks j).1.getD j default).m:Nat):Int))+1)))) - 0,((stB bs ks j).1.getD j default).cn - 0⟩)) (k:=?_))
      refine A6 kr (fun w h=>((h.erase 2).erase 0)) (D8 (E':=[⟨0,[],pt d⟩,⟨4,[],.func (.func 69) #[] #[pt b1]⟩,⟨6,[],pt ((bs.getD j default).p)⟩,⟨19,[],.slice ba bs.length bc⟩,⟨20,[],.int .i64 ((bs.length:Nat):Int)⟩,⟨21,[],.int .i64 ((j:Nat):Int)⟩]) [0,4,6,19,20,21] (k:=?_))
      refine M9 () [0,4,6,19,20,21] kr (fun w h=>h) trivial
     ·
      refine N1 (ch:=[]) (f:=69) (fst:=#[]) (caps:=#[pt b1]) (vs:=[.int .i64 ((((((stB bs ks j).1.getD j default).n:Nat):Int) - ((((stB bs ks j).1.getD j default).m:Nat):Int))+1)]) (hf:=Tryz.func69) (hsure:=J0 kr) (hc:=vNextA b1 (stB bs ks j).2 ((((((stB bs ks j).1.getD j default).n:Nat):Int) - ((((stB bs ks j).1.getD j default).m:Nat):Int))+1) (by omega) S (stB_ok hks j) _ _ (fun y o h=>(At.cons (At.cons (At.cons (At.cons (hS y o h))))))) (k:=?_)
      rintro v H' ⟨rfl,rfl⟩
      have hnx:=R6 (k:=(stB bs ks j).2.l.headD 0) (n:=(((((stB bs ks j).1.getD j default).n:Nat):Int) - ((((stB bs ks j).1.getD j default).m:Nat):Int))+1) (by omega)
      refine A6 kr (fun w h=>((h.erase 2).erase 0)) (B9 8 (k:=?_))
      refine A5 (ch:=[]) (b:=(bs.getD j default).p) (off:=1) (v:=.slice ((stB bs ks j).1.getD j default).ak (((stB bs ks j).1.getD j default).m) (((stB bs ks j).1.getD j default).ck)) (hA:=At.grp 2 j rfl (Q6 hjl)) (k:=A6 kr (fun w h=>((h.erase 2).erase 0)) ?_)
      refine R9 (v:=.int .i64 ((((stB bs ks j).1.getD j default).m:Nat):Int)) 9 (hL:=(fun w h=>((h.erase 2).erase 0))) (k:=D0 (fuel:=4) [(14,0)] (fun w h=>((h.erase 2).erase 0)) (k:=?_))
      refine O7 52 (((((stB bs ks j).1.getD j default).m:Nat):Int)+(F1 ((stB bs ks j).2.l.headD 0) ((((((stB bs ks j).1.getD j default).n:Nat):Int) - ((((stB bs ks j).1.getD j default).m:Nat):Int))+1))) (by omega) (by omega) kr (A9 15 (hL:=(fun w h=>((h.erase 2).erase 0))) (hy:=O5 (i:=15) (ch:=[]) (a:=((stB bs ks j).1.getD j default).an) (len:=((stB bs ks j).1.getD j default).n) (cap:=((stB bs ks j).1.getD j default).cn) (e:=5) (sz:=1) (vl:=none) (vh:=(some (.int .i64 (((((stB bs ks j).1.getD j default).m:Nat):Int)+(F1 ((stB bs ks j).2.l.headD 0) ((((((stB bs ks j).1.getD j default).n:Nat):Int) - ((((stB bs ks j).1.getD j default).m:Nat):Int))+1)))))) (l:=0) (h:=((((stB bs ks j).1.getD j default).m:Nat):Int)+(F1 ((stB bs ks j).2.l.headD 0) ((((((stB bs ks j).1.getD j default).n:Nat):Int) - ((((stB bs ks j).1.getD j default).m:Nat):Int))+1))) (hb:=(fun _=>by omega)) (k:=B1 kr rfl)) (k:=?_))
      refine G0 (ad:=⟨(bs.getD j default).p,0,none⟩) 16 (hL:=(fun w h=>((h.erase 2).erase 0))) (k:=D0 (fuel:=1) [(17,0)] (fun w h=>((h.erase 2).erase 0)) (k:=?_))
      refine B9 18 (k:=M7 (ch:=[]) (b:=(bs.getD j default).p) (off:=1) (v:=.slice (J4 ((stB bs ks j).1.getD j default).an (((stB bs ks j).1.getD j default).cn) 0 1) ((Int.toNat (((((stB bs ks j).1.getD j default).m:Nat):Int)+(F1 ((stB bs ks j).2.l.headD 0) ((((((stB bs ks j).1.getD j default).n:Nat):Int) - ((((stB bs ks j).1.getD j default).m:Nat):Int))+1)))) - 0) (((stB bs ks j).1.getD j default).cn - 0)) (c:=#[.slice ((stB bs ks j).1.getD j default).an (((stB bs ks j).1.getD j default).n) (((stB bs ks j).1.getD j default).cn),.slice ((stB bs ks j).1.getD j default).ak (((stB bs ks j).1.getD j default).m) (((stB bs ks j).1.getD j default).ck)]) (c':=#[.slice ((stB bs ks j).1.getD j default).an (((stB bs ks j).1.getD j default).n) (((stB bs ks j).1.getD j default).cn),.slice (J4 ((stB bs ks j).1.getD j default).an (((stB bs ks j).1.getD j default).cn) 0 1) ((Int.toNat (((((stB bs ks j).1.getD j default).m:Nat):Int)+(F1 ((stB bs ks j).2.l.headD 0) ((((((stB bs ks j).1.getD j default).n:Nat):Int) - ((((stB bs ks j).1.getD j default).m:Nat):Int))+1)))) - 0) (((stB bs ks j).1.getD j default).cn - 0)]) (j:=2) (m:=j) (H':=([(b1,.cells #[.slice (G1 (stB bs ks j).2).a ((G1 (stB bs ks j).2).l.length) ((G1 (stB bs ks j).2).c)] 49 (0,0))]::[(d,.cells #[.int .i64 room,.slice ba bs.length bc,.map (some nb),.map (some kb),.map (some cb),.bool fails,.bool once,.int .i64 calls] 72 (0,0))]::G9 ((stB bs ks j).1.set j ⟨(bs.getD j default).p,((stB bs ks j).1.getD j default).an,((stB bs ks j).1.getD j default).n,((stB bs ks j).1.getD j default).cn,(J4 ((stB bs ks j).1.getD j default).an (((stB bs ks j).1.getD j default).cn) 0 1),(Int.toNat (((((stB bs ks j).1.getD j default).m:Nat):Int)+(F1 ((stB bs ks j).2.l.headD 0) ((((((stB bs ks j).1.getD j default).n:Nat):Int) - ((((stB bs ks j).1.getD j default).m:Nat):Int))+1)))) - 0,((stB bs ks j).1.getD j default).cn - 0⟩)::[(kb,.map (B2 km) kc)]::[(cb,.map (B2 cm) cc)]::H)) (hi:=Q6 hjl) (hoff:=Nat.le_of_ble_eq_true rfl) (hfz:=(fun _ _=>F0)) (hH':=congrArg (List.set ([(b1,.cells #[.slice (G1 (stB bs ks j).2).a ((G1 (stB bs ks j).2).l.length) ((G1 (stB bs ks j).2).c)] 49 (0,0))]::[(d,.cells #[.int .i64 room,.slice ba bs.length bc,.map (some nb),.map (some kb),.map (some cb),.bool fails,.bool once,.int .i64 calls] 72 (0,0))]::G9 (stB bs ks j).1::[(kb,.map (B2 km) kc)]::[(cb,.map (B2 cm) cc)]::H) 2) (V0 (stB bs ks j).1 j ⟨(bs.getD j default).p,((stB bs ks j).1.getD j default).an,((stB bs ks j).1.getD j default).n,((stB bs ks j).1.getD j default).cn,(J4 ((stB bs ks j).1.getD j default).an (((stB bs ks j).1.getD j default).cn) 0 1),(Int.toNat (((((stB bs ks j).1.getD j default).m:Nat):Int)+(F1 ((stB bs ks j).2.l.headD 0) ((((((stB bs ks j).1.getD j default).n:Nat):Int) - ((((stB bs ks j).1.getD j default).m:Nat):Int))+1)))) - 0,((stB bs ks j).1.getD j default).cn - 0⟩)) (k:=?_))
      refine A6 kr (fun w h=>((h.erase 2).erase 0)) (D8 (E':=[⟨0,[],pt d⟩,⟨4,[],.func (.func 69) #[] #[pt b1]⟩,⟨6,[],pt ((bs.getD j default).p)⟩,⟨19,[],.slice ba bs.length bc⟩,⟨20,[],.int .i64 ((bs.length:Nat):Int)⟩,⟨21,[],.int .i64 ((j:Nat):Int)⟩]) [0,4,6,19,20,21] (k:=?_))
      refine M9 () [0,4,6,19,20,21] kr (fun w h=>h) trivial
    ·
     refine A5 (ch:=[]) (b:=(bs.getD j default).p) (off:=1) (v:=.slice ((stB bs ks j).1.getD j default).ak (((stB bs ks j).1.getD j default).m) (((stB bs ks j).1.getD j default).ck)) (hA:=At.grp 2 j rfl (Q6 hjl)) (k:=A6 kr (fun w h=>((h.erase 2).erase 0)) ?_)
     refine R9 (v:=.int .i64 ((((stB bs ks j).1.getD j default).m:Nat):Int)) 9 (hL:=(fun w h=>((h.erase 2).erase 0))) (k:=O0 4 13 (k:=?_) (k':=?_))
     ·
      refine A5 (ch:=[]) (b:=(bs.getD j default).p) (off:=0) (v:=.slice ((stB bs ks j).1.getD j default).an (((stB bs ks j).1.getD j default).n) (((stB bs ks j).1.getD j default).cn)) (hA:=At.grp 2 j rfl (Q6 hjl)) (k:=A6 kr (fun w h=>((h.erase 2).erase 0)) ?_)
      refine B9 13 (k:=N1 (ch:=[]) (f:=69) (fst:=#[]) (caps:=#[pt b1]) (vs:=[.int .i64 ((((((stB bs ks j).1.getD j default).n:Nat):Int) - ((((stB bs ks j).1.getD j default).m:Nat):Int))+1)]) (hf:=Tryz.func69) (hsure:=J0 kr) (hc:=vNextA b1 (stB bs ks j).2 ((((((stB bs ks j).1.getD j default).n:Nat):Int) - ((((stB bs ks j).1.getD j default).m:Nat):Int))+1) (by omega) S (stB_ok hks j) _ _ (fun y o h=>(At.cons (At.cons (At.cons (At.cons (hS y o h))))))) (k:=?_))
      rintro v H' ⟨rfl,rfl⟩
      have hnx:=R6 (k:=(stB bs ks j).2.l.headD 0) (n:=(((((stB bs ks j).1.getD j default).n:Nat):Int) - ((((stB bs ks j).1.getD j default).m:Nat):Int))+1) (by omega)
      refine A6 kr (fun w h=>((h.erase 2).erase 0)) (D0 (fuel:=4) [(14,0)] (fun w h=>((h.erase 2).erase 0)) (k:=?_))
      refine O7 52 (((((stB bs ks j).1.getD j default).m:Nat):Int)+(F1 ((stB bs ks j).2.l.headD 0) ((((((stB bs ks j).1.getD j default).n:Nat):Int) - ((((stB bs ks j).1.getD j default).m:Nat):Int))+1))) (by omega) (by omega) kr (A9 15 (hL:=(fun w h=>((h.erase 2).erase 0))) (hy:=O5 (i:=15) (ch:=[]) (a:=((stB bs ks j).1.getD j default).an) (len:=((stB bs ks j).1.getD j default).n) (cap:=((stB bs ks j).1.getD j default).cn) (e:=5) (sz:=1) (vl:=none) (vh:=(some (.int .i64 (((((stB bs ks j).1.getD j default).m:Nat):Int)+(F1 ((stB bs ks j).2.l.headD 0) ((((((stB bs ks j).1.getD j default).n:Nat):Int) - ((((stB bs ks j).1.getD j default).m:Nat):Int))+1)))))) (l:=0) (h:=((((stB bs ks j).1.getD j default).m:Nat):Int)+(F1 ((stB bs ks j).2.l.headD 0) ((((((stB bs ks j).1.getD j default).n:Nat):Int) - ((((stB bs ks j).1.getD j default).m:Nat):Int))+1))) (hb:=(fun _=>by omega)) (k:=B1 kr rfl)) (k:=?_))
      refine G0 (ad:=⟨(bs.getD j default).p,0,none⟩) 16 (hL:=(fun w h=>((h.erase 2).erase 0))) (k:=D0 (fuel:=1) [(17,0)] (fun w h=>((h.erase 2).erase 0)) (k:=?_))
      refine B9 18 (k:=M7 (ch:=[]) (b:=(bs.getD j default).p) (off:=1) (v:=.slice (J4 ((stB bs ks j).1.getD j default).an (((stB bs ks j).1.getD j default).cn) 0 1) ((Int.toNat (((((stB bs ks j).1.getD j default).m:Nat):Int)+(F1 ((stB bs ks j).2.l.headD 0) ((((((stB bs ks j).1.getD j default).n:Nat):Int) - ((((stB bs ks j).1.getD j default).m:Nat):Int))+1)))) - 0) (((stB bs ks j).1.getD j default).cn - 0)) (c:=#[.slice ((stB bs ks j).1.getD j default).an (((stB bs ks j).1.getD j default).n) (((stB bs ks j).1.getD j default).cn),.slice ((stB bs ks j).1.getD j default).ak (((stB bs ks j).1.getD j default).m) (((stB bs ks j).1.getD j default).ck)]) (c':=#[.slice ((stB bs ks j).1.getD j default).an (((stB bs ks j).1.getD j default).n) (((stB bs ks j).1.getD j default).cn),.slice (J4 ((stB bs ks j).1.getD j default).an (((stB bs ks j).1.getD j default).cn) 0 1) ((Int.toNat (((((stB bs ks j).1.getD j default).m:Nat):Int)+(F1 ((stB bs ks j).2.l.headD 0) ((((((stB bs ks j).1.getD j default).n:Nat):Int) - ((((stB bs ks j).1.getD j default).m:Nat):Int))+1)))) - 0) (((stB bs ks j).1.getD j default).cn - 0)]) (j:=2) (m:=j) (H':=([(b1,.cells #[.slice (G1 (stB bs ks j).2).a ((G1 (stB bs ks j).2).l.length) ((G1 (stB bs ks j).2).c)] 49 (0,0))]::[(d,.cells #[.int .i64 room,.slice ba bs.length bc,.map (some nb),.map (some kb),.map (some cb),.bool fails,.bool once,.int .i64 calls] 72 (0,0))]::G9 ((stB bs ks j).1.set j ⟨(bs.getD j default).p,((stB bs ks j).1.getD j default).an,((stB bs ks j).1.getD j default).n,((stB bs ks j).1.getD j default).cn,(J4 ((stB bs ks j).1.getD j default).an (((stB bs ks j).1.getD j default).cn) 0 1),(Int.toNat (((((stB bs ks j).1.getD j default).m:Nat):Int)+(F1 ((stB bs ks j).2.l.headD 0) ((((((stB bs ks j).1.getD j default).n:Nat):Int) - ((((stB bs ks j).1.getD j default).m:Nat):Int))+1)))) - 0,((stB bs ks j).1.getD j default).cn - 0⟩)::[(kb,.map (B2 km) kc)]::[(cb,.map (B2 cm) cc)]::H)) (hi:=Q6 hjl) (hoff:=Nat.le_of_ble_eq_true rfl) (hfz:=(fun _ _=>F0)) (hH':=congrArg (List.set ([(b1,.cells #[.slice (G1 (stB bs ks j).2).a ((G1 (stB bs ks j).2).l.length) ((G1 (stB bs ks j).2).c)] 49 (0,0))]::[(d,.cells #[.int .i64 room,.slice ba bs.length bc,.map (some nb),.map (some kb),.map (some cb),.bool fails,.bool once,.int .i64 calls] 72 (0,0))]::G9 (stB bs ks j).1::[(kb,.map (B2 km) kc)]::[(cb,.map (B2 cm) cc)]::H) 2) (V0 (stB bs ks j).1 j ⟨(bs.getD j default).p,((stB bs ks j).1.getD j default).an,((stB bs ks j).1.getD j default).n,((stB bs ks j).1.getD j default).cn,(J4 ((stB bs ks j).1.getD j default).an (((stB bs ks j).1.getD j default).cn) 0 1),(Int.toNat (((((stB bs ks j).1.getD j default).m:Nat):Int)+(F1 ((stB bs ks j).2.l.headD 0) ((((((stB bs ks j).1.getD j default).n:Nat):Int) - ((((stB bs ks j).1.getD j default).m:Nat):Int))+1)))) - 0,((stB bs ks j).1.getD j default).cn - 0⟩)) (k:=?_))
      refine A6 kr (fun w h=>((h.erase 2).erase 0)) (D8 (E':=[⟨0,[],pt d⟩,⟨4,[],.func (.func 69) #[] #[pt b1]⟩,⟨6,[],pt ((bs.getD j default).p)⟩,⟨19,[],.slice ba bs.length bc⟩,⟨20,[],.int .i64 ((bs.length:Nat):Int)⟩,⟨21,[],.int .i64 ((j:Nat):Int)⟩]) [0,4,6,19,20,21] (k:=?_))
      refine M9 () [0,4,6,19,20,21] kr (fun w h=>h) trivial
     ·
      refine N1 (ch:=[]) (f:=69) (fst:=#[]) (caps:=#[pt b1]) (vs:=[.int .i64 ((((((stB bs ks j).1.getD j default).n:Nat):Int) - ((((stB bs ks j).1.getD j default).m:Nat):Int))+1)]) (hf:=Tryz.func69) (hsure:=J0 kr) (hc:=vNextA b1 (stB bs ks j).2 ((((((stB bs ks j).1.getD j default).n:Nat):Int) - ((((stB bs ks j).1.getD j default).m:Nat):Int))+1) (by omega) S (stB_ok hks j) _ _ (fun y o h=>(At.cons (At.cons (At.cons (At.cons (hS y o h))))))) (k:=?_)
      rintro v H' ⟨rfl,rfl⟩
      have hnx:=R6 (k:=(stB bs ks j).2.l.headD 0) (n:=(((((stB bs ks j).1.getD j default).n:Nat):Int) - ((((stB bs ks j).1.getD j default).m:Nat):Int))+1) (by omega)
      refine A6 kr (fun w h=>((h.erase 2).erase 0)) (D0 (fuel:=5) [(14,0)] (fun w h=>((h.erase 2).erase 0)) (k:=?_))
      refine O7 52 (((((stB bs ks j).1.getD j default).m:Nat):Int)+(F1 ((stB bs ks j).2.l.headD 0) ((((((stB bs ks j).1.getD j default).n:Nat):Int) - ((((stB bs ks j).1.getD j default).m:Nat):Int))+1))) (by omega) (by omega) kr (B9 4 (k:=?_))
      refine A5 (ch:=[]) (b:=(bs.getD j default).p) (off:=0) (v:=.slice ((stB bs ks j).1.getD j default).an (((stB bs ks j).1.getD j default).n) (((stB bs ks j).1.getD j default).cn)) (hA:=At.grp 2 j rfl (Q6 hjl)) (k:=A6 kr (fun w h=>((h.erase 2).erase 0)) ?_)
      refine A9 15 (hL:=(fun w h=>((h.erase 2).erase 0))) (hy:=O5 (i:=15) (ch:=[]) (a:=((stB bs ks j).1.getD j default).an) (len:=((stB bs ks j).1.getD j default).n) (cap:=((stB bs ks j).1.getD j default).cn) (e:=5) (sz:=1) (vl:=none) (vh:=(some (.int .i64 (((((stB bs ks j).1.getD j default).m:Nat):Int)+(F1 ((stB bs ks j).2.l.headD 0) ((((((stB bs ks j).1.getD j default).n:Nat):Int) - ((((stB bs ks j).1.getD j default).m:Nat):Int))+1)))))) (l:=0) (h:=((((stB bs ks j).1.getD j default).m:Nat):Int)+(F1 ((stB bs ks j).2.l.headD 0) ((((((stB bs ks j).1.getD j default).n:Nat):Int) - ((((stB bs ks j).1.getD j default).m:Nat):Int))+1))) (hb:=(fun _=>by omega)) (k:=B1 kr rfl)) (k:=G0 (ad:=⟨(bs.getD j default).p,0,none⟩) 16 (hL:=(fun w h=>((h.erase 2).erase 0))) (k:=?_))
      refine D0 (fuel:=1) [(17,0)] (fun w h=>((h.erase 2).erase 0)) (k:=B9 18 (k:=?_))
      refine M7 (ch:=[]) (b:=(bs.getD j default).p) (off:=1) (v:=.slice (J4 ((stB bs ks j).1.getD j default).an (((stB bs ks j).1.getD j default).cn) 0 1) ((Int.toNat (((((stB bs ks j).1.getD j default).m:Nat):Int)+(F1 ((stB bs ks j).2.l.headD 0) ((((((stB bs ks j).1.getD j default).n:Nat):Int) - ((((stB bs ks j).1.getD j default).m:Nat):Int))+1)))) - 0) (((stB bs ks j).1.getD j default).cn - 0)) (c:=#[.slice ((stB bs ks j).1.getD j default).an (((stB bs ks j).1.getD j default).n) (((stB bs ks j).1.getD j default).cn),.slice ((stB bs ks j).1.getD j default).ak (((stB bs ks j).1.getD j default).m) (((stB bs ks j).1.getD j default).ck)]) (c':=#[.slice ((stB bs ks j).1.getD j default).an (((stB bs ks j).1.getD j default).n) (((stB bs ks j).1.getD j default).cn),.slice (J4 ((stB bs ks j).1.getD j default).an (((stB bs ks j).1.getD j default).cn) 0 1) ((Int.toNat (((((stB bs ks j).1.getD j default).m:Nat):Int)+(F1 ((stB bs ks j).2.l.headD 0) ((((((stB bs ks j).1.getD j default).n:Nat):Int) - ((((stB bs ks j).1.getD j default).m:Nat):Int))+1)))) - 0) (((stB bs ks j).1.getD j default).cn - 0)]) (j:=2) (m:=j) (H':=([(b1,.cells #[.slice (G1 (stB bs ks j).2).a ((G1 (stB bs ks j).2).l.length) ((G1 (stB bs ks j).2).c)] 49 (0,0))]::[(d,.cells #[.int .i64 room,.slice ba bs.length bc,.map (some nb),.map (some kb),.map (some cb),.bool fails,.bool once,.int .i64 calls] 72 (0,0))]::G9 ((stB bs ks j).1.set j ⟨(bs.getD j default).p,((stB bs ks j).1.getD j default).an,((stB bs ks j).1.getD j default).n,((stB bs ks j).1.getD j default).cn,(J4 ((stB bs ks j).1.getD j default).an (((stB bs ks j).1.getD j default).cn) 0 1),(Int.toNat (((((stB bs ks j).1.getD j default).m:Nat):Int)+(F1 ((stB bs ks j).2.l.headD 0) ((((((stB bs ks j).1.getD j default).n:Nat):Int) - ((((stB bs ks j).1.getD j default).m:Nat):Int))+1)))) - 0,((stB bs ks j).1.getD j default).cn - 0⟩)::[(kb,.map (B2 km) kc)]::[(cb,.map (B2 cm) cc)]::H)) (hi:=Q6 hjl) (hoff:=Nat.le_of_ble_eq_true rfl) (hfz:=(fun _ _=>F0)) (hH':=congrArg (List.set ([(b1,.cells #[.slice (G1 (stB bs ks j).2).a ((G1 (stB bs ks j).2).l.length) ((G1 (stB bs ks j).2).c)] 49 (0,0))]::[(d,.cells #[.int .i64 room,.slice ba bs.length bc,.map (some nb),.map (some kb),.map (some cb),.bool fails,.bool once,.int .i64 calls] 72 (0,0))]::G9 (stB bs ks j).1::[(kb,.map (B2 km) kc)]::[(cb,.map (B2 cm) cc)]::H) 2) (V0 (stB bs ks j).1 j ⟨(bs.getD j default).p,((stB bs ks j).1.getD j default).an,((stB bs ks j).1.getD j default).n,((stB bs ks j).1.getD j default).cn,(J4 ((stB bs ks j).1.getD j default).an (((stB bs ks j).1.getD j default).cn) 0 1),(Int.toNat (((((stB bs ks j).1.getD j default).m:Nat):Int)+(F1 ((stB bs ks j).2.l.headD 0) ((((((stB bs ks j).1.getD j default).n:Nat):Int) - ((((stB bs ks j).1.getD j default).m:Nat):Int))+1)))) - 0,((stB bs ks j).1.getD j default).cn - 0⟩)) (k:=A6 kr (fun w h=>((h.erase 2).erase 0)) ?_)
      refine D8 (E':=[⟨0,[],pt d⟩,⟨4,[],.func (.func 69) #[] #[pt b1]⟩,⟨6,[],pt ((bs.getD j default).p)⟩,⟨19,[],.slice ba bs.length bc⟩,⟨20,[],.int .i64 ((bs.length:Nat):Int)⟩,⟨21,[],.int .i64 ((j:Nat):Int)⟩]) [0,4,6,19,20,21] (k:=M9 () [0,4,6,19,20,21] kr (fun w h=>h) trivial)
    ·
     refine N1 (ch:=[]) (f:=69) (fst:=#[]) (caps:=#[pt b1]) (vs:=[.int .i64 ((((((stB bs ks j).1.getD j default).n:Nat):Int) - ((((stB bs ks j).1.getD j default).m:Nat):Int))+1)]) (hf:=Tryz.func69) (hsure:=J0 kr) (hc:=vNextA b1 (stB bs ks j).2 ((((((stB bs ks j).1.getD j default).n:Nat):Int) - ((((stB bs ks j).1.getD j default).m:Nat):Int))+1) (by omega) S (stB_ok hks j) _ _ (fun y o h=>(At.cons (At.cons (At.cons (At.cons (hS y o h))))))) (k:=?_)
     rintro v H' ⟨rfl,rfl⟩
     have hnx:=R6 (k:=(stB bs ks j).2.l.headD 0) (n:=(((((stB bs ks j).1.getD j default).n:Nat):Int) - ((((stB bs ks j).1.getD j default).m:Nat):Int))+1) (by omega)
     refine A6 kr (fun w h=>((h.erase 2).erase 0)) (O0 4 8 (k:=?_) (k':=?_))
     ·
      refine A5 (ch:=[]) (b:=(bs.getD j default).p) (off:=0) (v:=.slice ((stB bs ks j).1.getD j default).an (((stB bs ks j).1.getD j default).n) (((stB bs ks j).1.getD j default).cn)) (hA:=At.grp 2 j rfl (Q6 hjl)) (k:=A6 kr (fun w h=>((h.erase 2).erase 0)) ?_)
      refine B9 8 (k:=A5 (ch:=[]) (b:=(bs.getD j default).p) (off:=1) (v:=.slice ((stB bs ks j).1.getD j default).ak (((stB bs ks j).1.getD j default).m) (((stB bs ks j).1.getD j default).ck)) (hA:=At.grp 2 j rfl (Q6 hjl)) (k:=?_))
      refine A6 kr (fun w h=>((h.erase 2).erase 0)) (R9 (v:=.int .i64 ((((stB bs ks j).1.getD j default).m:Nat):Int)) 9 (hL:=(fun w h=>((h.erase 2).erase 0))) (k:=?_))
      refine D0 (fuel:=4) [(14,0)] (fun w h=>((h.erase 2).erase 0)) (k:=O7 52 (((((stB bs ks j).1.getD j default).m:Nat):Int)+(F1 ((stB bs ks j).2.l.headD 0) ((((((stB bs ks j).1.getD j default).n:Nat):Int) - ((((stB bs ks j).1.getD j default).m:Nat):Int))+1))) (by omega) (by omega) kr ?_)
      refine A9 15 (hL:=(fun w h=>((h.erase 2).erase 0))) (hy:=O5 (i:=15) (ch:=[]) (a:=((stB bs ks j).1.getD j default).an) (len:=((stB bs ks j).1.getD j default).n) (cap:=((stB bs ks j).1.getD j default).cn) (e:=5) (sz:=1) (vl:=none) (vh:=(some (.int .i64 (((((stB bs ks j).1.getD j default).m:Nat):Int)+(F1 ((stB bs ks j).2.l.headD 0) ((((((stB bs ks j).1.getD j default).n:Nat):Int) - ((((stB bs ks j).1.getD j default).m:Nat):Int))+1)))))) (l:=0) (h:=((((stB bs ks j).1.getD j default).m:Nat):Int)+(F1 ((stB bs ks j).2.l.headD 0) ((((((stB bs ks j).1.getD j default).n:Nat):Int) - ((((stB bs ks j).1.getD j default).m:Nat):Int))+1))) (hb:=(fun _=>by omega)) (k:=B1 kr rfl)) (k:=G0 (ad:=⟨(bs.getD j default).p,0,none⟩) 16 (hL:=(fun w h=>((h.erase 2).erase 0))) (k:=?_))
      refine D0 (fuel:=1) [(17,0)] (fun w h=>((h.erase 2).erase 0)) (k:=B9 18 (k:=?_))
      refine M7 (ch:=[]) (b:=(bs.getD j default).p) (off:=1) (v:=.slice (J4 ((stB bs ks j).1.getD j default).an (((stB bs ks j).1.getD j default).cn) 0 1) ((Int.toNat (((((stB bs ks j).1.getD j default).m:Nat):Int)+(F1 ((stB bs ks j).2.l.headD 0) ((((((stB bs ks j).1.getD j default).n:Nat):Int) - ((((stB bs ks j).1.getD j default).m:Nat):Int))+1)))) - 0) (((stB bs ks j).1.getD j default).cn - 0)) (c:=#[.slice ((stB bs ks j).1.getD j default).an (((stB bs ks j).1.getD j default).n) (((stB bs ks j).1.getD j default).cn),.slice ((stB bs ks j).1.getD j default).ak (((stB bs ks j).1.getD j default).m) (((stB bs ks j).1.getD j default).ck)]) (c':=#[.slice ((stB bs ks j).1.getD j default).an (((stB bs ks j).1.getD j default).n) (((stB bs ks j).1.getD j default).cn),.slice (J4 ((stB bs ks j).1.getD j default).an (((stB bs ks j).1.getD j default).cn) 0 1) ((Int.toNat (((((stB bs ks j).1.getD j default).m:Nat):Int)+(F1 ((stB bs ks j).2.l.headD 0) ((((((stB bs ks j).1.getD j default).n:Nat):Int) - ((((stB bs ks j).1.getD j default).m:Nat):Int))+1)))) - 0) (((stB bs ks j).1.getD j default).cn - 0)]) (j:=2) (m:=j) (H':=([(b1,.cells #[.slice (G1 (stB bs ks j).2).a ((G1 (stB bs ks j).2).l.length) ((G1 (stB bs ks j).2).c)] 49 (0,0))]::[(d,.cells #[.int .i64 room,.slice ba bs.length bc,.map (some nb),.map (some kb),.map (some cb),.bool fails,.bool once,.int .i64 calls] 72 (0,0))]::G9 ((stB bs ks j).1.set j ⟨(bs.getD j default).p,((stB bs ks j).1.getD j default).an,((stB bs ks j).1.getD j default).n,((stB bs ks j).1.getD j default).cn,(J4 ((stB bs ks j).1.getD j default).an (((stB bs ks j).1.getD j default).cn) 0 1),(Int.toNat (((((stB bs ks j).1.getD j default).m:Nat):Int)+(F1 ((stB bs ks j).2.l.headD 0) ((((((stB bs ks j).1.getD j default).n:Nat):Int) - ((((stB bs ks j).1.getD j default).m:Nat):Int))+1)))) - 0,((stB bs ks j).1.getD j default).cn - 0⟩)::[(kb,.map (B2 km) kc)]::[(cb,.map (B2 cm) cc)]::H)) (hi:=Q6 hjl) (hoff:=Nat.le_of_ble_eq_true rfl) (hfz:=(fun _ _=>F0)) (hH':=congrArg (List.set ([(b1,.cells #[.slice (G1 (stB bs ks j).2).a ((G1 (stB bs ks j).2).l.length) ((G1 (stB bs ks j).2).c)] 49 (0,0))]::[(d,.cells #[.int .i64 room,.slice ba bs.length bc,.map (some nb),.map (some kb),.map (some cb),.bool fails,.bool once,.int .i64 calls] 72 (0,0))]::G9 (stB bs ks j).1::[(kb,.map (B2 km) kc)]::[(cb,.map (B2 cm) cc)]::H) 2) (V0 (stB bs ks j).1 j ⟨(bs.getD j default).p,((stB bs ks j).1.getD j default).an,((stB bs ks j).1.getD j default).n,((stB bs ks j).1.getD j default).cn,(J4 ((stB bs ks j).1.getD j default).an (((stB bs ks j).1.getD j default).cn) 0 1),(Int.toNat (((((stB bs ks j).1.getD j default).m:Nat):Int)+(F1 ((stB bs ks j).2.l.headD 0) ((((((stB bs ks j).1.getD j default).n:Nat):Int) - ((((stB bs ks j).1.getD j default).m:Nat):Int))+1)))) - 0,((stB bs ks j).1.getD j default).cn - 0⟩)) (k:=A6 kr (fun w h=>((h.erase 2).erase 0)) ?_)
      refine D8 (E':=[⟨0,[],pt d⟩,⟨4,[],.func (.func 69) #[] #[pt b1]⟩,⟨6,[],pt ((bs.getD j default).p)⟩,⟨19,[],.slice ba bs.length bc⟩,⟨20,[],.int .i64 ((bs.length:Nat):Int)⟩,⟨21,[],.int .i64 ((j:Nat):Int)⟩]) [0,4,6,19,20,21] (k:=M9 () [0,4,6,19,20,21] kr (fun w h=>h) trivial)
     ·
      refine A5 (ch:=[]) (b:=(bs.getD j default).p) (off:=1) (v:=.slice ((stB bs ks j).1.getD j default).ak (((stB bs ks j).1.getD j default).m) (((stB bs ks j).1.getD j default).ck)) (hA:=At.grp 2 j rfl (Q6 hjl)) (k:=A6 kr (fun w h=>((h.erase 2).erase 0)) ?_)
      refine R9 (v:=.int .i64 ((((stB bs ks j).1.getD j default).m:Nat):Int)) 9 (hL:=(fun w h=>((h.erase 2).erase 0))) (k:=D0 (fuel:=5) [(14,0)] (fun w h=>((h.erase 2).erase 0)) (k:=?_))
      refine O7 52 (((((stB bs ks j).1.getD j default).m:Nat):Int)+(F1 ((stB bs ks j).2.l.headD 0) ((((((stB bs ks j).1.getD j default).n:Nat):Int) - ((((stB bs ks j).1.getD j default).m:Nat):Int))+1))) (by omega) (by omega) kr (B9 4 (k:=?_))
      refine A5 (ch:=[]) (b:=(bs.getD j default).p) (off:=0) (v:=.slice ((stB bs ks j).1.getD j default).an (((stB bs ks j).1.getD j default).n) (((stB bs ks j).1.getD j default).cn)) (hA:=At.grp 2 j rfl (Q6 hjl)) (k:=A6 kr (fun w h=>((h.erase 2).erase 0)) ?_)
      refine A9 15 (hL:=(fun w h=>((h.erase 2).erase 0))) (hy:=O5 (i:=15) (ch:=[]) (a:=((stB bs ks j).1.getD j default).an) (len:=((stB bs ks j).1.getD j default).n) (cap:=((stB bs ks j).1.getD j default).cn) (e:=5) (sz:=1) (vl:=none) (vh:=(some (.int .i64 (((((stB bs ks j).1.getD j default).m:Nat):Int)+(F1 ((stB bs ks j).2.l.headD 0) ((((((stB bs ks j).1.getD j default).n:Nat):Int) - ((((stB bs ks j).1.getD j default).m:Nat):Int))+1)))))) (l:=0) (h:=((((stB bs ks j).1.getD j default).m:Nat):Int)+(F1 ((stB bs ks j).2.l.headD 0) ((((((stB bs ks j).1.getD j default).n:Nat):Int) - ((((stB bs ks j).1.getD j default).m:Nat):Int))+1))) (hb:=(fun _=>by omega)) (k:=B1 kr rfl)) (k:=G0 (ad:=⟨(bs.getD j default).p,0,none⟩) 16 (hL:=(fun w h=>((h.erase 2).erase 0))) (k:=?_))
      refine D0 (fuel:=1) [(17,0)] (fun w h=>((h.erase 2).erase 0)) (k:=B9 18 (k:=?_))
      refine M7 (ch:=[]) (b:=(bs.getD j default).p) (off:=1) (v:=.slice (J4 ((stB bs ks j).1.getD j default).an (((stB bs ks j).1.getD j default).cn) 0 1) ((Int.toNat (((((stB bs ks j).1.getD j default).m:Nat):Int)+(F1 ((stB bs ks j).2.l.headD 0) ((((((stB bs ks j).1.getD j default).n:Nat):Int) - ((((stB bs ks j).1.getD j default).m:Nat):Int))+1)))) - 0) (((stB bs ks j).1.getD j default).cn - 0)) (c:=#[.slice ((stB bs ks j).1.getD j default).an (((stB bs ks j).1.getD j default).n) (((stB bs ks j).1.getD j default).cn),.slice ((stB bs ks j).1.getD j default).ak (((stB bs ks j).1.getD j default).m) (((stB bs ks j).1.getD j default).ck)]) (c':=#[.slice ((stB bs ks j).1.getD j default).an (((stB bs ks j).1.getD j default).n) (((stB bs ks j).1.getD j default).cn),.slice (J4 ((stB bs ks j).1.getD j default).an (((stB bs ks j).1.getD j default).cn) 0 1) ((Int.toNat (((((stB bs ks j).1.getD j default).m:Nat):Int)+(F1 ((stB bs ks j).2.l.headD 0) ((((((stB bs ks j).1.getD j default).n:Nat):Int) - ((((stB bs ks j).1.getD j default).m:Nat):Int))+1)))) - 0) (((stB bs ks j).1.getD j default).cn - 0)]) (j:=2) (m:=j) (H':=([(b1,.cells #[.slice (G1 (stB bs ks j).2).a ((G1 (stB bs ks j).2).l.length) ((G1 (stB bs ks j).2).c)] 49 (0,0))]::[(d,.cells #[.int .i64 room,.slice ba bs.length bc,.map (some nb),.map (some kb),.map (some cb),.bool fails,.bool once,.int .i64 calls] 72 (0,0))]::G9 ((stB bs ks j).1.set j ⟨(bs.getD j default).p,((stB bs ks j).1.getD j default).an,((stB bs ks j).1.getD j default).n,((stB bs ks j).1.getD j default).cn,(J4 ((stB bs ks j).1.getD j default).an (((stB bs ks j).1.getD j default).cn) 0 1),(Int.toNat (((((stB bs ks j).1.getD j default).m:Nat):Int)+(F1 ((stB bs ks j).2.l.headD 0) ((((((stB bs ks j).1.getD j default).n:Nat):Int) - ((((stB bs ks j).1.getD j default).m:Nat):Int))+1)))) - 0,((stB bs ks j).1.getD j default).cn - 0⟩)::[(kb,.map (B2 km) kc)]::[(cb,.map (B2 cm) cc)]::H)) (hi:=Q6 hjl) (hoff:=Nat.le_of_ble_eq_true rfl) (hfz:=(fun _ _=>F0)) (hH':=congrArg (List.set ([(b1,.cells #[.slice (G1 (stB bs ks j).2).a ((G1 (stB bs ks j).2).l.length) ((G1 (stB bs ks j).2).c)] 49 (0,0))]::[(d,.cells #[.int .i64 room,.slice ba bs.length bc,.map (some nb),.map (some kb),.map (some cb),.bool fails,.bool once,.int .i64 calls] 72 (0,0))]::G9 (stB bs ks j).1::[(kb,.map (B2 km) kc)]::[(cb,.map (B2 cm) cc)]::H) 2) (V0 (stB bs ks j).1 j ⟨(bs.getD j default).p,((stB bs ks j).1.getD j default).an,((stB bs ks j).1.getD j default).n,((stB bs ks j).1.getD j default).cn,(J4 ((stB bs ks j).1.getD j default).an (((stB bs ks j).1.getD j default).cn) 0 1),(Int.toNat (((((stB bs ks j).1.getD j default).m:Nat):Int)+(F1 ((stB bs ks j).2.l.headD 0) ((((((stB bs ks j).1.getD j default).n:Nat):Int) - ((((stB bs ks j).1.getD j default).m:Nat):Int))+1)))) - 0,((stB bs ks j).1.getD j default).cn - 0⟩)) (k:=A6 kr (fun w h=>((h.erase 2).erase 0)) ?_)
      refine D8 (E':=[⟨0,[],pt d⟩,⟨4,[],.func (.func 69) #[] #[pt b1]⟩,⟨6,[],pt ((bs.getD j default).p)⟩,⟨19,[],.slice ba bs.length bc⟩,⟨20,[],.int .i64 ((bs.length:Nat):Int)⟩,⟨21,[],.int .i64 ((j:Nat):Int)⟩]) [0,4,6,19,20,21] (k:=M9 () [0,4,6,19,20,21] kr (fun w h=>h) trivial)
   ·
    rintro _ _
    refine A0 (A2 ?_)
    refine A7 (j:=4) [0,0,0,0] (k:=A5 (ch:=[]) (b:=(bs.getD j default).p) (off:=1) (v:=.slice (J4 ((stB bs ks j).1.getD j default).an (((stB bs ks j).1.getD j default).cn) 0 1) ((Int.toNat (((((stB bs ks j).1.getD j default).m:Nat):Int)+(F1 ((stB bs ks j).2.l.headD 0) ((((((stB bs ks j).1.getD j default).n:Nat):Int) - ((((stB bs ks j).1.getD j default).m:Nat):Int))+1)))) - 0) (((stB bs ks j).1.getD j default).cn - 0)) (hA:=At.grp 2 j rfl (bodyG_at_set (stB bs ks j).1 j ⟨(bs.getD j default).p,((stB bs ks j).1.getD j default).an,((stB bs ks j).1.getD j default).n,((stB bs ks j).1.getD j default).cn,(J4 ((stB bs ks j).1.getD j default).an (((stB bs ks j).1.getD j default).cn) 0 1),(Int.toNat (((((stB bs ks j).1.getD j default).m:Nat):Int)+(F1 ((stB bs ks j).2.l.headD 0) ((((((stB bs ks j).1.getD j default).n:Nat):Int) - ((((stB bs ks j).1.getD j default).m:Nat):Int))+1)))) - 0,((stB bs ks j).1.getD j default).cn - 0⟩ (by rw [stB_len]; exact hjl))) (k:=?_))
    refine A7 (j:=7) [0,0] (k:=M7 (ch:=[]) (b:=(bs.getD j default).p) (off:=0) (v:=.slice (J4 ((stB bs ks j).1.getD j default).an (((stB bs ks j).1.getD j default).cn) 0 1) ((Int.toNat (((((stB bs ks j).1.getD j default).m:Nat):Int)+(F1 ((stB bs ks j).2.l.headD 0) ((((((stB bs ks j).1.getD j default).n:Nat):Int) - ((((stB bs ks j).1.getD j default).m:Nat):Int))+1)))) - 0) (((stB bs ks j).1.getD j default).cn - 0)) (c:=#[.slice ((stB bs ks j).1.getD j default).an (((stB bs ks j).1.getD j default).n) (((stB bs ks j).1.getD j default).cn),.slice (J4 ((stB bs ks j).1.getD j default).an (((stB bs ks j).1.getD j default).cn) 0 1) ((Int.toNat (((((stB bs ks j).1.getD j default).m:Nat):Int)+(F1 ((stB bs ks j).2.l.headD 0) ((((((stB bs ks j).1.getD j default).n:Nat):Int) - ((((stB bs ks j).1.getD j default).m:Nat):Int))+1)))) - 0) (((stB bs ks j).1.getD j default).cn - 0)]) (c':=#[.slice (J4 ((stB bs ks j).1.getD j default).an (((stB bs ks j).1.getD j default).cn) 0 1) ((Int.toNat (((((stB bs ks j).1.getD j default).m:Nat):Int)+(F1 ((stB bs ks j).2.l.headD 0) ((((((stB bs ks j).1.getD j default).n:Nat):Int) - ((((stB bs ks j).1.getD j default).m:Nat):Int))+1)))) - 0) (((stB bs ks j).1.getD j default).cn - 0),.slice (J4 ((stB bs ks j).1.getD j default).an (((stB bs ks j).1.getD j default).cn) 0 1) ((Int.toNat (((((stB bs ks j).1.getD j default).m:Nat):Int)+(F1 ((stB bs ks j).2.l.headD 0) ((((((stB bs ks j).1.getD j default).n:Nat):Int) - ((((stB bs ks j).1.getD j default).m:Nat):Int))+1)))) - 0) (((stB bs ks j).1.getD j default).cn - 0)]) (j:=2) (m:=j) (H':=([(b1,.cells #[.slice (G1 (stB bs ks j).2).a ((G1 (stB bs ks j).2).l.length) ((G1 (stB bs ks j).2).c)] 49 (0,0))]::[(d,.cells #[.int .i64 room,.slice ba bs.length bc,.map (some nb),.map (some kb),.map (some cb),.bool fails,.bool once,.int .i64 calls] 72 (0,0))]::G9 (((stB bs ks j).1.set j ⟨(bs.getD j default).p,((stB bs ks j).1.getD j default).an,((stB bs ks j).1.getD j default).n,((stB bs ks j).1.getD j default).cn,(J4 ((stB bs ks j).1.getD j default).an (((stB bs ks j).1.getD j default).cn) 0 1),(Int.toNat (((((stB bs ks j).1.getD j default).m:Nat):Int)+(F1 ((stB bs ks j).2.l.headD 0) ((((((stB bs ks j).1.getD j default).n:Nat):Int) - ((((stB bs ks j).1.getD j default).m:Nat):Int))+1)))) - 0,((stB bs ks j).1.getD j default).cn - 0⟩).set j ⟨(bs.getD j default).p,(J4 ((stB bs ks j).1.getD j default).an (((stB bs ks j).1.getD j default).cn) 0 1),(Int.toNat (((((stB bs ks j).1.getD j default).m:Nat):Int)+(F1 ((stB bs ks j).2.l.headD 0) ((((((stB bs ks j).1.getD j default).n:Nat):Int) - ((((stB bs ks j).1.getD j default).m:Nat):Int))+1)))) - 0,((stB bs ks j).1.getD j default).cn - 0,(J4 ((stB bs ks j).1.getD j default).an (((stB bs ks j).1.getD j default).cn) 0 1),(Int.toNat (((((stB bs ks j).1.getD j default).m:Nat):Int)+(F1 ((stB bs ks j).2.l.headD 0) ((((((stB bs ks j).1.getD j default).n:Nat):Int) - ((((stB bs ks j).1.getD j default).m:Nat):Int))+1)))) - 0,((stB bs ks j).1.getD j default).cn - 0⟩)::[(kb,.map (B2 km) kc)]::[(cb,.map (B2 cm) cc)]::H)) (hi:=bodyG_at_set (stB bs ks j).1 j ⟨(bs.getD j default).p,((stB bs ks j).1.getD j default).an,((stB bs ks j).1.getD j default).n,((stB bs ks j).1.getD j default).cn,(J4 ((stB bs ks j).1.getD j default).an (((stB bs ks j).1.getD j default).cn) 0 1),(Int.toNat (((((stB bs ks j).1.getD j default).m:Nat):Int)+(F1 ((stB bs ks j).2.l.headD 0) ((((((stB bs ks j).1.getD j default).n:Nat):Int) - ((((stB bs ks j).1.getD j default).m:Nat):Int))+1)))) - 0,((stB bs ks j).1.getD j default).cn - 0⟩ (by rw [stB_len]; exact hjl)) (hoff:=Nat.le_of_ble_eq_true rfl) (hfz:=(fun _ _=>F0)) (hH':=congrArg (List.set ([(b1,.cells #[.slice (G1 (stB bs ks j).2).a ((G1 (stB bs ks j).2).l.length) ((G1 (stB bs ks j).2).c)] 49 (0,0))]::[(d,.cells #[.int .i64 room,.slice ba bs.length bc,.map (some nb),.map (some kb),.map (some cb),.bool fails,.bool once,.int .i64 calls] 72 (0,0))]::G9 ((stB bs ks j).1.set j ⟨(bs.getD j default).p,((stB bs ks j).1.getD j default).an,((stB bs ks j).1.getD j default).n,((stB bs ks j).1.getD j default).cn,(J4 ((stB bs ks j).1.getD j default).an (((stB bs ks j).1.getD j default).cn) 0 1),(Int.toNat (((((stB bs ks j).1.getD j default).m:Nat):Int)+(F1 ((stB bs ks j).2.l.headD 0) ((((((stB bs ks j).1.getD j default).n:Nat):Int) - ((((stB bs ks j).1.getD j default).m:Nat):Int))+1)))) - 0,((stB bs ks j).1.getD j default).cn - 0⟩)::[(kb,.map (B2 km) kc)]::[(cb,.map (B2 cm) cc)]::H) 2) (V0 ((stB bs ks j).1.set j ⟨(bs.getD j default).p,((stB bs ks j).1.getD j default).an,((stB bs ks j).1.getD j default).n,((stB bs ks j).1.getD j default).cn,(J4 ((stB bs ks j).1.getD j default).an (((stB bs ks j).1.getD j default).cn) 0 1),(Int.toNat (((((stB bs ks j).1.getD j default).m:Nat):Int)+(F1 ((stB bs ks j).2.l.headD 0) ((((((stB bs ks j).1.getD j default).n:Nat):Int) - ((((stB bs ks j).1.getD j default).m:Nat):Int))+1)))) - 0,((stB bs ks j).1.getD j default).cn - 0⟩) j ⟨(bs.getD j default).p,(J4 ((stB bs ks j).1.getD j default).an (((stB bs ks j).1.getD j default).cn) 0 1),(Int.toNat (((((stB bs ks j).1.getD j default).m:Nat):Int)+(F1 ((stB bs ks j).2.l.headD 0) ((((((stB bs ks j).1.getD j default).n:Nat):Int) - ((((stB bs ks j).1.getD j default).m:Nat):Int))+1)))) - 0,((stB bs ks j).1.getD j default).cn - 0,(J4 ((stB bs ks j).1.getD j default).an (((stB bs ks j).1.getD j default).cn) 0 1),(Int.toNat (((((stB bs ks j).1.getD j default).m:Nat):Int)+(F1 ((stB bs ks j).2.l.headD 0) ((((((stB bs ks j).1.getD j default).n:Nat):Int) - ((((stB bs ks j).1.getD j default).m:Nat):Int))+1)))) - 0,((stB bs ks j).1.getD j default).cn - 0⟩)) (k:=?_))
    refine C4 [] [0,4,19,20,21] (k:=D5 ?_)
    refine A0 (A2 ?_)
    refine A7 (j:=1) [0] (k:=F2 63 (((j:Nat):Int)+1) (by omega) (by omega) kr ?_)
    refine C4 [0] [0,4,19,20,21] (k:=N_heq (H':=([(b1,.cells #[.slice (stB bs ks (j+1)).2.a ((stB bs ks (j+1)).2.l.length) ((stB bs ks (j+1)).2.c)] 49 (0,0))]::[(d,.cells #[.int .i64 room,.slice ba bs.length bc,.map (some nb),.map (some kb),.map (some cb),.bool fails,.bool once,.int .i64 calls] 72 (0,0))]::G9 (stB bs ks (j+1)).1::[(kb,.map (B2 km) kc)]::[(cb,.map (B2 cm) cc)]::H)) (by first | (rw [stB_yes (by omega),List.set_set]) | (rw [stB_yes (by omega),List.set_set]; rfl) | (rw [stB_no (by omega)]) | (rw [stB_no (by omega)]; rfl)) ?_)
    refine E5 (s':=(j+1)) [0,4,19,20,21] kr rfl (by omega) (by omega)
  ·
   replace hc4:=of_decide_eq_false hc4
   refine B5 (A0 ?_)
   refine A2 (A7 (j:=4) [0,0,0,0] (k:=?_))
   refine A5 (ch:=[]) (b:=(bs.getD j default).p) (off:=1) (v:=.slice ((stB bs ks j).1.getD j default).ak (((stB bs ks j).1.getD j default).m) (((stB bs ks j).1.getD j default).ck)) (hA:=At.grp 2 j rfl (Q6 hjl)) (k:=A7 (j:=7) [0,0] (k:=?_))
   refine M7 (ch:=[]) (b:=(bs.getD j default).p) (off:=0) (v:=.slice ((stB bs ks j).1.getD j default).ak (((stB bs ks j).1.getD j default).m) (((stB bs ks j).1.getD j default).ck)) (c:=#[.slice ((stB bs ks j).1.getD j default).an (((stB bs ks j).1.getD j default).n) (((stB bs ks j).1.getD j default).cn),.slice ((stB bs ks j).1.getD j default).ak (((stB bs ks j).1.getD j default).m) (((stB bs ks j).1.getD j default).ck)]) (c':=#[.slice ((stB bs ks j).1.getD j default).ak (((stB bs ks j).1.getD j default).m) (((stB bs ks j).1.getD j default).ck),.slice ((stB bs ks j).1.getD j default).ak (((stB bs ks j).1.getD j default).m) (((stB bs ks j).1.getD j default).ck)]) (j:=2) (m:=j) (H':=([(b1,.cells #[.slice (stB bs ks j).2.a ((stB bs ks j).2.l.length) ((stB bs ks j).2.c)] 49 (0,0))]::[(d,.cells #[.int .i64 room,.slice ba bs.length bc,.map (some nb),.map (some kb),.map (some cb),.bool fails,.bool once,.int .i64 calls] 72 (0,0))]::G9 ((stB bs ks j).1.set j ⟨(bs.getD j default).p,((stB bs ks j).1.getD j default).ak,((stB bs ks j).1.getD j default).m,((stB bs ks j).1.getD j default).ck,((stB bs ks j).1.getD j default).ak,((stB bs ks j).1.getD j default).m,((stB bs ks j).1.getD j default).ck⟩)::[(kb,.map (B2 km) kc)]::[(cb,.map (B2 cm) cc)]::H)) (hi:=Q6 hjl) (hoff:=Nat.le_of_ble_eq_true rfl) (hfz:=(fun _ _=>F0)) (hH':=congrArg (List.set ([(b1,.cells #[.slice (stB bs ks j).2.a ((stB bs ks j).2.l.length) ((stB bs ks j).2.c)] 49 (0,0))]::[(d,.cells #[.int .i64 room,.slice ba bs.length bc,.map (some nb),.map (some kb),.map (some cb),.bool fails,.bool once,.int .i64 calls] 72 (0,0))]::G9 (stB bs ks j).1::[(kb,.map (B2 km) kc)]::[(cb,.map (B2 cm) cc)]::H) 2) (V0 (stB bs ks j).1 j ⟨(bs.getD j default).p,((stB bs ks j).1.getD j default).ak,((stB bs ks j).1.getD j default).m,((stB bs ks j).1.getD j default).ck,((stB bs ks j).1.getD j default).ak,((stB bs ks j).1.getD j default).m,((stB bs ks j).1.getD j default).ck⟩)) (k:=C4 [] [0,4,19,20,21] (k:=?_))
   refine D5 (A0 ?_)
   refine A2 (A7 (j:=1) [0] (k:=?_))
   refine F2 63 (((j:Nat):Int)+1) (by omega) (by omega) kr (D3 (E':=[⟨0,[],pt d⟩,⟨4,[],.func (.func 69) #[] #[pt b1]⟩,⟨19,[],.slice ba bs.length bc⟩,⟨20,[],.int .i64 ((bs.length:Nat):Int)⟩,⟨21,[],.int .i64 (((j:Nat):Int)+1)⟩]) [0] [0,4,19,20,21] (k:=?_))
   refine N_heq (H':=([(b1,.cells #[.slice (stB bs ks (j+1)).2.a ((stB bs ks (j+1)).2.l.length) ((stB bs ks (j+1)).2.c)] 49 (0,0))]::[(d,.cells #[.int .i64 room,.slice ba bs.length bc,.map (some nb),.map (some kb),.map (some cb),.bool fails,.bool once,.int .i64 calls] 72 (0,0))]::G9 (stB bs ks (j+1)).1::[(kb,.map (B2 km) kc)]::[(cb,.map (B2 cm) cc)]::H)) (by first | (rw [stB_yes (by omega),List.set_set]) | (rw [stB_yes (by omega),List.set_set]; rfl) | (rw [stB_no (by omega)]) | (rw [stB_no (by omega)]; rfl)) (E5 (s':=(j+1)) [0,4,19,20,21] kr rfl (by omega) (by omega))
 ·
  replace hc2:=of_decide_eq_false hc2
  refine G6 (A8 ?_)
  refine A8 (C7 ?_)
  refine A0 (A1 ?_)
  refine A1 (A2 ?_)
  refine A7 (j:=3) [0,0,0] (k:=A5 (ch:=[]) (b:=d) (off:=4) (v:=.map (some cb)) (hA:=At.grp 1 0 rfl rfl) (k:=?_))
  refine G2 Tryz.func71 (vKeys cb _ _) ?_
  rintro v H' ⟨b14,rfl,rfl⟩
  refine I5 rfl (H':=([(b14,.cells #[.map (some cb)] 69 (0,0))]::[(cb,.map (B2 cm) cc)]::[(b1,.cells #[.slice (stB bs ks j).2.a ((stB bs ks j).2.l.length) ((stB bs ks j).2.c)] 49 (0,0))]::[(d,.cells #[.int .i64 room,.slice ba bs.length bc,.map (some nb),.map (some kb),.map (some cb),.bool fails,.bool once,.int .i64 calls] 72 (0,0))]::G9 (stB bs ks j).1::[(kb,.map (B2 km) kc)]::H)) (fun w h=>((h.front (j:=5) rfl).front (j:=1) rfl)) (G2 Tryz.func70 (sortedC cm cc cb b14 hcm hcs hcl _ _) ?_)
  rintro v H' ⟨sg,hO,rfl⟩
  obtain ⟨ds,hds⟩:∃ ds,ds=V7 (cm.map Prod.fst):=⟨_,rfl⟩
  have hdl:ds.length=cm.length:=by rw [hds,sortB_len,List.length_map]
  rw [← hds] at hO
  obtain ⟨sa,sc,rfl,hsc,hsr⟩:=hO.shape
  refine C4 [0,0] [0,4,69,70,71] (k:=A0 ?_)
  refine C5 ?_
  have hjn:j=bs.length:=by omega
  subst hjn
  refine I8 (EI:=(fun ξ:Nat × SM × Nat × KS=>[⟨0,[],pt d⟩,⟨4,[],.func (.func 69) #[] #[pt b1]⟩,⟨69,[],.slice sa cm.length sc⟩,⟨70,[],.int .i64 ((cm.length:Nat):Int)⟩,⟨71,[],.int .i64 ((ξ.1:Nat):Int)⟩])) (HI:=(fun ξ:Nat × SM × Nat × KS=>(sg::[(b14,.cells #[.map (some cb)] 69 (0,0))]::[(cb,.map (B2 cm) cc)]::[(b1,.cells #[.slice ξ.2.2.2.a ξ.2.2.2.l.length ξ.2.2.2.c] 49 (0,0))]::[(d,.cells #[.int .i64 room,.slice ba bs.length bc,.map (some nb),.map (some kb),.map (some cb),.bool fails,.bool once,.int .i64 calls] 72 (0,0))]::G9 (stB bs ks bs.length).1::[(kb,.map (B2 ξ.2.1) ξ.2.2.1)]::H))) (Φ:=(fun ξ:Nat × SM × Nat × KS=>(ξ.1≤ds.length)∧(KsOk S ξ.2.2.2)∧(CrashK rows (ds.take ξ.1) ((km,kc),(stB bs ks bs.length).2) ((ξ.2.1,ξ.2.2.1),ξ.2.2.2))∧(MapOk ξ.2.1 ξ.2.2.1))) (μ:=(fun ξ:Nat × SM × Nat × KS=>ds.length - ξ.1)) (s0:=(0,km,kc,(stB bs ks bs.length).2)) [0,4,69,70,71] kr (by rfl) ⟨(by omega),(stB_ok hks _),(by rfl),hkm⟩ ?_
  rintro ⟨i,km1,kc1,ks1⟩ ⟨hi,hk1,hR,hmk⟩
  refine A1 (G_p [0] [0,4,69,70,71,72] (k:=?_))
  refine A0 (A1 ?_)
  refine C6 (b:=decide (((i:Nat):Int)<((cm.length:Nat):Int))) kr (fun hc15=>?_) (fun hc15=>?_)
  ·
   replace hc15:=of_decide_eq_true hc15
   refine B5 (A0 ?_)
   refine A1 (C5 ?_)
   refine A1 (A2 ?_)
   refine B7 (ch:=[]) (a:=sa) (len:=cm.length) (cap:=sc) (kd:=.i64) (j:=((i:Nat):Int)) (e:=9) (sz:=1) (S:=(inG sg)) (cs:=(strs ds)) (hrd:=hsr) (hb:=(fun _=>by exact ⟨by omega,by omega,by first | exact List.cons_ne_nil _ _ | (intro h; simp [strs] at h; simp [h] at *; omega)⟩)) (k:=D4 (ch:=[]) (a:=sa) (q:=i * 1) (S:=(inG sg)) (cs:=(strs ds)) (v:=.string (ds.getD i default)) (hrd:=hsr) (hS:=C9 0 rfl) (hv:=(fun _=>(by rw [Nat.mul_one]; exact A0n (by omega)))) (k:=?_))
   refine C4 [0] [0,4,9,69,70,71] (k:=A0 ?_)
   refine A1 (A2 ?_)
   refine A7 (j:=3) [0,0,0] (k:=A5 (ch:=[]) (b:=d) (off:=4) (v:=.map (some cb)) (hA:=At.grp 4 0 rfl rfl) (k:=?_))
   refine A7 (j:=5) [0] (k:=?_)
   have hdm:ds.getD i default∈cm.map Prod.fst:=by (subst hds; exact sort_mem (by omega))
   have hro:=hrows _ hdm
   obtain ⟨r,hr⟩:∃ r,r=rows (ds.getD i default):=⟨_,rfl⟩
   rw [← hr] at hro
   obtain ⟨hg,hrd,hrl,hrq,hrc,hAll⟩:=hro
   refine L0 (ch:=[]) (kt:=9) (et:=118) (r:=cb) (c:=cc) (m:=cm) (k:=(ds.getD i default)) (z:=.slice none 0 0) (ov:=(some (.slice r.a r.qs.length r.c))) (hA:=At.grp 2 0 rfl rfl) (hg:=(fun _=>hg)) (kk:=C4 [0] [0,4,10,69,70,71] (k:=?_))
   refine A0 (A1 ?_)
   refine A2 (A7 (j:=5) [0,0,0,0,0] (k:=?_))
   refine F2 85 (((r.qs.length:Nat):Int)+1) (by omega) (by omega) kr (I5 rfl (H':=([(b1,.cells #[.slice ks1.a ks1.l.length ks1.c] 49 (0,0))]::sg::[(b14,.cells #[.map (some cb)] 69 (0,0))]::[(cb,.map (B2 cm) cc)]::[(d,.cells #[.int .i64 room,.slice ba bs.length bc,.map (some nb),.map (some kb),.map (some cb),.bool fails,.bool once,.int .i64 calls] 72 (0,0))]::G9 (stB bs ks bs.length).1::[(kb,.map (B2 km1) kc1)]::H)) (fun w h=>(h.front (j:=3) rfl)) ?_)
   refine N1 (ch:=[]) (f:=69) (fst:=#[]) (caps:=#[pt b1]) (vs:=[.int .i64 (((r.qs.length:Nat):Int)+1)]) (hf:=Tryz.func69) (hsure:=J0 kr) (hc:=vNextA b1 ks1 (((r.qs.length:Nat):Int)+1) (by omega) S hk1 _ _ (fun y o h=>(At.cons (At.cons (At.cons (At.cons (At.cons (At.cons (hS y o h))))))))) (k:=?_)
   rintro v H' ⟨rfl,rfl⟩
   have hnx:=R6 (k:=ks1.l.headD 0) (n:=((r.qs.length:Nat):Int)+1) (by omega)
   have hkn:keptN r ks1≤r.qs.length:=by unfold keptN; omega
   have hke:keptN r ks1=Int.toNat (F1 (ks1.l.headD 0) (((r.qs.length:Nat):Int)+1)):=rfl
   refine O5 (ch:=[]) (a:=r.a) (len:=r.qs.length) (cap:=r.c) (e:=80) (sz:=1) (vl:=none) (vh:=(some (.int .i64 (F1 (ks1.l.headD 0) (((r.qs.length:Nat):Int)+1))))) (l:=0) (h:=F1 (ks1.l.headD 0) (((r.qs.length:Nat):Int)+1)) (hb:=(fun _=>by omega)) (k:=C4 [0,0] [0,4,69,70,71,87,88,89] (k:=?_))
   refine A0 (C5 ?_)
   refine I8 (EI:=(fun ξ:Nat × SM × Nat=>[⟨0,[],pt d⟩,⟨4,[],.func (.func 69) #[] #[pt b1]⟩,⟨69,[],.slice sa cm.length sc⟩,⟨70,[],.int .i64 ((cm.length:Nat):Int)⟩,⟨71,[],.int .i64 ((i:Nat):Int)⟩,⟨87,[],.slice (J4 r.a r.c 0 1) ((Int.toNat (F1 (ks1.l.headD 0) (((r.qs.length:Nat):Int)+1))) - 0) (r.c - 0)⟩,⟨88,[],.int .i64 (((Int.toNat (F1 (ks1.l.headD 0) (((r.qs.length:Nat):Int)+1))) - 0:Nat):Int)⟩,⟨89,[],.int .i64 ((ξ.1:Nat):Int)⟩])) (HI:=(fun ξ:Nat × SM × Nat=>([(b1,.cells #[.slice (G1 ks1).a ((G1 ks1).l.length) ((G1 ks1).c)] 49 (0,0))]::sg::[(b14,.cells #[.map (some cb)] 69 (0,0))]::[(cb,.map (B2 cm) cc)]::[(d,.cells #[.int .i64 room,.slice ba bs.length bc,.map (some nb),.map (some kb),.map (some cb),.bool fails,.bool once,.int .i64 calls] 72 (0,0))]::G9 (stB bs ks bs.length).1::[(kb,.map (B2 ξ.2.1) ξ.2.2)]::H))) (Φ:=(fun ξ:Nat × SM × Nat=>(ξ.1≤keptN r ks1)∧(MadeOf (r.xs.take ξ.1) (km1,kc1) (ξ.2.1,ξ.2.2)))) (μ:=(fun ξ:Nat × SM × Nat=>keptN r ks1 - ξ.1)) (s0:=(0,km1,kc1)) [0,4,69,70,71,87,88,89] kr (by rfl) ⟨(by omega),(by rfl)⟩ ?_
   rintro ⟨k,km2,kc2⟩ ⟨hkk,hR2⟩
   refine A1 (G_p [0] [0,4,69,70,71,87,88,89,90] (k:=?_))
   refine A0 (A1 ?_)
   refine C6 (b:=decide (((k:Nat):Int)<(((Int.toNat (F1 (ks1.l.headD 0) (((r.qs.length:Nat):Int)+1))) - 0:Nat):Int))) kr (fun hc17=>?_) (fun hc17=>?_)
   ·
    replace hc17:=of_decide_eq_true hc17
    refine B5 (A0 ?_)
    refine A1 (C5 ?_)
    refine A1 (A2 ?_)
    refine B7 (ch:=[]) (a:=(J4 r.a r.c 0 1)) (len:=(Int.toNat (F1 (ks1.l.headD 0) (((r.qs.length:Nat):Int)+1))) - 0) (cap:=r.c - 0) (kd:=.i64) (j:=((k:Nat):Int)) (e:=80) (sz:=1) (S:=S) (cs:=((r.qs.map fun q=>Value.map (some q)).take (keptN r ks1))) (hrd:=rd_cut0 hrd (by rw [List.length_map]; omega) (by rw [List.length_map]; omega)) (hb:=(fun _=>by exact ⟨by omega,by omega,take_ne (by omega) (by rw [List.length_map]; omega)⟩)) (k:=D4 (ch:=[]) (a:=(J4 r.a r.c 0 1)) (q:=k * 1) (S:=S) (cs:=((r.qs.map fun q=>Value.map (some q)).take (keptN r ks1))) (v:=.map (some (r.qs.getD k 0))) (hrd:=rd_cut0 hrd (by rw [List.length_map]; omega) (by rw [List.length_map]; omega)) (hS:=(fun y o h=>(At.cons (At.cons (At.cons (At.cons (At.cons (At.cons (At.cons (hS y o h)))))))))) (hv:=(fun _=>(by rw [Nat.mul_one]; exact map_take_at (by omega) (by omega)))) (k:=?_))
    refine C4 [0] [0,4,12,69,70,71,87,88,89] (k:=A0 ?_)
    refine A2 (A7 (j:=3) [0,0,0] (k:=?_))
    refine A5 (ch:=[]) (b:=d) (off:=3) (v:=.map (some kb)) (hA:=At.grp 4 0 rfl rfl) (k:=A7 (j:=5) [0] (k:=?_))
    refine I5 rfl (H':=([(kb,.map (B2 km2) kc2)]::[(b1,.cells #[.slice (G1 ks1).a ((G1 ks1).l.length) ((G1 ks1).c)] 49 (0,0))]::sg::[(b14,.cells #[.map (some cb)] 69 (0,0))]::[(cb,.map (B2 cm) cc)]::[(d,.cells #[.int .i64 room,.slice ba bs.length bc,.map (some nb),.map (some kb),.map (some cb),.bool fails,.bool once,.int .i64 calls] 72 (0,0))]::G9 (stB bs ks bs.length).1::H)) (fun w h=>(h.front (j:=6) rfl)) (G2 Tryz.func72 (vApply kb (r.qs.getD k 0) kc2 (r.xcs.getD k 0) km2 (r.xs.getD k []) (made_ok hR2 hmk) (hAll k (by omega)).2.1 (hAll k (by omega)).2.2 _ _ (At.cons (At.cons (At.cons (At.cons (At.cons (At.cons (hAll k (by omega)).1))))))) ?_)
    rintro v H' ⟨dn18,hdn19,rfl,rfl⟩
    refine C4 [] [0,4,69,70,71,87,88,89] (k:=D5 ?_)
    refine A0 (A2 ?_)
    refine A7 (j:=1) [0] (k:=F2 99 (((k:Nat):Int)+1) (by omega) (by omega) kr ?_)
    refine C4 [0] [0,4,69,70,71,87,88,89] (k:=E0 (H':=([(b1,.cells #[.slice (G1 ks1).a ((G1 ks1).l.length) ((G1 ks1).c)] 49 (0,0))]::sg::[(b14,.cells #[.map (some cb)] 69 (0,0))]::[(cb,.map (B2 cm) cc)]::[(d,.cells #[.int .i64 room,.slice ba bs.length bc,.map (some nb),.map (some kb),.map (some cb),.bool fails,.bool once,.int .i64 calls] 72 (0,0))]::G9 (stB bs ks bs.length).1::[(kb,.map (B2 ((F9 (km2,kc2) dn18).1)) ((F9 (km2,kc2) dn18).2))]::H)) (fun w h=>((((((h.front (j:=6) rfl).front (j:=6) rfl).front (j:=6) rfl).front (j:=6) rfl).front (j:=6) rfl).front (j:=6) rfl)) ?_)
    refine E5 (s':=(k+1,(F9 (km2,kc2) dn18).1,(F9 (km2,kc2) dn18).2)) [0,4,69,70,71,87,88,89] kr rfl ⟨(by omega),(by rw [K8 (d:=[]) (by omega)]; exact made_snoc hdn19 hR2)⟩ (by omega)
   ·
    replace hc17:=of_decide_eq_false hc17
    refine G6 (A8 ?_)
    refine A8 (C7 ?_)
    refine D5 (A0 ?_)
    refine A2 (A7 (j:=1) [0] (k:=?_))
    refine F2 100 (((i:Nat):Int)+1) (by omega) (by omega) kr (C4 [0] [0,4,69,70,71] (k:=?_))
    refine E0 (H':=(sg::[(b14,.cells #[.map (some cb)] 69 (0,0))]::[(cb,.map (B2 cm) cc)]::[(b1,.cells #[.slice (G1 ks1).a ((G1 ks1).l.length) ((G1 ks1).c)] 49 (0,0))]::[(d,.cells #[.int .i64 room,.slice ba bs.length bc,.map (some nb),.map (some kb),.map (some cb),.bool fails,.bool once,.int .i64 calls] 72 (0,0))]::G9 (stB bs ks bs.length).1::[(kb,.map (B2 km2) kc2)]::H)) (fun w h=>(((((((h.front (j:=6) rfl).front (j:=6) rfl).front (j:=6) rfl).front (j:=3) rfl).front (j:=6) rfl).front (j:=6) rfl).front (j:=6) rfl)) (E5 (s':=(i+1,km2,kc2,(G1 ks1))) [0,4,69,70,71] kr rfl ⟨(by omega),(ksNext_ok hk1),(by rw [K8 (d:=default) (by omega)]; exact crashK_snoc hR (by rw [← hr,(show keptN r ks1=k from by omega)]; exact hR2)),(made_ok hR2 hmk)⟩ (by omega))
  ·
   replace hc15:=of_decide_eq_false hc15
   refine G6 (A8 ?_)
   refine A8 (C7 ?_)
   refine A0 (A2 ?_)
   refine A7 (j:=6) [0,0,0,0,0,0] (k:=A5 (ch:=[]) (b:=d) (off:=3) (v:=.map (some kb)) (hA:=At.grp 4 0 rfl rfl) (k:=?_))
   refine I5 rfl (H':=([(kb,.map (B2 km1) kc1)]::sg::[(b14,.cells #[.map (some cb)] 69 (0,0))]::[(cb,.map (B2 cm) cc)]::[(b1,.cells #[.slice ks1.a ks1.l.length ks1.c] 49 (0,0))]::[(d,.cells #[.int .i64 room,.slice ba bs.length bc,.map (some nb),.map (some kb),.map (some cb),.bool fails,.bool once,.int .i64 calls] 72 (0,0))]::G9 (stB bs ks bs.length).1::H)) (fun w h=>(h.front (j:=6) rfl)) (G2 Tryz.func73 (vMapClone kb kc1 km1 _ _) ?_)
   rintro v H' ⟨b22,rfl,rfl⟩
   refine R2 (ch:=[]) (k:=(fun b23=>?_))
   refine A7 (j:=11) [0,0] (k:=G4 (ch:=[]) (b:=d) (off:=2) (v:=.map (some b22)) (j:=7) ([(b23,.map (B2 ([])) 0)]::[(b22,.map (B2 km1) kc1)]::[(kb,.map (B2 km1) kc1)]::sg::[(b14,.cells #[.map (some cb)] 69 (0,0))]::[(cb,.map (B2 cm) cc)]::[(b1,.cells #[.slice ks1.a ks1.l.length ks1.c] 49 (0,0))]::[(d,.cells #[.int .i64 room,.slice ba bs.length bc,.map (some b22),.map (some kb),.map (some cb),.bool fails,.bool once,.int .i64 calls] 72 (0,0))]::G9 (stB bs ks bs.length).1::H) (hoff:=Nat.le_of_ble_eq_true rfl) (hfz:=(fun _ _=>F0)) (k:=?_))
   refine A7 (j:=14) [0,0] (k:=G4 (ch:=[]) (b:=d) (off:=4) (v:=.map (some b23)) (j:=7) ([(b23,.map (B2 ([])) 0)]::[(b22,.map (B2 km1) kc1)]::[(kb,.map (B2 km1) kc1)]::sg::[(b14,.cells #[.map (some cb)] 69 (0,0))]::[(cb,.map (B2 cm) cc)]::[(b1,.cells #[.slice ks1.a ks1.l.length ks1.c] 49 (0,0))]::[(d,.cells #[.int .i64 room,.slice ba bs.length bc,.map (some b22),.map (some kb),.map (some b23),.bool fails,.bool once,.int .i64 calls] 72 (0,0))]::G9 (stB bs ks bs.length).1::H) (hoff:=Nat.le_of_ble_eq_true rfl) (hfz:=(fun _ _=>F0)) (k:=?_))
   refine A7 (j:=17) [0,0] (k:=G4 (ch:=[]) (b:=d) (off:=5) (v:=.bool false) (j:=7) ([(b23,.map (B2 ([])) 0)]::[(b22,.map (B2 km1) kc1)]::[(kb,.map (B2 km1) kc1)]::sg::[(b14,.cells #[.map (some cb)] 69 (0,0))]::[(cb,.map (B2 cm) cc)]::[(b1,.cells #[.slice ks1.a ks1.l.length ks1.c] 49 (0,0))]::[(d,.cells #[.int .i64 room,.slice ba bs.length bc,.map (some b22),.map (some kb),.map (some b23),.bool false,.bool once,.int .i64 calls] 72 (0,0))]::G9 (stB bs ks bs.length).1::H) (hoff:=Nat.le_of_ble_eq_true rfl) (hfz:=(fun _ _=>F0)) (k:=?_))
   refine D3 (E':=[]) [] [] (k:=E0 (H':=([(d,.cells #[.int .i64 room,.slice ba bs.length bc,.map (some b22),.map (some kb),.map (some b23),.bool false,.bool once,.int .i64 calls] 72 (0,0))]::G9 (stB bs ks bs.length).1::[(kb,.map (B2 km1) kc1)]::[(b22,.map (B2 km1) kc1)]::[(b23,.map (B2 ([])) 0)]::H)) (fun w h=>((((((((h.front (j:=1) rfl).front (j:=2) rfl).front (j:=8) rfl).front (j:=8) rfl).erase 8).erase 7).erase 6).erase 5)) ?_)
   refine C1 [] [] (k:=?_)
   have hin:i=ds.length:=by omega
   rw [hin,List.take_length,hds] at hR
   exact ⟨rfl,_,_,_,_,_,hR,rfl⟩
end Go.Proofs.YtlaoeiaaeifidaaGreat
namespace Go.Proofs.YtlaoeiaaeifidaaGreat
open Go.Sw Go.Lib Go.Vf Go.RowKit
theorem vNameMore (d nb kb cb q nc cc xc:Nat) (room calls:Int) (bv:Value) (fails once:Bool) (nm cm xm:SM) (dir:ByteArray) (hn:MapOk nm nc) (hx:MapOk xm xc) (hv:∀ e∈xm,e.2.1=.pointer none∨∃ p,e.2.1=.pointer (some ⟨p,0,none⟩)) (rv:Value) (rg:Grp) (m:Nat) (cs:List Value) (hO:Go.Sw.Own 80 1 rv rg m cs) (hm:m≤1000000) (hg:S4 cm dir=some rv) (W0:World) (H:List Grp) (hA:At W0 H q (.map (B2 xm) xc)):Tri Tryz.prog 37 #[pt d,.string dir,.map (some q)] W0 ([(d,.cells #[.int .i64 room,bv,.map (some nb),.map (some kb),.map (some cb),.bool fails,.bool once,.int .i64 calls] 72 (0,0))]::[(nb,.map (B2 nm) nc)]::[(cb,.map (B2 cm) cc)]::rg::H) (fun v H'=>∃ dn x g,dn.Perm xm∧Go.Sw.Own 80 1 x g (m+1) (cs++[.map (some q)])∧v=.tuple #[]∧H'=([(d,.cells #[.int .i64 room,bv,.map (some nb),.map (some kb),.map (some cb),.bool fails,.bool once,.int .i64 calls] 72 (0,0))]::[(nb,.map (B2 ((F9 (nm,nc) dn).1)) ((F9 (nm,nc) dn).2))]::[(cb,.map (B2 (I3 cm cc dir x)) (if J7 cm dir then cc else cc+1))]::g::H)):=by
 refine C8 (args:=[pt d,.string dir,.map (some q)]) (n:=26) Tryz.func37 rfl rfl (Nat.le_of_ble_eq_true rfl) ?_
 refine A1 (A2 ?_)
 refine A7 (j:=3) [0,0,0] (k:=A5 (ch:=[]) (b:=d) (off:=2) (v:=.map (some nb)) (hA:=At.grp 0 0 rfl rfl) (k:=?_))
 refine A7 (j:=5) [0] (k:=I5 rfl (H':=([(nb,.map (B2 nm) nc)]::[(d,.cells #[.int .i64 room,bv,.map (some nb),.map (some kb),.map (some cb),.bool fails,.bool once,.int .i64 calls] 72 (0,0))]::[(cb,.map (B2 cm) cc)]::rg::H)) (fun w h=>(h.front (j:=1) rfl)) ?_)
 refine G2 Tryz.func72 (vApply nb q nc xc nm xm hn hx hv _ _ (At.cons (At.cons (At.cons hA)))) ?_
 rintro v H' ⟨dn1,hdn2,rfl,rfl⟩
 refine C4 [] [0,1,2] (k:=A0 ?_)
 refine D7 ([(nb,.map (B2 ((F9 (nm,nc) dn1).1)) ((F9 (nm,nc) dn1).2))]::[(d,.cells #[.int .i64 room,bv,.map (some nb),.map (some kb),.map (some cb),.bool fails,.bool once,.int .i64 calls] 72 (0,0))]::H) kr (D0 (fuel:=14) [(0,0)] (fun w h=>((h.erase 3).erase 2)) (k:=?_))
 refine G0 (ad:=⟨d,0,none⟩) 1 (hL:=(fun w h=>((h.erase 3).erase 2))) (k:=D0 (fuel:=12) [(2,0)] (fun w h=>((h.erase 3).erase 2)) (k:=?_))
 refine A9 3 (hL:=(fun w h=>((h.erase 3).erase 2))) (hy:=A5 (i:=3) (ch:=[]) (b:=d) (off:=4) (v:=.map (some cb)) (hA:=At.grp 1 0 rfl rfl) (k:=B1 kr rfl)) (k:=D0 (fuel:=9) [(4,0),(5,0)] (fun w h=>((h.erase 3).erase 2)) (k:=?_))
 refine G0 (ad:=⟨d,0,none⟩) 6 (hL:=(fun w h=>((h.erase 3).erase 2))) (k:=D0 (fuel:=7) [(7,0)] (fun w h=>((h.erase 3).erase 2)) (k:=?_))
 refine A9 8 (hL:=(fun w h=>((h.erase 3).erase 2))) (hy:=A5 (i:=8) (ch:=[]) (b:=d) (off:=4) (v:=.map (some cb)) (hA:=At.grp 1 0 rfl rfl) (k:=B1 kr rfl)) (k:=D0 (fuel:=4) [(9,0),(11,0)] (fun w h=>((h.erase 3).erase 2)) (k:=?_))
 refine O0 10 12 (k:=?_) (k':=?_)
 ·
  refine L0 (ch:=[]) (kt:=9) (et:=118) (r:=cb) (c:=cc) (m:=cm) (k:=dir) (z:=.slice none 0 0) (ov:=(some (rv))) (hA:=At.grp 2 0 rfl rfl) (hg:=(fun _=>hg)) (kk:=A6 kr (fun w h=>((h.erase 3).erase 2)) ?_)
  refine B9 12 (k:=C2 (ch:=[]) (e:=80) (l:=[(0,.map (some q))]) (c:=[.map (some q)]) (k:=(fun b3=>?_)))
  refine A6 kr (fun w h=>(((h.erase 4).erase 3).erase 0)) (I0 ([(b3,.cells #[.map (some q)] 80 (0,0))]::[(nb,.map (B2 ((F9 (nm,nc) dn1).1)) ((F9 (nm,nc) dn1).2))]::[(d,.cells #[.int .i64 room,bv,.map (some nb),.map (some kb),.map (some cb),.bool fails,.bool once,.int .i64 calls] 72 (0,0))]::H) (fun w h=>(h.erase 0)) ?_)
  refine B9 13 (k:=E9 (i:=13) (ch:=[]) (t:=118) (tx:=118) (e:=80) (inf:=Tryz.t80) (s:=rv) (x:=.slice (some ⟨b3,0,none⟩) 1 1) (n:=m) (m:=1) (j:=4) (cs:=cs) (news:=[.map (some q)]) (g:=rg) (S:=(inG [(b3,.cells #[.map (some q)] 80 (0,0))])) rfl rfl rfl rfl kr kr kr rfl rfl (.inl ⟨80,kr⟩) (fun ⟨_,h⟩=>by cases h) (fun _=>⟨80,kr⟩) kr kr kr rfl hO (SrcOf.slice _ _ _ _ Rd.lit (fun h=>by cases h)) (C9 0 rfl) kr (by intro u hu; rcases List.mem_singleton.1 hu with rfl; rfl) (by omega) (by show (m+1) * 8≤140737488355328; omega) (fun v4 g5 hO6=>?_))
  refine A6 kr (fun w h=>((h.erase 4).erase 3)) (I0 ([(b3,.cells #[.map (some q)] 80 (0,0))]::[(nb,.map (B2 ((F9 (nm,nc) dn1).1)) ((F9 (nm,nc) dn1).2))]::[(d,.cells #[.int .i64 room,bv,.map (some nb),.map (some kb),.map (some cb),.bool fails,.bool once,.int .i64 calls] 72 (0,0))]::g5::H) (fun w h=>(h.erase 3)) ?_)
  refine B9 14 (k:=J8 (ch:=[]) (kt:=9) (et:=118) (r:=cb) (c:=cc) (j:=3) (q:=0) (m:=cm) (k:=dir) (v:=v4) (H':=([(b3,.cells #[.map (some q)] 80 (0,0))]::[(nb,.map (B2 ((F9 (nm,nc) dn1).1)) ((F9 (nm,nc) dn1).2))]::[(d,.cells #[.int .i64 room,bv,.map (some nb),.map (some kb),.map (some cb),.bool fails,.bool once,.int .i64 calls] 72 (0,0))]::[(cb,.map (B2 (I3 cm cc dir (v4))) (if J7 cm dir then cc else cc+1))]::g5::H)) (hop:=.inl rfl) (kk:=?_))
  refine A6 kr (fun w h=>(h.erase 3)) (D8 (E':=[]) [] (k:=?_))
  refine E0 (H':=([(d,.cells #[.int .i64 room,bv,.map (some nb),.map (some kb),.map (some cb),.bool fails,.bool once,.int .i64 calls] 72 (0,0))]::[(nb,.map (B2 ((F9 (nm,nc) dn1).1)) ((F9 (nm,nc) dn1).2))]::[(cb,.map (B2 (I3 cm cc dir (v4))) (if J7 cm dir then cc else cc+1))]::g5::H)) (fun w h=>(((((h.front (j:=4) rfl).front (j:=4) rfl).front (j:=3) rfl).front (j:=4) rfl).erase 4)) (C1 [] [] (k:=?_))
  exact ⟨_,_,g5,hdn2,hO6,rfl,rfl⟩
 ·
  refine C2 (ch:=[]) (e:=80) (l:=[(0,.map (some q))]) (c:=[.map (some q)]) (k:=(fun b7=>?_))
  refine A6 kr (fun w h=>(((h.erase 4).erase 3).erase 0)) (I0 ([(b7,.cells #[.map (some q)] 80 (0,0))]::[(nb,.map (B2 ((F9 (nm,nc) dn1).1)) ((F9 (nm,nc) dn1).2))]::[(d,.cells #[.int .i64 room,bv,.map (some nb),.map (some kb),.map (some cb),.bool fails,.bool once,.int .i64 calls] 72 (0,0))]::H) (fun w h=>(h.erase 0)) ?_)
  refine B9 10 (k:=L0 (ch:=[]) (kt:=9) (et:=118) (r:=cb) (c:=cc) (m:=cm) (k:=dir) (z:=.slice none 0 0) (ov:=(some (rv))) (hA:=At.grp 3 0 rfl rfl) (hg:=(fun _=>hg)) (kk:=?_))
  refine A6 kr (fun w h=>((h.erase 4).erase 3)) (B9 13 (k:=?_))
  refine E9 (i:=13) (ch:=[]) (t:=118) (tx:=118) (e:=80) (inf:=Tryz.t80) (s:=rv) (x:=.slice (some ⟨b7,0,none⟩) 1 1) (n:=m) (m:=1) (j:=4) (cs:=cs) (news:=[.map (some q)]) (g:=rg) (S:=(inG [(b7,.cells #[.map (some q)] 80 (0,0))])) rfl rfl rfl rfl kr kr kr rfl rfl (.inl ⟨80,kr⟩) (fun ⟨_,h⟩=>by cases h) (fun _=>⟨80,kr⟩) kr kr kr rfl hO (SrcOf.slice _ _ _ _ Rd.lit (fun h=>by cases h)) (C9 0 rfl) kr (by intro u hu; rcases List.mem_singleton.1 hu with rfl; rfl) (by omega) (by show (m+1) * 8≤140737488355328; omega) (fun v8 g9 hO10=>A6 kr (fun w h=>((h.erase 4).erase 3)) ?_)
  refine I0 ([(b7,.cells #[.map (some q)] 80 (0,0))]::[(nb,.map (B2 ((F9 (nm,nc) dn1).1)) ((F9 (nm,nc) dn1).2))]::[(d,.cells #[.int .i64 room,bv,.map (some nb),.map (some kb),.map (some cb),.bool fails,.bool once,.int .i64 calls] 72 (0,0))]::g9::H) (fun w h=>(h.erase 3)) (B9 14 (k:=?_))
  refine J8 (ch:=[]) (kt:=9) (et:=118) (r:=cb) (c:=cc) (j:=3) (q:=0) (m:=cm) (k:=dir) (v:=v8) (H':=([(b7,.cells #[.map (some q)] 80 (0,0))]::[(nb,.map (B2 ((F9 (nm,nc) dn1).1)) ((F9 (nm,nc) dn1).2))]::[(d,.cells #[.int .i64 room,bv,.map (some nb),.map (some kb),.map (some cb),.bool fails,.bool once,.int .i64 calls] 72 (0,0))]::[(cb,.map (B2 (I3 cm cc dir (v8))) (if J7 cm dir then cc else cc+1))]::g9::H)) (hop:=.inl rfl) (kk:=A6 kr (fun w h=>(h.erase 3)) ?_)
  refine D8 (E':=[]) [] (k:=E0 (H':=([(d,.cells #[.int .i64 room,bv,.map (some nb),.map (some kb),.map (some cb),.bool fails,.bool once,.int .i64 calls] 72 (0,0))]::[(nb,.map (B2 ((F9 (nm,nc) dn1).1)) ((F9 (nm,nc) dn1).2))]::[(cb,.map (B2 (I3 cm cc dir (v8))) (if J7 cm dir then cc else cc+1))]::g9::H)) (fun w h=>(((((h.front (j:=4) rfl).front (j:=4) rfl).front (j:=3) rfl).front (j:=4) rfl).erase 4)) ?_)
  refine C1 [] [] (k:=?_)
  exact ⟨_,_,g9,hdn2,hO10,rfl,rfl⟩
end Go.Proofs.YtlaoeiaaeifidaaGreat
namespace Go.Vf
open Go.Sw Go.RowKit
theorem K6 {W0:World} {H H':List Grp} {w:World} (h:Sat W0 H w) (hc:∀ (_:DecidableEq (Nat × Obj)) (x:Nat × Obj),H.flatten.count x=H'.flatten.count x):Sat W0 H' w :=
  h.flat (by
    have inst:DecidableEq (Nat × Obj):=Classical.typeDecidableEq _
    exact List.perm_iff_count.2 (hc inst))
theorem _root_.Go.Sw.Sat.dropApp {W0:World} {K L:List Grp} {w:World} (h:Sat W0 (K++L) w):Sat W0 L w:=h.subl (by rw [List.flatten_append]; exact List.sublist_append_right _ _)
theorem at_app {W0:World} {K L:List Grp} {b:Nat} {o:Obj} (h:At W0 K b o):At W0 (K++L) b o:=by
  rcases h with h | h
  · exact .inl h
  · exact .inr (by rw [List.flatten_append]; exact List.mem_append_left _ h)
theorem X8 {W0:World} {K L:List Grp} {b:Nat} {o:Obj} (h:At W0 L b o):At W0 (K++L) b o:=by
  rcases h with h | h
  · exact .inl h
  · exact .inr (by rw [List.flatten_append]; exact List.mem_append_right _ h)
structure RW where
  dir:ByteArray
  v:Value
  g:Grp
  qs:List Nat
def G8 (rows:List RW):List Grp:=rows.map (·.g)
def rowV (r:RW):Prop:=Go.Sw.Own 80 1 r.v r.g r.qs.length (r.qs.map fun q=>Value.map (some q))∧0<r.qs.length
def RowsOk (cm:SM) (rows:List RW):Prop:=cm.map (fun e=>(e.1,e.2.1))=rows.map (fun r=>(r.dir,r.v))∧∀ r∈rows,rowV r
def O1:List RW→ByteArray→List Nat
  | [],_=>[]
  | r::l,d=>if d==r.dir then r.qs else O1 l d
def RowsAdd (rows:List RW) (dir:ByteArray) (q:Nat) (rows':List RW):Prop :=
  ((∀ r∈rows,(dir==r.dir)=false)∧∃ v g,rows'=rows++[⟨dir,v,g,[q]⟩])∨∃ pre r post v g,rows=pre++r::post∧(∀ r∈pre,(dir==r.dir)=false)∧r.dir=dir∧rows'=pre++⟨dir,v,g,r.qs++[q]⟩::post
theorem X6 {d:ByteArray}:∀ {l r:List RW},(∀ x∈l,(d==x.dir)=false)→O1 (l++r) d=O1 r d
  | [],_,_=>rfl
  | x::l,r,h=>by
    rw [List.cons_append,O1,h x List.mem_cons_self]
    simp only [Bool.false_eq_true,if_false]
    exact X6 fun y hy=>h y (List.mem_cons_of_mem _ hy)
theorem rowOf_none {d:ByteArray} {l:List RW} (h:∀ x∈l,(d==x.dir)=false):O1 l d=[]:=by
  have:=X6 (r:=[]) h
  rwa [List.append_nil] at this
theorem rowOf_app' {d:ByteArray}:∀ {l r r':List RW},(O1 r d=O1 r' d)→O1 (l++r) d=O1 (l++r') d
  | [],_,_,h=>h
  | x::l,r,r',h=>by
    rw [List.cons_append,List.cons_append,O1,O1]
    split
    · rfl
    · exact rowOf_app' h
theorem rowsAdd_of {rows rows':List RW} {dir:ByteArray} {q:Nat} (h:RowsAdd rows dir q rows') (d:ByteArray):O1 rows' d=if d==dir then O1 rows d++[q] else O1 rows d:=by
  rcases h with ⟨h,v,g,rfl⟩ | ⟨pre,r,post,v,g,rfl,h,hd,rfl⟩
  · cases hk:d==dir
    · simp only [Bool.false_eq_true,if_false]
      have:O1 (rows++[⟨dir,v,g,[q]⟩]) d=O1 (rows++[]) d:=rowOf_app' (by simp [O1,hk])
      rw [this,List.append_nil]
    · rw [baEq] at hk; subst hk
      simp only [if_true]
      rw [X6 h,rowOf_none h,O1,if_pos (baEq.2 rfl)]; rfl
  · cases hk:d==dir
    · simp only [Bool.false_eq_true,if_false]
      exact rowOf_app' (by rw [O1,O1,hd,hk]; rfl)
    · rw [baEq] at hk; subst hk
      simp only [if_true]
      rw [X6 h,X6 h,O1,O1,hd,if_pos (baEq.2 rfl),if_pos (baEq.2 rfl)]
theorem mget_none {m:SM} {k:ByteArray}:S4 m k=none ↔ ∀ e∈m,(k==e.1)=false:=by
  have h:∀ (m:SM) (i:Nat),W7 k m i=none ↔ ∀ e∈m,(k==e.1)=false:=by
    intro m
    induction m with
    | nil=>intro i; simp [W7]
    | cons e m ih =>
      intro i
      rw [W7]
      cases hk:k==e.1
      · simp only [Bool.false_eq_true,if_false,ih (i+1)]
        constructor
        · intro h x hx; rcases List.mem_cons.1 hx with rfl | hx
          · exact hk
          · exact h x hx
        · intro h x hx; exact h x (List.mem_cons_of_mem _ hx)
      · simp only [if_true,reduceCtorEq,false_iff]
        intro h; rw [h e List.mem_cons_self] at hk; cases hk
  unfold S4
  rw [Option.map_eq_none_iff]
  exact h m 0
theorem mfind_i (k:ByteArray):∀ (m:SM) (i j:Nat),(W7 k m i).map (·.2)=(W7 k m j).map (·.2)
  | [],_,_=>rfl
  | e::m,i,j=>by
    rw [W7,W7]
    split
    · rfl
    · exact mfind_i k m _ _
theorem N6 (e:ByteArray × Value × Nat) (m:SM) (k:ByteArray):S4 (e::m) k=if k==e.1 then some e.2.1 else S4 m k:=by
  unfold S4
  rw [W7]
  split
  · rfl
  · exact mfind_i k m _ _
theorem mget_split {m:SM} {k:ByteArray} {v:Value} (h:S4 m k=some v):∃ pre c post,m=pre++(k,v,c)::post∧∀ e∈pre,(k==e.1)=false:=by
  induction m with
  | nil=>cases h
  | cons e m ih =>
    rw [N6] at h
    cases hk:k==e.1
    · rw [hk] at h
      simp only [Bool.false_eq_true,if_false] at h
      obtain ⟨pre,c,post,rfl,hp⟩:=ih h
      exact ⟨e::pre,c,post,rfl,fun x hx=>by rcases List.mem_cons.1 hx with rfl | hx; exact hk; exact hp x hx⟩
    · rw [hk] at h
      simp only [if_true,Option.some.injEq] at h
      obtain ⟨a,b,c⟩:=e
      rw [baEq] at hk; subst hk; subst h
      exact ⟨[],c,m,rfl,fun x hx=>absurd hx List.not_mem_nil⟩
theorem mput_split {pre post:SM} {k:ByteArray} {v v':Value} {c c':Nat} (hp:∀ e∈pre,(k==e.1)=false):I3 (pre++(k,v,c)::post) c' k v'=pre++(k,v',c)::post:=by
  induction pre with
  | nil=>rw [List.nil_append,I3,if_pos (baEq.2 rfl)]; rfl
  | cons e pre ih =>
    rw [List.cons_append,I3,hp e List.mem_cons_self]
    simp only [Bool.false_eq_true,if_false]
    rw [ih fun x hx=>hp x (List.mem_cons_of_mem _ hx)]; rfl
theorem rows_none {cm:SM} {rows:List RW} (h:RowsOk cm rows) {dir:ByteArray} (hg:S4 cm dir=none):∀ r∈rows,(dir==r.dir)=false:=by
  intro r hr
  have:(r.dir,r.v)∈cm.map (fun e=>(e.1,e.2.1)):=by rw [h.1]; exact List.mem_map.2 ⟨r,hr,rfl⟩
  obtain ⟨e,he,h2⟩:=List.mem_map.1 this
  have:=mget_none.1 hg e he
  rw [(Prod.mk.injEq _ _ _ _ ▸ h2:e.1=r.dir∧_).1] at this
  exact this
theorem rows_some {cm:SM} {rows:List RW} (h:RowsOk cm rows) {dir:ByteArray} {rv:Value} (hg:S4 cm dir=some rv) :
    ∃ pre r post c p1 p2,rows=pre++r::post∧cm=p1++(dir,rv,c)::p2∧(∀ e∈p1,(dir==e.1)=false)∧(∀ r∈pre,(dir==r.dir)=false)∧r.dir=dir∧r.v=rv∧p1.map (fun e=>(e.1,e.2.1))=pre.map (fun r=>(r.dir,r.v))∧p2.map (fun e=>(e.1,e.2.1))=post.map (fun r=>(r.dir,r.v)):=by
  obtain ⟨p1,c,p2,rfl,hp⟩:=mget_split hg
  have h1:=h.1
  rw [List.map_append,List.map_cons] at h1
  obtain ⟨pre,rest,rfl,h2,h3⟩:=List.map_eq_append_iff.1 h1.symm
  obtain ⟨r,post,rfl,h4,h5⟩:=List.map_eq_cons_iff.1 h3
  injection h4 with h6 h7
  refine ⟨pre,r,post,c,p1,p2,rfl,rfl,hp,fun x hx=>?_,h6,h7,h2.symm,h5.symm⟩
  have:(x.dir,x.v)∈p1.map (fun e=>(e.1,e.2.1)):=by rw [← h2]; exact List.mem_map.2 ⟨x,hx,rfl⟩
  obtain ⟨e,he,h8⟩:=List.mem_map.1 this
  have:=hp e he
  rw [(Prod.mk.injEq _ _ _ _ ▸ h8:e.1=x.dir∧_).1] at this
  exact this
end Go.Vf
namespace Go.Proofs.YtlaoeiaaeifidaaGreat
open Go.Sw Go.Vf Go.RowKit
theorem vName (d nb kb cb q nc cc xc:Nat) (room calls:Int) (bv:Value) (fails once:Bool) (nm cm xm:SM) (dir:ByteArray) (hn:MapOk nm nc) (hx:MapOk xm xc) (hv:∀ e∈xm,e.2.1=.pointer none∨∃ p,e.2.1=.pointer (some ⟨p,0,none⟩)) (rows:List RW) (hR:RowsOk cm rows) (hl:∀ r∈rows,r.qs.length≤1000000) (K:List Grp) (W0:World) (H:List Grp) (hA:At W0 K q (.map (B2 xm) xc)) :
    Tri Tryz.prog 37 #[.pointer (some ⟨d,0,none⟩),.string dir,.map (some q)] W0 ([(d,.cells #[.int .i64 room,bv,.map (some nb),.map (some kb),.map (some cb),.bool fails,.bool once,.int .i64 calls] 72 (0,0))]::[(nb,.map (B2 nm) nc)]::[(cb,.map (B2 cm) cc)]::(K++(G8 rows++H)))
      (fun v H'=>∃ dn x rows',dn.Perm xm∧v=.tuple #[]∧RowsOk (I3 cm cc dir x) rows'∧RowsAdd rows dir q rows'∧H'=[(d,.cells #[.int .i64 room,bv,.map (some nb),.map (some kb),.map (some cb),.bool fails,.bool once,.int .i64 calls] 72 (0,0))]::[(nb,.map (B2 (F9 (nm,nc) dn).1) (F9 (nm,nc) dn).2)]::[(cb,.map (B2 (I3 cm cc dir x)) (if J7 cm dir then cc else cc+1))]::(K++(G8 rows'++H))):=by
  cases hg:S4 cm dir with
  | none =>
    have hno:=rows_none hR hg
    refine Tri.post (vNameNew d nb kb cb q nc cc xc room calls bv fails once nm cm xm dir hn hx hv hg W0 (K++(G8 rows++H)) (at_app hA)) fun v H1 h=>?_
    obtain ⟨dn,x,g,hd,ho,hv1,hH⟩:=h
    refine ⟨_,⟨dn,x,rows++[⟨dir,x,g,[q]⟩],hd,hv1,⟨?_,?_⟩,.inl ⟨hno,x,g,rfl⟩,rfl⟩,fun w hw=>?_⟩
    · have hm:J7 cm dir=false:=mhas_false.2 (mget_none.1 hg)
      rw [mput_new _ _ hm,List.map_append,List.map_append,hR.1]; rfl
    · intro r hr
      rcases List.mem_append.1 hr with hr | hr
      · exact hR.2 r hr
      · rw [List.mem_singleton.1 hr]; exact ⟨ho,Nat.one_pos⟩
    · rw [hH] at hw
      refine K6 hw fun _ x=>?_
      simp only [G8,List.map_append,List.map_cons,List.map_nil,List.flatten_cons,List.flatten_append,List.flatten_nil,List.count_append,List.append_nil]
      omega
  | some rv =>
    obtain ⟨pre,r,post,c,p1,p2,rfl,rfl,hp1,hpre,hd,hrv,e1,e2⟩:=rows_some hR hg
    obtain ⟨ho,hpos⟩:=hR.2 r (List.mem_append_right _ List.mem_cons_self)
    have hq:=hl r (List.mem_append_right _ List.mem_cons_self)
    rw [hrv] at ho
    refine Tri.heap (H':=[(d,.cells #[.int .i64 room,bv,.map (some nb),.map (some kb),.map (some cb),.bool fails,.bool once,.int .i64 calls] 72 (0,0))]::[(nb,.map (B2 nm) nc)]::[(cb,.map (B2 (p1++(dir,rv,c)::p2)) cc)]::r.g::(K++(G8 pre++(G8 post++H)))) (fun w hw=>K6 hw fun _ x=>?_)
      (Tri.post (vNameMore d nb kb cb q nc cc xc room calls bv fails once nm _ xm dir hn hx hv rv r.g r.qs.length _ ho hq hg W0 (K++(G8 pre++(G8 post++H))) (at_app hA)) fun v H1 h=>?_)
    · simp only [G8,List.map_append,List.map_cons,List.flatten_cons,List.flatten_append,List.count_append]
      omega
    · obtain ⟨dn,x,g,hdn,ho2,hv1,hH⟩:=h
      refine ⟨_,⟨dn,x,pre++⟨dir,x,g,r.qs++[q]⟩::post,hdn,hv1,⟨?_,?_⟩,.inr ⟨pre,r,post,x,g,rfl,hpre,hd,rfl⟩,rfl⟩,fun w hw=>?_⟩
      · rw [mput_split hp1]
        simp only [List.map_append,List.map_cons,e1,e2]
      · intro y hy
        rcases List.mem_append.1 hy with hy | hy
        · exact hR.2 y (List.mem_append_left _ hy)
        · rcases List.mem_cons.1 hy with rfl | hy
          · refine ⟨?_,by simp⟩
            show Go.Sw.Own 80 1 x g (r.qs++[q]).length ((r.qs++[q]).map _)
            rw [List.map_append,List.length_append]; exact ho2
          · exact hR.2 y (List.mem_append_right _ (List.mem_cons_of_mem _ hy))
      · rw [hH] at hw
        refine K6 hw fun _ x=>?_
        simp only [G8,List.map_append,List.map_cons,List.flatten_cons,List.flatten_append,List.count_append]
        omega
end Go.Proofs.YtlaoeiaaeifidaaGreat
namespace Go.Proofs.YtlaoeiaaeifidaaGreat
open Go Go.ChangeShapes Go.WideShapes Go.ChangeAt Go.RowKit Go.Sw
theorem ownKnob_:ownKnob Tryz.prog.godebug=none:=by kernel_rfl
theorem sat_nil (W:World):Sat W [] W:=⟨Below.refl _ _,by simp,by simp,by simp⟩
end Go.Proofs.YtlaoeiaaeifidaaGreat
namespace Go.Vf
open Go.Sw Go.Proofs.YtlaoeiaaeifidaaGreat
instance:LawfulBEq ByteArray:={ eq_of_beq:=fun h=>baEq.1 h,rfl:=baEq.2 rfl }
structure Body where
  now:ByteArray
  kept:ByteArray
instance:Inhabited Body:=⟨⟨ByteArray.mk #[],ByteArray.mk #[]⟩⟩
abbrev Nm:=ByteArray × Int
structure Ch where
  dir:ByteArray
  l:List Nm
structure DM where
  room:Int
  bodies:List Body
  names:List Nm
  kept:List Nm
  changes:List Ch
  fails:Bool
  once:Bool
  calls:Int
def newM (room:Int):DM:=⟨if 0 > room then 0 else room,[],[],[],[],false,false,0⟩
def E6:List Nm→ByteArray→Option Int
  | [],_=>none
  | n::r,p=>if p==n.1 then some n.2 else E6 r p
def N2 (l:List Nm) (x:Nm):List Nm:=l.filter (fun n=>!(x.1==n.1))++(if 0≤x.2 then [x] else [])
def J6 (l:List Nm) (c:List Nm):List Nm:=c.foldl N2 l
def I7 (M:DM) (k:Int):Body:=M.bodies.getD k.toNat default
def Z7 (M:DM) (k:Int):Nat:=(I7 M k).now.size
def N9 (M:DM):Nat:=(M.names.map fun x=>Z7 M x.2).sum
def H5 (M:DM) (right:Bool):DM:={ M with fails:=(B6 M.fails M.once M.calls right).2.1,calls:=(B6 M.fails M.once M.calls right).2.2 }
def V5 (M:DM) (right:Bool):Int:=(B6 M.fails M.once M.calls right).1
def O2 (M:DM) (dir:ByteArray) (l:List Nm):DM:={ M with names:=J6 M.names l,changes:=M.changes++[⟨dir,l⟩] }
def wasM (M:DM) (p:ByteArray):Nat:=match E6 M.names p with | none=>0 | some k=>Z7 M k
def D9 (M:DM) (p b:ByteArray):Int × DM :=
  if V5 M (A3 p)≠0 then (V5 M (A3 p),H5 M (A3 p))
  else if (N9 M:Int) - (wasM M p:Int)+(b.size:Int) > M.room then (61,H5 M (A3 p))
  else (0,O2 { H5 M (A3 p) with bodies:=M.bodies++[⟨b,ByteArray.mk #[]⟩] } (D2 p) [(p,(M.bodies.length:Int))])
def N3 (M:DM) (k:Int) (b:Body):DM:={ M with bodies:=M.bodies.set k.toNat b }
def F4 (M:DM) (p b:ByteArray):Int × DM :=
  if V5 M (A3 p)≠0 then (V5 M (A3 p),H5 M (A3 p))
  else match E6 M.names p with
    | none=>(60,H5 M (A3 p))
    | some k=>if (N9 M:Int)+(b.size:Int) > M.room then (61,H5 M (A3 p)) else (0,N3 (H5 M (A3 p)) k ⟨(I7 M k).now++b,(I7 M k).kept⟩)
def K9 (M:DM) (p:ByteArray):ByteArray × Int :=
  match E6 M.names p with
  | none=>(ByteArray.mk #[],60)
  | some k=>((I7 M k).now,0)
def renR (p q:ByteArray):Bool:=(A3 p&&A3 q)&&((D2 p).toList==(D2 q).toList)
def J3 (M:DM) (p q:ByteArray):Int × DM :=
  if V5 M (renR p q)≠0 then (V5 M (renR p q),H5 M (renR p q))
  else match E6 M.names p with
    | none=>(60,H5 M (renR p q))
    | some k=>(0,if p==q then H5 M (renR p q) else O2 (H5 M (renR p q)) (D2 q) [(p,-1),(q,k)])
def removeM (M:DM) (p:ByteArray):Int × DM :=
  if V5 M (A3 p)≠0 then (V5 M (A3 p),H5 M (A3 p))
  else match E6 M.names p with
    | none=>(60,H5 M (A3 p))
    | some _=>(0,O2 (H5 M (A3 p)) (D2 p) [(p,-1)])
def L8 (M:DM) (p:ByteArray):Int × DM :=
  if V5 M (A3 p)≠0 then (V5 M (A3 p),H5 M (A3 p))
  else match E6 M.names p with
    | none=>(60,H5 M (A3 p))
    | some k=>(0,N3 (H5 M (A3 p)) k ⟨(I7 M k).now,(I7 M k).now⟩)
def J1 (l:List Ch) (d:ByteArray):List (List Nm):=(l.filter fun c=>d==c.dir).map (·.l)
def dirR (d:ByteArray):Bool:=(d.toList==(ByteArray.mk #[]).toList)||H0 d
def I4 (M:DM) (d:ByteArray):Int × DM :=
  if V5 M (dirR d)≠0 then (V5 M (dirR d),H5 M (dirR d))
  else (0,{ H5 M (dirR d) with kept:=(J1 M.changes d).foldl J6 M.kept,changes:=M.changes.filter fun c=>!(d==c.dir) })
def failM (M:DM) (calls:Int) (once:Bool):DM:={ M with fails:=true,once:=once,calls:=if 0 > calls then 0 else calls }
def onceL:List ByteArray→List ByteArray
  | []=>[]
  | x::r=>if x∈onceL r then onceL r else x::onceL r
def S5 (l:List Ch):List ByteArray:=V7 (onceL (l.map (·.dir)))
def I6:List Body→List Int→List Body × List Int
  | [],l=>([],l)
  | b::r,l =>
    if (b.now.size:Int) - (b.kept.size:Int) > 0 then
      let x:=b.now.extract 0 (b.kept.size+(F1 (l.headD 0) ((b.now.size:Int) - (b.kept.size:Int)+1)).toNat)
      (⟨x,x⟩::(I6 r (l.drop 1)).1,(I6 r (l.drop 1)).2)
    else (⟨b.kept,b.kept⟩::(I6 r l).1,(I6 r l).2)
def O3 (l:List Ch):List ByteArray→List Int→List Nm→List Nm
  | [],_,K=>K
  | d::r,ks,K=>O3 l r (ks.drop 1) (((J1 l d).take (F1 (ks.headD 0) (((J1 l d).length:Int)+1)).toNat).foldl J6 K)
def V9 (M:DM) (ks:List Int):DM :=
  { M with bodies:=(I6 M.bodies ks).1,names:=O3 M.changes (S5 M.changes) (I6 M.bodies ks).2 M.kept,kept:=O3 M.changes (S5 M.changes) (I6 M.bodies ks).2 M.kept,changes:=[],fails:=false }
end Go.Vf
