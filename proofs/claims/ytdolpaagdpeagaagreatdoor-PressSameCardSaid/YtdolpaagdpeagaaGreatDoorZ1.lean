/- slices.Chunk at 64: the iterator's contract: the pieces, in their order, if the length is a multiple. (and what it stands on) -/
import Derived.Tactics
import Derived.Below
import Derived.KernelRfl
import Derived.Laws.Sem
import Derived.Laws.Small
import Derived.Deep.Quiet
import Derived.LoopN
import Derived.Deep.AppendSrc
import Derived.Laws.MakeOwn
import Derived.OrdersHeld
import Derived.RangeFuncNested
import Derived.RangeFuncBound
import Derived.RangeFuncLeaves
import Derived.TacticsIn
import Derived.RangeFuncCalls
import Derived.Shelf.Abstract
import Derived.Shelf.RegionOpen
import Derived.WalkKit
import Derived.OwnWalkIn
import Derived.TacticsInMore
import Derived.LoopNIn
import Derived.LoopIn
import Derived.BigRegionIn
import Derived.Test.YtdolpaagdpeagaaGreatDoorProg
namespace Go
theorem kr {α : Sort _} {a b : α} (h : a = b := by kernel_rfl) : a = b := h
end Go
namespace Go
abbrev mB (a : Array UInt8) : ByteArray := ByteArray.mk a
abbrev eB : ByteArray := ByteArray.mk #[]
abbrev zN : List Value := [.string eB,.string eB,.slice none 0 0,.slice none 0 0,.string eB]
end Go
namespace Go.Sw
open Go.RowKit
abbrev Grp:=List (Nat × Obj)
structure Sat (W0:World) (H:List Grp) (w:World):Prop where
  below:Below W0.heap.size W0 w
  nodup:(H.flatten.map Prod.fst).Nodup
  has:∀ p,p∈H.flatten→w.heap[p.1]? = some p.2
  high:∀ p,p∈H.flatten→W0.heap.size≤p.1
structure Sl where
  t:Nat
  ch:List (Nat × Bool)
  v:Value
abbrev Env:=List Sl
abbrev pt (b:Nat):Value:=.pointer (some ⟨b,0,none⟩)
def Env.find:List Sl→Nat→Option Sl
  | [],_=>none
  | s::r,t=>if s.t==t then some s else Env.find r t
def T7:Value→Option Bool
  | .bool b=>some b
  | _=>none
def chT (β:Nat→Bool→Bool) (ch:List (Nat × Bool)):Bool:=ch.all fun p=>β p.1 p.2
structure Fr where
  k:Nat
  dl:List Deferred
instance (k:Nat):OfNat Fr k:=⟨⟨k,[]⟩⟩
abbrev mkD (D:Nat):List Deferred:=[{ target:=.collected D,args:=#[] }]
def Fr.ds (n:Fr):List Deferred:=n.dl
structure Ag (n:Fr) (E:Env) (a:Act):Prop where
  defers:a.defers=n.ds
  size:a.tmps.size=n.k
  at_:∃ β:Nat→Bool→Bool,(∀ s,s∈E→∀ w,β s.t w=(T7 s.v==some w)) ∧
    ∀ s,s∈E→a.tmps[s.t]? = some (if chT β s.ch then s.v else undef)
theorem Env.find_mem {E:Env} {t:Nat} {s:Sl} (h:Env.find E t=some s):s∈E∧s.t=t:=by
  induction E with
  | nil=>simp [Env.find] at h
  | cons x r ih =>
    simp only [Env.find] at h
    split at h
    · rename_i hx; injection h with h; subst h; exact ⟨List.mem_cons_self,by simpa using hx⟩
    · obtain ⟨h1,h2⟩:=ih h; exact ⟨List.mem_cons_of_mem _ h1,h2⟩
def freeOf (t:Nat) (ch:List (Nat × Bool)):Bool:=ch.all fun p=>!(p.1==t)
def Env.put (E:List Sl) (d:Option Nat) (ch:List (Nat × Bool)) (v:Value):List Sl :=
  match d with
  | some t=>⟨t,ch,v⟩::E.filter fun s=>!(s.t==t)&&freeOf t s.ch
  | none=>E
theorem chT_free {β β':Nat→Bool→Bool} {t:Nat} (hβ:∀ u w,u≠t→β' u w=β u w) {ch:List (Nat × Bool)} (h:freeOf t ch=true):chT β' ch=chT β ch:=by
  induction ch with
  | nil=>rfl
  | cons p r ih =>
    simp only [freeOf,List.all_cons,Bool.and_eq_true] at h
    have h1:p.1≠t:=by simpa using h.1
    have h2:=ih h.2
    unfold chT at h2 ⊢
    simp only [List.all_cons,hβ _ _ h1,h2]
def F5 (n:Fr) (ch:List (Nat × Bool)):Option Nat→Bool
  | some t=>decide (t<n.k)&&freeOf t ch
  | none=>true
theorem Ag.put {n:Fr} {E:Env} {a:Act} (h:Ag n E a) {β:Nat→Bool→Bool} (hβ:∀ s,s∈E→∀ w,β s.t w=(T7 s.v==some w))
    (hat:∀ s,s∈E→a.tmps[s.t]? = some (if chT β s.ch then s.v else undef)) {d:Option Nat} {ch:List (Nat × Bool)} (hd:F5 n ch d=true) (v:Value) :
    Ag n (Env.put E d ch v) (a.put d (if chT β ch then v else undef)):=by
  cases d with
  | none=>exact h
  | some t =>
    simp only [F5,Bool.and_eq_true,decide_eq_true_eq] at hd
    obtain ⟨ht,hf⟩:=hd
    refine ⟨h.defers,by simp [Act.put,h.size],fun u w=>if u=t then T7 v==some w else β u w,?_,?_⟩
    · intro s hs w
      simp only [Env.put,List.mem_cons,List.mem_filter,Bool.and_eq_true] at hs
      rcases hs with rfl | ⟨hs,hne,_⟩
      · simp
      · have:s.t≠t:=by simpa using hne
        simp only [this,if_false]; exact hβ s hs w
    · intro s hs
      simp only [Env.put,List.mem_cons,List.mem_filter,Bool.and_eq_true] at hs
      rcases hs with rfl | ⟨hs,hne,hfs⟩
      · simp only [Act.put]
        rw [chT_free (β:=β) (β':=fun u w=>if u=t then T7 v==some w else β u w) (t:=t) (fun u w hu=>if_neg hu) hf]
        rw [Array.getElem?_setIfInBounds_self_of_lt (by rw [h.size]; exact ht)]
      · have hne':s.t≠t:=by simpa using hne
        simp only [Act.put]
        rw [chT_free (β:=β) (β':=fun u w=>if u=t then T7 v==some w else β u w) (t:=t) (fun u w hu=>if_neg hu) hfs]
        rw [Array.getElem?_setIfInBounds_ne (by omega)]
        exact hat s hs
theorem Ag.sub {n:Fr} {E E':Env} {a:Act} (h:Ag n E a) (hs:∀ s,s∈E'→s∈E):Ag n E' a:=by
  obtain ⟨β,h1,h2⟩:=h.at_
  exact ⟨h.defers,h.size,β,fun s h=>h1 s (hs s h),fun s h=>h2 s (hs s h)⟩
def D4 (ops:Array Oper) (E:List Sl):Option (Nat × Bool)→Option (List (Nat × Bool))
  | none=>some []
  | some (j,want) =>
    match (ops[j]?).bind Oper.dst with
    | some dj=>(match Env.find E dj with | some s=>some ((dj,want)::s.ch) | none=>none)
    | none=>none
theorem Q3 {ops:Array Oper} {E:Env} {o:Oper} {ch:List (Nat × Bool)} {tmps:Array Value} {β:Nat→Bool→Bool}
    (hβ:∀ s,s∈E→∀ w,β s.t w=(T7 s.v==some w)) (hat:∀ s,s∈E→tmps[s.t]? = some (if chT β s.ch then s.v else undef))
    (h:D4 ops E o.guard=some ch):Region.wanted o (yielded ops tmps)=chT β ch:=by
  unfold Region.wanted
  cases hg:o.guard with
  | none=>rw [hg] at h; simp only [D4,Option.some.injEq] at h; subst h; simp [chT]
  | some jw =>
    obtain ⟨j,want⟩:=jw
    rw [hg] at h
    simp only [D4] at h
    cases hd:(ops[j]?).bind Oper.dst with
    | none=>rw [hd] at h; simp at h
    | some dj =>
      rw [hd] at h
      dsimp only at h
      cases hf:Env.find E dj with
      | none=>rw [hf] at h; simp at h
      | some s =>
        rw [hf] at h
        simp only [Option.some.injEq] at h
        subst h
        obtain ⟨hm,rfl⟩:=Env.find_mem hf
        have h1:=hat s hm
        have h2:=hβ s hm want
        simp only [yielded,hd,Option.bind_some,h1]
        have e:chT β ((s.t,want)::s.ch)=(β s.t want&&chT β s.ch):=by simp [chT]
        rw [e,h2]
        cases hc:chT β s.ch
        · simp [undef]
        · simp only [if_true,Bool.and_true]
          cases hv:s.v <;> simp [T7]
def subCh (c1 c2:List (Nat × Bool)):Bool:=c1.all fun p=>c2.any fun q=>p.1==q.1&&p.2==q.2
theorem subCh_true {β:Nat→Bool→Bool} {c1 c2:List (Nat × Bool)} (h:subCh c1 c2=true) (h2:chT β c2=true):chT β c1=true:=by
  unfold chT at *
  rw [List.all_eq_true] at *
  intro p hp
  have:=List.all_eq_true.1 h p hp
  rw [List.any_eq_true] at this
  obtain ⟨q,hq,he⟩:=this
  have:=h2 q hq
  simp at he
  rw [he.1,he.2]
  exact this
def evT (E:List Sl) (ch:List (Nat × Bool)) (t:Nat):Option Value :=
  match Env.find E t with
  | some s=>if subCh s.ch ch then some s.v else none
  | none=>none
def evO (E:List Sl) (ch:List (Nat × Bool)):Operand→Option Value
  | .tmp t=>evT E ch t
  | .const v=>some v
  | .global g=>some (.pointer (some ⟨g,0,none⟩))
  | .func f=>some (.func (.func f) #[] #[])
theorem L4 {E:Env} {ch:List (Nat × Bool)} {a:Act} {β:Nat→Bool→Bool}
    (hat:∀ s,s∈E→a.tmps[s.t]? = some (if chT β s.ch then s.v else undef)) (hc:chT β ch=true) {x:Operand} {v:Value} (h:evO E ch x=some v):a.eval x=v:=by
  cases x with
  | tmp t =>
    simp only [evO,evT] at h
    split at h
    · rename_i s hf
      obtain ⟨hm,rfl⟩:=Env.find_mem hf
      split at h
      · rename_i hs
        injection h with h
        have:=hat s hm
        rw [subCh_true hs hc] at this
        simp only [Act.eval,Array.getD_eq_getD_getElem?,this]
        simpa using h
      · simp at h
    · simp at h
  | const v=>simp only [evO,Option.some.injEq] at h; exact h
  | global g=>simp only [evO,Option.some.injEq] at h; exact h
  | func f=>simp only [evO,Option.some.injEq] at h; exact h
end Go.Sw
namespace Go.Sw
def binV (P:Program) (op:BinOp) (t:TypeId):Value→Value→Option Value
  | .int k a,.int k' b =>
    match op with
    | .shl=>if b<0 then none else some (.int k (k.wrap (a * 2 ^ (min b.toNat k.bits))))
    | .shr=>if b<0 then none else some (.int k (a.fdiv (2 ^ (min b.toNat k.bits))))
    | .add=>if k=k' then some (.int k (k.wrap (a+b))) else none
    | .sub=>if k=k' then some (.int k (k.wrap (a - b))) else none
    | .mul=>if k=k' then some (.int k (k.wrap (a * b))) else none
    | .quo=>if k=k' then (if b=0 then none else some (.int k (k.wrap (a.tdiv b)))) else none
    | .rem=>if k=k' then (if b=0 then none else some (.int k (a.tmod b))) else none
    | .and=>if k=k' then some (.int k (k.wrap (BitVec.ofInt k.bits a &&& BitVec.ofInt k.bits b).toNat)) else none
    | .or=>if k=k' then some (.int k (k.wrap (BitVec.ofInt k.bits a ||| BitVec.ofInt k.bits b).toNat)) else none
    | .xor=>if k=k' then some (.int k (k.wrap (BitVec.ofInt k.bits a ^^^ BitVec.ofInt k.bits b).toNat)) else none
    | .andNot=>if k=k' then some (.int k (k.wrap (BitVec.ofInt k.bits a &&& ~~~BitVec.ofInt k.bits b).toNat)) else none
    | .eql=>if k=k' then some (.bool (a==b)) else none
    | .neq=>if k=k' then some (.bool (a != b)) else none
    | .lss=>if k=k' then some (.bool (decide (a<b))) else none
    | .leq=>if k=k' then some (.bool (decide (a≤b))) else none
    | .gtr=>if k=k' then some (.bool (decide (a > b))) else none
    | .geq=>if k=k' then some (.bool (decide (a ≥ b))) else none
  | .string a,.string b =>
    match op with
    | .eql=>some (.bool (a.toList==b.toList))
    | .neq=>some (.bool !(a.toList==b.toList))
    | .lss=>some (.bool (Op.bytesLess a.toList b.toList))
    | .leq=>some (.bool (Op.bytesLess a.toList b.toList||a.toList==b.toList))
    | .gtr=>some (.bool !(Op.bytesLess a.toList b.toList||a.toList==b.toList))
    | .geq=>some (.bool !(Op.bytesLess a.toList b.toList))
    | _=>none
  | .bool a,.bool b =>
    match op,P.underlying t with
    | .eql,some .bool=>some (.bool (a==b))
    | .neq,some .bool=>some (.bool !(a==b))
    | _,_=>none
  | .pointer none,.pointer b =>
    match op,P.underlying t with
    | .eql,some (.pointer _)=>some (.bool b.isNone)
    | .neq,some (.pointer _)=>some (.bool !b.isNone)
    | _,_=>none
  | .pointer (some _),.pointer none =>
    match op,P.underlying t with
    | .eql,some (.pointer _)=>some (.bool false)
    | .neq,some (.pointer _)=>some (.bool true)
    | _,_=>none
  | .slice none _ _,.slice b _ _ =>
    match op,P.underlying t with
    | .eql,some (.slice _)=>some (.bool b.isNone)
    | .neq,some (.slice _)=>some (.bool !b.isNone)
    | _,_=>none
  | .slice (some _) _ _,.slice none _ _ =>
    match op,P.underlying t with
    | .eql,some (.slice _)=>some (.bool false)
    | .neq,some (.slice _)=>some (.bool true)
    | _,_=>none
  | .map none,.map b =>
    match op,P.underlying t with
    | .eql,some (.map _ _)=>some (.bool b.isNone)
    | .neq,some (.map _ _)=>some (.bool !b.isNone)
    | _,_=>none
  | .map (some _),.map none =>
    match op,P.underlying t with
    | .eql,some (.map _ _)=>some (.bool false)
    | .neq,some (.map _ _)=>some (.bool true)
    | _,_=>none
  | _,_=>none
theorem equal_bool' {P:Program} {t:TypeId} (h:P.underlying t=some .bool) (a b:Bool) (d:Nat) (w:World):(Op.equalIn (d+1) t (.bool a) (.bool b)).run P w=.ok (a==b) w:=by
  simp [Op.equalIn,run_underlying h]
theorem equal_bool {P:Program} {t:TypeId} (h:P.underlying t=some .bool) (a b:Bool) (w:World):(Op.equal t (.bool a) (.bool b)).run P w=.ok (a==b) w:=equal_bool' h a b 9999 w
theorem equal_ptr' {P:Program} {t e:TypeId} (h:P.underlying t=some (.pointer e)) (b:Option Addr) (d:Nat) (w:World):(Op.equalIn (d+1) t (.pointer none) (.pointer b)).run P w=.ok b.isNone w:=by
  simp [Op.equalIn,run_underlying h]
theorem equal_ptr {P:Program} {t e:TypeId} (h:P.underlying t=some (.pointer e)) (b:Option Addr) (w:World):(Op.equal t (.pointer none) (.pointer b)).run P w=.ok b.isNone w:=equal_ptr' h b 9999 w
theorem equal_ptr2' {P:Program} {t e:TypeId} (h:P.underlying t=some (.pointer e)) (a:Addr) (d:Nat) (w:World):(Op.equalIn (d+1) t (.pointer (some a)) (.pointer none)).run P w=.ok false w:=by
  simp [Op.equalIn,run_underlying h]
theorem equal_ptr2 {P:Program} {t e:TypeId} (h:P.underlying t=some (.pointer e)) (a:Addr) (w:World):(Op.equal t (.pointer (some a)) (.pointer none)).run P w=.ok false w:=equal_ptr2' h a 9999 w
theorem equal_slice' {P:Program} {t e:TypeId} (h:P.underlying t=some (.slice e)) (n c n' c':Nat) (b:Option Addr) (d:Nat) (w:World):(Op.equalIn (d+1) t (.slice none n c) (.slice b n' c')).run P w=.ok b.isNone w:=by
  simp [Op.equalIn,run_underlying h]
theorem equal_slice {P:Program} {t e:TypeId} (h:P.underlying t=some (.slice e)) (n c n' c':Nat) (b:Option Addr) (w:World):(Op.equal t (.slice none n c) (.slice b n' c')).run P w=.ok b.isNone w:=equal_slice' h n c n' c' b 9999 w
theorem equal_slice2' {P:Program} {t e:TypeId} (h:P.underlying t=some (.slice e)) (n c n' c':Nat) (a:Addr) (d:Nat) (w:World):(Op.equalIn (d+1) t (.slice (some a) n c) (.slice none n' c')).run P w=.ok false w:=by
  simp [Op.equalIn,run_underlying h]
theorem equal_slice2 {P:Program} {t e:TypeId} (h:P.underlying t=some (.slice e)) (n c n' c':Nat) (a:Addr) (w:World):(Op.equal t (.slice (some a) n c) (.slice none n' c')).run P w=.ok false w:=equal_slice2' h n c n' c' a 9999 w
theorem equal_map' {P:Program} {t e k:TypeId} (h:P.underlying t=some (.map k e)) (b:Option Nat) (d:Nat) (w:World):(Op.equalIn (d+1) t (.map none) (.map b)).run P w=.ok b.isNone w:=by
  simp [Op.equalIn,run_underlying h]
theorem equal_map {P:Program} {t e k:TypeId} (h:P.underlying t=some (.map k e)) (b:Option Nat) (w:World):(Op.equal t (.map none) (.map b)).run P w=.ok b.isNone w:=equal_map' h b 9999 w
theorem equal_map2' {P:Program} {t e k:TypeId} (h:P.underlying t=some (.map k e)) (a:Nat) (d:Nat) (w:World):(Op.equalIn (d+1) t (.map (some a)) (.map none)).run P w=.ok false w:=by
  simp [Op.equalIn,run_underlying h]
theorem equal_map2 {P:Program} {t e k:TypeId} (h:P.underlying t=some (.map k e)) (a:Nat) (w:World):(Op.equal t (.map (some a)) (.map none)).run P w=.ok false w:=equal_map2' h a 9999 w
theorem binV_sound {P:Program} {op:BinOp} {t:TypeId} {x y v:Value} (h:binV P op t x y=some v) (w:World):(binOp op t x y).run P w=.ok v w:=by
  cases x <;> cases y <;> (try (simp [binV] at h; done))
  case int.int k a k' b =>
    cases op <;> simp only [binV] at h
    case shl=>(split at h); (simp at h); (rename_i hb; injection h with h; subst h; simp only [binOp,Op.shift,if_neg hb]; rfl)
    case shr=>(split at h); (simp at h); (rename_i hb; injection h with h; subst h; simp only [binOp,Op.shift,if_neg hb]; rfl)
    case quo=>(split at h; split at h) <;> simp_all [binOp,Op.intDiv]
    case rem=>(split at h; split at h) <;> simp_all [binOp,Op.intDiv]
    all_goals
      split at h
      · simp_all [binOp,Op.intArith,Op.intBits,Op.intCmp]
      · simp at h
  case string.string a b=>cases op <;> simp only [binV,Option.some.injEq,reduceCtorEq] at h <;> (subst h; simp [binOp,Op.stringOp])
  case bool.bool a b =>
    simp only [binV] at h
    split at h <;> simp_all [binOp,equal_bool]
  case pointer.pointer a b =>
    cases a
    · simp only [binV] at h
      split at h
      · rename_i hu; simp only [Option.some.injEq] at h; subst h; cases b <;> simp [binOp,equal_ptr hu]
      · rename_i hu; simp only [Option.some.injEq] at h; subst h; cases b <;> simp [binOp,equal_ptr hu]
      · simp at h
    · cases b
      · simp only [binV] at h
        split at h
        · rename_i hu; simp only [Option.some.injEq] at h; subst h; simp [binOp,equal_ptr2 hu]
        · rename_i hu; simp only [Option.some.injEq] at h; subst h; simp [binOp,equal_ptr2 hu]
        · simp at h
      · simp [binV] at h
  case slice.slice a n c b n' c' =>
    cases a
    · simp only [binV] at h
      split at h
      · rename_i hu; simp only [Option.some.injEq] at h; subst h; simp [binOp,equal_slice hu]
      · rename_i hu; simp only [Option.some.injEq] at h; subst h; simp [binOp,equal_slice hu]
      · simp at h
    · cases b
      · simp only [binV] at h
        split at h
        · rename_i hu; simp only [Option.some.injEq] at h; subst h; simp [binOp,equal_slice2 hu]
        · rename_i hu; simp only [Option.some.injEq] at h; subst h; simp [binOp,equal_slice2 hu]
        · simp at h
      · simp [binV] at h
  case map.map a b =>
    cases a
    · simp only [binV] at h
      split at h
      · rename_i hu; simp only [Option.some.injEq] at h; subst h; simp [binOp,equal_map hu]
      · rename_i hu; simp only [Option.some.injEq] at h; subst h; simp [binOp,equal_map hu]
      · simp at h
    · cases b
      · simp only [binV] at h
        split at h
        · rename_i hu; simp only [Option.some.injEq] at h; subst h; simp [binOp,equal_map2 hu]
        · rename_i hu; simp only [Option.some.injEq] at h; subst h; simp [binOp,equal_map2 hu]
        · simp at h
      · simp [binV] at h
def unV:UnOp→Value→Option Value
  | .neg,.int k n=>some (.int k (k.wrap (0 - n)))
  | .xor,.int k n=>some (.int k (k.wrap (BitVec.ofInt k.bits (if k.signed then -1 else k.max) ^^^ BitVec.ofInt k.bits n).toNat))
  | .not,.bool b=>some (.bool !b)
  | _,_=>none
theorem unV_sound {P:Program} {op:UnOp} {x v:Value} (h:unV op x=some v) (w:World):(Op.unary op x).run P w=.ok v w:=by
  cases op <;> cases x <;> simp only [unV,Option.some.injEq,reduceCtorEq] at h <;> (subst h; simp [Op.unary,Op.intArith,Op.intBits])
def convV (P:Program) (s d:TypeId) (x:Value):Option Value :=
  match P.underlying s,P.underlying d,x with
  | some _,some (.int k),.int _ n=>some (.int k (k.wrap n))
  | some _,some .string,.int _ n=>some (.string (Utf8.encode n))
  | some .string,some .string,.string b=>some (.string b)
  | _,_,_=>none
theorem convV_sound {P:Program} {s d:TypeId} {x v:Value} (h:convV P s d x=some v) (w:World):(convert s d x).run P w=.ok v w:=by
  unfold convV at h
  split at h
  · rename_i h1 h2; injection h with h; subst h; simp [convert,run_underlying h1,run_underlying h2,Conv.intToInt]
  · rename_i h1 h2; injection h with h; subst h; simp [convert,run_underlying h1,run_underlying h2,Conv.intToString]
  · rename_i h1 h2; injection h with h; subst h; simp [convert,run_underlying h1,run_underlying h2]
  · simp at h
def aggB (P:Program) (t:TypeId):Option Bool :=
  match P.underlying t with
  | some (.struct _)=>some true
  | some (.array _ _)=>some true
  | some _=>some false
  | none=>none
theorem Q9 {P:Program} {t:TypeId} {b:Bool} (h:aggB P t=some b) (w:World):(isAgg t).run P w=.ok b w:=by
  unfold aggB at h
  split at h
  · rename_i h1; injection h with h; subst h; simp [isAgg,run_underlying h1]
  · rename_i h1; injection h with h; subst h; simp [isAgg,run_underlying h1]
  · rename_i d hs ha h1
    injection h with h; subst h
    have hs':=hs
    simp only [isAgg,Sem.run_bind,run_underlying h1,Result.andThen_ok]
    cases d <;> first | rfl | exact (ha _ _ h1).elim | exact (hs _ h1).elim
  · simp at h
def T5 (P:Program) (t:TypeId):Option Nat:=(P.info? t).map (·.size)
theorem J1 {P:Program} {t:TypeId} {n:Nat} (h:T5 P t=some n) (w:World):(sizeOf t).run P w=.ok n w:=by
  unfold T5 at h
  cases hi:P.info? t with
  | none=>rw [hi] at h; simp at h
  | some i=>rw [hi] at h; simp at h; subst h; simp [sizeOf,typeInfo,hi]
def partV (P:Program) (t:TypeId) (cs:Array Value) (off:Nat):Option Value :=
  match aggB P t with
  | some true=>(match T5 P t with | some n=>some (.agg (cs.extract off (off+n))) | none=>none)
  | some false=>cs[off]?
  | none=>none
theorem partV_sound {P:Program} {t:TypeId} {cs:Array Value} {off:Nat} {v:Value} (h:partV P t cs off=some v) (w:World):(part t cs off).run P w=.ok v w:=by
  unfold partV at h
  split at h
  · rename_i h1
    split at h
    · rename_i n h2; injection h with h; subst h; simp [part,Q9 h1,J1 h2]
    · simp at h
  · rename_i h1; simp [part,Q9 h1,h]
  · simp at h
def fieldV (P:Program) (t:TypeId) (x:Value) (f:Nat):Option Value :=
  match P.underlying t,x with
  | some (.struct fs),.agg cs=>(match fs[f]? with | some fd=>partV P fd.type cs fd.offset | none=>none)
  | _,_=>none
theorem fieldV_sound {P:Program} {t:TypeId} {x:Value} {f:Nat} {v:Value} (h:fieldV P t x f=some v) (w:World):(Instr.field t x f).run P w=.ok v w:=by
  unfold fieldV at h
  split at h
  · rename_i fs cs h1
    split at h
    · rename_i fd h2; simp [Instr.field,run_underlying h1,h2,asAgg,partV_sound h]
    · simp at h
  · simp at h
def fieldAddrV (P:Program) (t:TypeId) (x:Value) (f:Nat):Option Value :=
  match P.underlying t,x with
  | some (.struct fs),.pointer (some a) =>
    (match fs[f]? with
     | some fd=>(match T5 P fd.type with | some (_+1)=>some (.pointer (some (a.add fd.offset))) | _=>none)
     | none=>none)
  | _,_=>none
theorem fieldAddrV_sound {P:Program} {t:TypeId} {x:Value} {f:Nat} {v:Value} (h:fieldAddrV P t x f=some v) (w:World):(Instr.fieldAt t x f).run P w=.ok v w:=by
  unfold fieldAddrV at h
  split at h
  · rename_i fs a h1
    split at h
    · rename_i fd h2
      split at h
      · rename_i h3; injection h with h; subst h
        simp [Instr.fieldAt,run_underlying h1,h2,Instr.sureAddr,fieldPlace,J1 h3]
      · simp at h
    · simp at h
  · simp at h
def lenV (P:Program) (t:Option TypeId) (x:Option Value):Option Value :=
  match t,x with
  | some t,some x =>
    (match P.underlying t,x with
     | some .string,.string s=>some (.int .i64 ((s.size:Nat):Int))
     | some (.slice _),.slice _ n _=>some (.int .i64 ((n:Nat):Int))
     | some (.array n _),_=>some (.int .i64 ((n:Nat):Int))
     | _,_=>none)
  | _,_=>none
theorem lenV_sound {P:Program} {ts:Array TypeId} {avs:Array Value} {t:TypeId} {v:Value} (h:lenV P ts[0]? avs[0]? = some v) (w:World):(Builtin.len_ ts t avs).run P w=.ok v w:=by
  unfold lenV at h
  split at h
  · rename_i t' x h1 h2
    split at h
    · rename_i h3; injection h with h; subst h; simp [Builtin.len_,h1,h2,run_underlying h3,goInt]
    · rename_i h3; injection h with h; subst h; simp [Builtin.len_,h1,h2,run_underlying h3,goInt]
    · rename_i h3; injection h with h; subst h; simp [Builtin.len_,h1,h2,run_underlying h3,goInt]
    · simp at h
  · simp at h
def capV (P:Program) (t:Option TypeId) (x:Option Value):Option Value :=
  match t,x with
  | some t,some x =>
    (match P.underlying t,x with
     | some (.slice _),.slice _ _ n=>some (.int .i64 ((n:Nat):Int))
     | _,_=>none)
  | _,_=>none
theorem capV_sound {P:Program} {ts:Array TypeId} {avs:Array Value} {t:TypeId} {v:Value} (h:capV P ts[0]? avs[0]? = some v) (w:World):(Builtin.cap_ ts t avs).run P w=.ok v w:=by
  unfold capV at h
  split at h
  · rename_i t' x h1 h2
    split at h
    · rename_i h3; injection h with h; subst h; simp [Builtin.cap_,h1,h2,run_underlying h3,goInt]
    · simp at h
  · simp at h
def maxV:List Value→Option Value
  | [.int k a,.int _ b]=>some (.int k (if b > a then b else a))
  | _=>none
theorem maxV_sound {P:Program} {ts:Array TypeId} {avs:List Value} {t:TypeId} {v:Value} (h:maxV avs=some v) (w:World):(Builtin.max_ ts t avs.toArray).run P w=.ok v w:=by
  unfold maxV at h
  split at h
  · injection h with h; subst h; simp [Builtin.max_,Builtin.max2]
  · simp at h
def minV:List Value→Option Value
  | [.int k a,.int _ b]=>some (.int k (if b<a then b else a))
  | _=>none
theorem minV_sound {P:Program} {ts:Array TypeId} {avs:List Value} {t:TypeId} {v:Value} (h:minV avs=some v) (w:World):(Builtin.min_ ts t avs.toArray).run P w=.ok v w:=by
  unfold minV at h
  split at h
  · injection h with h; subst h; simp [Builtin.min_,Builtin.min2]
  · simp at h
def evL (ρ:Operand→Option Value):List Operand→Option (List Value)
  | []=>some []
  | x::r=>(match ρ x with | some v=>(match evL ρ r with | some l=>some (v::l) | none=>none) | none=>none)
theorem evL_map {ρ:Operand→Option Value} {r:Operand→Value} (hρ:∀ x v,ρ x=some v→r x=v):∀ (xs:List Operand) {vs:List Value},evL ρ xs=some vs→xs.map r=vs
  | [],vs,h=>by simp [evL] at h; subst h; rfl
  | x::xs,vs,h=>by
    simp only [evL] at h
    split at h
    · rename_i v hv
      split at h
      · rename_i l hl; injection h with h; subst h
        simp [hρ _ _ hv,evL_map hρ xs hl]
      · simp at h
    · simp at h
def evP (ρ:Operand→Option Value):List (Nat × Operand)→Option (List (Nat × Value))
  | []=>some []
  | (i,x)::r=>(match ρ x with | some v=>(match evP ρ r with | some l=>some ((i,v)::l) | none=>none) | none=>none)
theorem evP_map {ρ:Operand→Option Value} {r:Operand→Value} (hρ:∀ x v,ρ x=some v→r x=v):∀ (xs:List (Nat × Operand)) {vs:List (Nat × Value)},evP ρ xs=some vs→xs.map (fun p=>(p.1,r p.2))=vs
  | [],vs,h=>by simp [evP] at h; subst h; rfl
  | (i,x)::xs,vs,h=>by
    simp only [evP] at h
    split at h
    · rename_i v hv
      split at h
      · rename_i l hl; injection h with h; subst h
        simp [hρ _ _ hv,evP_map hρ xs hl]
      · simp at h
    · simp at h
def placesV (P:Program):List Field→Option (List (Nat × Nat))
  | []=>some []
  | f::r=>(match T5 P f.type with | some n=>(match placesV P r with | some l=>some ((f.offset,n)::l) | none=>none) | none=>none)
def zeroV (P:Program) (t:TypeId):Option Value:=(P.info? t).bind (·.zero)
theorem W6 {P:Program} {t:TypeId} {v:Value} (h:zeroV P t=some v) (w:World):(zeroValue t).run P w=.ok v w:=by
  unfold zeroV at h
  cases hi:P.info? t with
  | none=>rw [hi] at h; simp at h
  | some i=>rw [hi] at h; simp at h; simp [zeroValue,typeInfo,hi,h]
def fpl (f:Field):Sem (Nat × Nat):=do pure (f.offset,← sizeOf f.type)
theorem run_fpl {P:Program} {f:Field} {n:Nat} (h:T5 P f.type=some n) (w:World):(fpl f).run P w=.ok (f.offset,n) w:=by
  simp [fpl,J1 h]
theorem places_run {P:Program} (w:World):∀ (fs:List Field) {l:List (Nat × Nat)},placesV P fs=some l→(fs.mapM fpl).run P w=.ok l w
  | [],l,h=>by simp [placesV] at h; subst h; simp
  | f::r,l,h=>by
    simp only [placesV] at h
    split at h
    · rename_i n hn
      split at h
      · rename_i l' hl; injection h with h; subst h
        have ih:=places_run (P:=P) w r hl
        simp only [List.mapM_cons,Sem.run_bind,run_fpl hn,Result.andThen_ok,ih]
        rfl
      · simp at h
    · simp at h
def buildV (P:Program) (t:TypeId) (parts:List (Nat × Value)):Option Value :=
  match zeroV P t,P.underlying t with
  | some z,some (.struct fs) =>
    (match placesV P fs.toList with
     | some pl=>(match Instr.fill (pl.toArray[·]?) z.cells parts with | some c=>some (.agg c) | none=>none)
     | none=>none)
  | some z,some (.array _ e) =>
    (match T5 P e with
     | some n=>(match Instr.fill (fun i=>some (i * n,n)) z.cells parts with | some c=>some (.agg c) | none=>none)
     | none=>none)
  | _,_=>none
theorem buildV_sound {P:Program} {t:TypeId} {parts:List (Nat × Value)} {v:Value} (h:buildV P t parts=some v) (w:World):(Instr.build t parts.toArray).run P w=.ok v w:=by
  unfold buildV at h
  split at h
  · rename_i z fs hz hu
    split at h
    · rename_i pl hp
      split at h
      · rename_i c hc; injection h with h; subst h
        have e:=places_run (P:=P) w fs.toList hp
        have e2:(fs.mapM fpl).run P w=.ok pl.toArray w:=by
          rw [Array.mapM_eq_mapM_toList,Sem.run_map,e]
          rfl
        have e3:(fun f:Field=>(do let s ← sizeOf f.type; pure (f.offset,s):Sem (Nat × Nat)))=fpl:=rfl
        simp only [Instr.build,Sem.run_bind,W6 hz,Result.andThen_ok,run_underlying hu,e3,e2,hc]
        rfl
      · simp at h
    · simp at h
  · rename_i z n e hz hu
    split at h
    · rename_i k hk
      split at h
      · rename_i c hc; injection h with h; subst h
        simp only [Instr.build,Sem.run_bind,W6 hz,Result.andThen_ok,run_underlying hu,J1 hk,hc]
        rfl
      · simp at h
    · simp at h
  · simp at h
def callV (P:Program) (ρ:Operand→Option Value) (c:Call):Option Value :=
  match c.callee with
  | .builtin .len=>(match evL ρ c.args.toList with | some l=>lenV P c.argTypes[0]? l.toArray[0]? | none=>none)
  | .builtin .cap=>(match evL ρ c.args.toList with | some l=>capV P c.argTypes[0]? l.toArray[0]? | none=>none)
  | .builtin .max=>(match evL ρ c.args.toList with | some l=>maxV l | none=>none)
  | .builtin .min=>(match evL ρ c.args.toList with | some l=>minV l | none=>none)
  | _=>none
def nilV:Value→Option Value
  | .pointer (some a)=>some (.pointer (some a))
  | .func (.func f) x y=>some (.func (.func f) x y)
  | .iface t v=>some (.iface t v)
  | _=>none
def ifaceV (P:Program) (t:TypeId) (x:Value):Option Value :=
  match P.underlying t with
  | some (.interface _)=>none
  | some _=>some (.iface t x)
  | none=>none
def pev (P:Program) (ρ:Operand→Option Value):Go.Op→Option Value
  | .move x | .assign x=>ρ x
  | .binOp op t x y _=>(match ρ x,ρ y with | some a,some b=>binV P op t a b | _,_=>none)
  | .unOp op _ x=>(match ρ x with | some a=>unV op a | none=>none)
  | .convert s d x=>(match ρ x with | some a=>convV P s d a | none=>none)
  | .extract x i=>(match ρ x with | some (.tuple vs)=>vs[i]? | _=>none)
  | .field t x f=>(match ρ x with | some a=>fieldV P t a f | none=>none)
  | .fieldAddr t x f=>(match ρ x with | some a=>fieldAddrV P t a f | none=>none)
  | .nilCheck x=>(match ρ x with | some a=>nilV a | none=>none)
  | .makeFunc fn first captured=>(match evL ρ first.toList,evL ρ captured.toList with | some a,some b=>some (.func fn a.toArray b.toArray) | _,_=>none)
  | .makeInterface t x=>(match ρ x with | some a=>ifaceV P t a | none=>none)
  | .build t parts=>(match evP ρ parts.toList with | some l=>buildV P t l | none=>none)
  | .call c=>callV P ρ c
  | _=>none
theorem O1 {ρ:Operand→Option Value} {r:Operand→Value} (hρ:∀ x v,ρ x=some v→r x=v) {xs:Array Operand} {l:List Value} (h:evL ρ xs.toList=some l):xs.map r=l.toArray:=by
  rw [← evL_map hρ _ h]; apply Array.ext'; rw [Array.toList_map]
theorem pev_sound {P:Program} {ρ:Operand→Option Value} {r:Operand→Value} (hρ:∀ x v,ρ x=some v→r x=v) {o:Oper} {v:Value}
    (h:pev P ρ o.op=some v) (w:World):(execOp r o).run P w=.ok (.value v) w:=by
  unfold pev at h
  unfold execOp
  split at h <;> rename_i ho
  · simp only [ho]; rw [hρ _ _ h]; rfl
  · simp only [ho]; rw [hρ _ _ h]; rfl
  · simp only [ho]
    split at h
    · rename_i a b ha hb
      rw [hρ _ _ ha,hρ _ _ hb]
      have hg:∀ {op t v},binV P op t a b=some v→∀ (x y:Operand),(eqGuard op t x y a b).run P w=.ok () w:=by
        intro op t v hv x y
        unfold eqGuard
        cases a <;> cases b <;> (first | (simp [binV] at hv; done) | (split <;> rfl))
      simp [hg h,binV_sound h]
    · simp at h
  · simp only [ho]
    split at h
    · rename_i a ha; rw [hρ _ _ ha]; simp [unV_sound h]
    · simp at h
  · simp only [ho]
    split at h
    · rename_i a ha; rw [hρ _ _ ha]; simp [convV_sound h]
    · simp at h
  · simp only [ho]
    split at h
    · rename_i vs ha; rw [hρ _ _ ha]; simp [Instr.extract,h]
    · simp at h
  · simp only [ho]
    split at h
    · rename_i a ha; rw [hρ _ _ ha]; simp [fieldV_sound h]
    · simp at h
  · simp only [ho]
    split at h
    · rename_i a ha; rw [hρ _ _ ha]; simp [fieldAddrV_sound h]
    · simp at h
  · simp only [ho]
    split at h
    · rename_i a ha; rw [hρ _ _ ha]
      unfold nilV at h
      split at h <;> first | (injection h with h; subst h; rfl) | (simp at h)
    · simp at h
  · simp only [ho]
    split at h
    · rename_i a b ha hb; injection h with h; subst h
      rw [O1 hρ ha,O1 hρ hb]; rfl
    · simp at h
  · simp only [ho]
    split at h
    · rename_i a ha; rw [hρ _ _ ha]
      unfold ifaceV at h
      split at h
      · simp at h
      · rename_i d hn hu; injection h with h; subst h
        simp only [Instr.makeInterface,Sem.run_bind,run_underlying hu,Result.andThen_ok]
        cases d <;> first | rfl | exact (hn _ hu).elim | exact (hn _ rfl).elim
      · simp at h
    · simp at h
  · simp only [ho]
    split at h
    · rename_i l hl
      have e:(Array.map (fun x=>(x.fst,r x.snd)) ‹Array (Nat × Operand)›)=l.toArray:=by
        rw [← evP_map hρ _ hl]; apply Array.ext'; rw [Array.toList_map]
      simp [e,buildV_sound h]
    · simp at h
  · simp only [ho]
    unfold callV at h
    split at h <;> rename_i hc
    · split at h
      · rename_i l hl
        simp [resolve,hc,invoke,Go.builtin,O1 hρ hl,lenV_sound (avs:=l.toArray) h]
      · simp at h
    · split at h
      · rename_i l hl
        simp [resolve,hc,invoke,Go.builtin,O1 hρ hl,capV_sound (avs:=l.toArray) h]
      · simp at h
    · split at h
      · rename_i l hl
        simp [resolve,hc,invoke,Go.builtin,O1 hρ hl,maxV_sound h]
      · simp at h
    · split at h
      · rename_i l hl
        simp [resolve,hc,invoke,Go.builtin,O1 hρ hl,minV_sound h]
      · simp at h
    · simp at h
  · simp at h
end Go.Sw
namespace Go.Sw
abbrev D7:=Exit→Act→World→Prop
def GL (d:Bool) (P:Program) (ops:Array Oper) (i:Nat) (Q:D7) (n:Fr) (E:Env) (W0:World) (H:List Grp):Prop :=
  match d with
  | true=>∀ a,Ag n E a→wpQuiet P ops (Sat W0 H) (fun a'=>∀ w',Sat W0 H w'→Q .normal a' w') (ops.toList.drop i) a
  | false=>∀ a w,Ag n E a→Sat W0 H w→wpList P ops Q (ops.toList.drop i) a w
def G (P:Program) (c:Code) (Q:D7) (n:Fr) (E:Env) (W0:World) (H:List Grp):Prop :=
  ∀ a w,Ag n E a→Sat W0 H w→c.wp P Q a w
def N (Q:D7) (x:Exit) (n:Fr) (E:Env) (W0:World) (H:List Grp):Prop :=
  ∀ a w,Ag n E a→Sat W0 H w→Q x a w
theorem Sat.drew {W0:World} {H:List Grp} {w:World} (h:Sat W0 H w):Sat W0 H { w with drawn:=w.drawn+1 } :=
  ⟨h.below.trans ⟨rfl,rfl,rfl,Nat.le_refl _,fun _ _=>rfl⟩,h.nodup,h.has,h.high⟩
def chB (E:List Sl):List (Nat × Bool)→Prop
  | []=>True
  | (t,w)::r=>(match Env.find E t with | some s=>(match s.v with | .bool b=>b=w | _=>False) | none=>False)∧chB E r
theorem chB_of {E:Env} {β:Nat→Bool→Bool} (hβ:∀ s,s∈E→∀ w,β s.t w=(T7 s.v==some w)):∀ (ch:List (Nat × Bool)),
    (∀ p,p∈ch→∃ s,Env.find E p.1=some s)→chT β ch=true→chB E ch
  | [],_,_=>trivial
  | (t,w)::r,hf,h=>by
    simp only [chT,List.all_cons,Bool.and_eq_true] at h
    refine ⟨?_,chB_of hβ r (fun p hp=>hf p (List.mem_cons_of_mem _ hp)) h.2⟩
    obtain ⟨s,hs⟩:=hf (t,w) List.mem_cons_self
    simp only at hs
    rw [hs]
    obtain ⟨hm,ht⟩:=Env.find_mem hs
    subst ht
    have h1:=hβ s hm w
    rw [h.1] at h1
    simp only
    cases hv:s.v <;> rw [hv] at h1 <;> simp [T7] at h1 ⊢
    exact h1
def J3 (E:List Sl) (ch:List (Nat × Bool)):Bool:=ch.all fun p=>(Env.find E p.1).isSome
theorem I2 {d:Bool} {P:Program} {ops:Array Oper} {i:Nat} {Q:D7} {n:Fr} {E:Env} {W0:World} {H:List Grp} {o:Oper} {ch:List (Nat × Bool)} {v:Value}
    (ho:ops[i]? = some o) (hch:D4 ops E o.guard=some ch) (hd:F5 n ch o.dst=true) (hk:J3 E ch=true)
    (hq:∀ (r:Operand→Value),(∀ x v,evO E ch x=some v→r x=v)→chB E ch→∀ w,Sat W0 H w→Oper.quietUpon P (Sat W0 H) w v ((execOp r o).run P w))
    (k:GL d P ops (i+1) Q n (Env.put E o.dst ch v) W0 H):GL d P ops i Q n E W0 H:=by
  have hi:i<ops.toList.length:=by
    rcases Nat.lt_or_ge i ops.size with h | h
    · simpa using h
    · simp [Array.getElem?_eq_none h] at ho
  have hdrop:ops.toList.drop i=o::ops.toList.drop (i+1):=by
    rw [List.drop_eq_getElem_cons hi]
    congr 1
    have hi':i<ops.size:=by simpa using hi
    rw [Array.getElem?_eq_getElem hi'] at ho
    simpa using ho
  have hkn:∀ p,p∈ch→∃ s,Env.find E p.1=some s:=fun p hp=>by
    have:=List.all_eq_true.1 hk p hp
    exact Option.isSome_iff_exists.1 this
  cases d with
  | true =>
    intro a ha
    rw [hdrop]
    obtain ⟨β,hβ,hat⟩:=ha.at_
    have hw:=Q3 hβ hat hch
    unfold wpQuiet
    have hput:=Ag.put ha hβ hat hd v
    by_cases hc:chT β ch=true
    · rw [hw,if_pos hc]
      rw [if_pos hc] at hput
      refine ⟨v,fun w hs=>?_,k _ hput⟩
      exact hq _ (fun x v=>L4 hat hc) (chB_of hβ ch hkn hc) w hs
    · rw [hw,if_neg hc]
      rw [if_neg hc] at hput
      exact k _ hput
  | false =>
    intro a w ha hs
    rw [hdrop]
    obtain ⟨β,hβ,hat⟩:=ha.at_
    have hw:=Q3 hβ hat hch
    unfold wpList
    have hput:=Ag.put ha hβ hat hd v
    by_cases hc:chT β ch=true
    · rw [hw,if_pos hc]
      rw [if_pos hc] at hput
      left
      refine Oper.wp_of_quiet (C:=Sat W0 H) (K:=fun a'=>a'=a.put o.dst v) hs (fun a' w' hw' he=>by rw [he]; exact k _ _ hput hw') ⟨v,fun w hs=>?_,rfl⟩
      exact hq _ (fun x v=>L4 hat hc) (chB_of hβ ch hkn hc) w hs
    · rw [hw,if_neg hc]
      rw [if_neg hc] at hput
      exact k _ _ hput hs
def gOff (ops:Array Oper) (E:List Sl):Option (Nat × Bool)→Bool
  | none=>false
  | some (j,want) =>
    match (ops[j]?).bind Oper.dst with
    | some dj=>(match Env.find E dj with
      | some s=>(match s.v,want with | .bool false,true=>true | .bool true,false=>true | .tuple _,_=>true | _,_=>false)
      | none=>false)
    | none=>false
def selV (x:Bool):Value→Value→Option Value
  | .bool y,.bool z=>some (.bool (bif x then y else z))
  | .int k m,.int k' m'=>if k=k' then some (.int k (bif x then m else m')) else none
  | .string s,.string s'=>some (.string (bif x then s else s'))
  | _,_=>none
theorem selV_sound {x:Bool} {a b v:Value} (h:selV x a b=some v):v=if x then a else b:=by
  unfold selV at h
  split at h
  · injection h with h; subst h; cases x <;> rfl
  · split at h
    · rename_i hk; injection h with h; subst h; subst hk; cases x <;> rfl
    · simp at h
  · injection h with h; subst h; cases x <;> rfl
  · simp at h
def pickV (E:List Sl) (ch:List (Nat × Bool)) (mode:Nat) (c a b:Operand):Option Value :=
  match c with
  | .tmp t =>
    match evT E ch t with
    | some (.bool x) =>
      match mode with
      | 2=>(match x with | true=>evO E ((t,true)::ch) a | false=>none)
      | 3=>(match x with | false=>evO E ((t,false)::ch) b | true=>none)
      | 4=>(match evO E ((t,true)::ch) a,evO E ((t,false)::ch) b with | some va,some vb=>selV x va vb | _,_=>none)
      | 5=>(match a,evO E ((t,false)::ch) b with | .const (.bool true),some (.bool y)=>some (.bool (x||y)) | _,_=>none)
      | 6=>(match evO E ((t,true)::ch) a,b with | some (.bool y),.const (.bool false)=>some (.bool (x&&y)) | _,_=>none)
      | _=>none
    | _=>none
  | _=>none
def pstep (P:Program) (ops:Array Oper) (n:Fr) (mode:Nat) (o:Oper) (E:List Sl):Option (List Sl) :=
  match mode with
  | 0=>(match D4 ops E o.guard with
    | some ch=>(match F5 n ch o.dst,pev P (evO E ch) o.op with | true,some v=>some (Env.put E o.dst ch v) | _,_=>none)
    | none=>none)
  | 1=>(match gOff ops E o.guard,F5 n [] o.dst with | true,true=>some (Env.put E o.dst [] undef) | _,_=>none)
  | _=>(match D4 ops E o.guard,o.op with
    | some ch,.pick c a b=>(match F5 n ch o.dst,pickV E ch mode c a b with | true,some v=>some (Env.put E o.dst ch v) | _,_=>none)
    | _,_=>none)
theorem pstep_sound {P:Program} {ops:Array Oper} {n:Fr} {mode:Nat} {o:Oper} {E E':Env} (h:pstep P ops n mode o E=some E') {a:Act} (ha:Ag n E a) :
    (Region.wanted o (yielded ops a.tmps)=false∧Ag n E' (a.put o.dst undef)) ∨
    (Region.wanted o (yielded ops a.tmps)=true∧∃ v,(∀ w,(execOp a.eval o).run P w=.ok (.value v) w)∧Ag n E' (a.put o.dst v)):=by
  obtain ⟨β,hβ,hat⟩:=ha.at_
  unfold pstep at h
  split at h
  · split at h
    · rename_i ch hch
      split at h
      · rename_i v hd hv
        injection h with h; subst h
        have hw:=Q3 hβ hat hch
        have hput:=Ag.put ha hβ hat hd v
        by_cases hc:chT β ch=true
        · rw [if_pos hc] at hput
          exact .inr ⟨by rw [hw,hc],v,fun w=>pev_sound (fun x v=>L4 hat hc) hv w,hput⟩
        · rw [if_neg hc] at hput
          exact .inl ⟨by rw [hw]; simpa using hc,hput⟩
      · simp at h
    · simp at h
  · split at h
    · rename_i hg hd
      injection h with h; subst h
      have hput:=Ag.put ha hβ hat hd undef
      simp only [chT,List.all_nil,if_true] at hput
      refine .inl ⟨?_,hput⟩
      unfold gOff at hg
      unfold Region.wanted
      split at hg
      · simp at hg
      · rename_i j want hgu
        split at hg
        · rename_i dj hdj
          split at hg
          · rename_i s hs
            obtain ⟨hm,ht⟩:=Env.find_mem hs
            subst ht
            have h1:=hat s hm
            simp only [hgu,yielded,hdj,Option.bind_some,h1]
            cases hc:chT β s.ch
            · simp [undef]
            · simp only [if_true]
              split at hg <;> rename_i hv <;> simp_all
          · simp at hg
        · simp at hg
    · simp at h
  · split at h
    · rename_i ch c x y hch ho
      split at h
      · rename_i v hd hv
        injection h with h; subst h
        have hw:=Q3 hβ hat hch
        have hput:=Ag.put ha hβ hat hd v
        by_cases hc:chT β ch=true
        · rw [if_pos hc] at hput
          refine .inr ⟨by rw [hw,hc],v,fun w=>?_,hput⟩
          unfold pickV at hv
          split at hv
          · rename_i t
            split at hv
            · rename_i b hb
              have hcv:a.eval (.tmp t)=.bool b:=L4 hat hc (x:=.tmp t) hb
              -- what the slot's value says of longer chains
              have hlong:∀ w,b=w→chT β ((t,w)::ch)=true:=by
                intro w hw'
                unfold evT at hb
                split at hb
                · rename_i s hs
                  obtain ⟨hm,ht⟩:=Env.find_mem hs
                  split at hb
                  · injection hb with hb
                    have:=hβ s hm w
                    rw [hb,ht] at this
                    simp only [chT,List.all_cons,Bool.and_eq_true]
                    refine ⟨?_,hc⟩
                    rw [this,hw']; simp [T7]
                  · simp at hb
                · simp at hb
              have hrun:(execOp a.eval o).run P w=.ok (.value (if b then a.eval x else a.eval y)) w:=by
                unfold execOp
                simp only [ho,hcv]
                simp [asBool]
              rw [hrun]
              congr 2
              split at hv
              · split at hv
                · simp only [if_true]; exact L4 hat (hlong true rfl) hv
                · simp at hv
              · split at hv
                · simp only [Bool.false_eq_true,if_false]; exact L4 hat (hlong false rfl) hv
                · simp at hv
              · split at hv
                · rename_i va vb hva hvb
                  rw [selV_sound hv]
                  cases b
                  · simp only [Bool.false_eq_true,if_false]; exact L4 hat (hlong false rfl) hvb
                  · simp only [if_true]; exact L4 hat (hlong true rfl) hva
                · simp at hv
              · split at hv
                · rename_i z hz
                  injection hv with hv; subst hv
                  cases b
                  · simp only [Bool.false_eq_true,if_false,Bool.false_or]; exact L4 hat (hlong false rfl) hz
                  · simp only [if_true,Bool.true_or]; rfl
                · simp at hv
              · split at hv
                · rename_i z hz
                  injection hv with hv; subst hv
                  cases b
                  · simp only [Bool.false_eq_true,if_false,Bool.false_and]; rfl
                  · simp only [if_true,Bool.true_and]; exact L4 hat (hlong true rfl) hz
                · simp at hv
              · simp at hv
            · simp at hv
          · simp at hv
        · rw [if_neg hc] at hput
          exact .inl ⟨by rw [hw]; simpa using hc,hput⟩
      · simp at h
    · simp at h
def R3 (P:Program) (ops:Array Oper) (n:Fr):List Nat→Nat→List Sl→Option (List Sl)
  | [],_,E=>some E
  | m::ms,i,E=>(match ops[i]? with
    | some o=>(match pstep P ops n m o E with | some E'=>R3 P ops n ms (i+1) E' | none=>none)
    | none=>none)
theorem GL_psteps {d:Bool} {P:Program} {ops:Array Oper} {Q:D7} {n:Fr} {W0:World} {H:List Grp}:∀ (ms:List Nat) {i:Nat} {E E':Env},
    R3 P ops n ms i E=some E'→GL d P ops (i+ms.length) Q n E' W0 H→GL d P ops i Q n E W0 H
  | [],i,E,E',h,k=>by simp only [R3,Option.some.injEq] at h; subst h; exact k
  | m::ms,i,E,E',h,k=>by
    simp only [R3] at h
    split at h
    · rename_i o ho
      split at h
      · rename_i E1 h1
        have k':GL d P ops (i+1) Q n E1 W0 H:=GL_psteps ms h (by rw [show i+1+ms.length=i+(m::ms).length from by simp; omega]; exact k)
        have hi:i<ops.toList.length:=by
          rcases Nat.lt_or_ge i ops.size with h | h
          · simpa using h
          · simp [Array.getElem?_eq_none h] at ho
        have hdrop:ops.toList.drop i=o::ops.toList.drop (i+1):=by
          rw [List.drop_eq_getElem_cons hi]
          congr 1
          have hi':i<ops.size:=by simpa using hi
          rw [Array.getElem?_eq_getElem hi'] at ho
          simpa using ho
        cases d with
        | true =>
          intro a ha
          rw [hdrop]
          unfold wpQuiet
          rcases pstep_sound h1 ha with ⟨hw,h2⟩ | ⟨hw,v,hv,h2⟩
          · rw [hw]; exact k' _ h2
          · rw [hw]; exact ⟨v,fun w _=>by unfold Oper.quietAt; rw [hv]; exact ⟨rfl,rfl⟩,k' _ h2⟩
        | false =>
          intro a w ha hs
          rw [hdrop]
          unfold wpList
          rcases pstep_sound h1 ha with ⟨hw,h2⟩ | ⟨hw,v,hv,h2⟩
          · rw [hw]; exact k' _ _ h2 hs
          · rw [hw]; exact .inl (by unfold Oper.wp; rw [hv]; exact k' _ _ h2 hs)
      · simp at h
    · simp at h
def Env.keep:List Nat→List Sl→List Sl
  | [],_=>[]
  | t::ts,E=>(match Env.find E t with
    | some ⟨u,[],v⟩=>⟨u,[],v⟩::Env.keep ts E
    | _=>Env.keep ts E)
theorem Env.keep_mem:∀ (ts:List Nat) {E:Env} {s:Sl},s∈Env.keep ts E→s∈E
  | [],E,s,h=>by simp [Env.keep] at h
  | t::ts,E,s,h=>by
    simp only [Env.keep] at h
    split at h
    · rename_i u v hf
      rcases List.mem_cons.1 h with rfl | h
      · exact (Env.find_mem hf).1
      · exact Env.keep_mem ts h
    · exact Env.keep_mem ts h
theorem GL_end {d:Bool} {P:Program} {ops:Array Oper} {i:Nat} {Q:D7} {n:Fr} {E:Env} {W0:World} {H:List Grp}
    (hi:ops.size=i) (k:N Q .normal n E W0 H):GL d P ops i Q n E W0 H:=by
  have hdrop:ops.toList.drop i=[]:=by rw [List.drop_eq_nil_of_le]; simp [hi]
  cases d with
  | true=>intro a ha; rw [hdrop]; exact fun w' hs=>k _ _ ha hs
  | false=>intro a w ha hs; rw [hdrop]; exact k _ _ ha hs
theorem N_sub {Q:D7} {x:Exit} {n:Fr} {E E':Env} {W0:World} {H:List Grp} (ts:List Nat) (h:Env.keep ts E=E') (k:N Q x n E' W0 H):N Q x n E W0 H :=
  fun a w ha hs=>k a w (ha.sub (by subst h; intro s hs; exact Env.keep_mem _ hs)) hs
theorem A3 {P:Program} {id:Nat} {ops:Array Oper} {Q:D7} {n:Fr} {E:Env} {W0:World} {H:List Grp}
    (k:GL false P ops 0 Q n E W0 H):G P (.region id ops false) Q n E W0 H :=
  fun a w ha hs=>wp_region_list (by have:=k a w ha hs; simpa using this)
theorem K0 {P:Program} {id:Nat} {ops:Array Oper} {Q:D7} {n:Fr} {E:Env} {W0:World} {H:List Grp}
    (hm:P.follows .mixedOrders=true:=by kernel_rfl) (hB:Region.lexB .any ops=true:=by kernel_rfl) (k:GL true P ops 0 Q n E W0 H):G P (.region id ops true) Q n E W0 H :=
  fun a w ha hs=>wp_region_quiet (C:=Sat W0 H) hm hB hs.drew (by have:=k a ha; simpa using this)
theorem B9 {P:Program} {id:Nat} {ops:Array Oper} {Q:D7} {n:Fr} {E E':Env} {W0:World} {H:List Grp} (ms ts:List Nat)
    (hl:ops.size=ms.length:=by exact rfl) (h:(R3 P ops n ms 0 E).map (Env.keep ts)=some E':=by kernel_rfl) (k:N Q .normal n E' W0 H):G P (.region id ops false) Q n E W0 H:=by
  cases hp:R3 P ops n ms 0 E with
  | none=>rw [hp] at h; simp at h
  | some E1 =>
    rw [hp] at h; simp only [Option.map_some,Option.some.injEq] at h
    exact A3 (GL_psteps ms hp (GL_end (by omega) (N_sub ts h k)))
def Env.only (ts:List Nat) (E:List Sl):List Sl:=E.filter fun s=>ts.contains s.t
theorem GL_sub {d:Bool} {P:Program} {ops:Array Oper} {i:Nat} {Q:D7} {n:Fr} {E E':Env} {W0:World} {H:List Grp} (hs:∀ s,s∈E'→s∈E) (k:GL d P ops i Q n E' W0 H):GL d P ops i Q n E W0 H:=by
  cases d
  · exact fun a w ha=>k a w (ha.sub hs)
  · exact fun a ha=>k a (ha.sub hs)
theorem GL_pure {d:Bool} {P:Program} {ops:Array Oper} {i j:Nat} {Q:D7} {n:Fr} {E E':Env} {W0:World} {H:List Grp} (ms:List Nat)
    (h:(R3 P ops n ms i E).map (Env.only (E'.map Sl.t))=some E') (hj:i+ms.length=j) (k:GL d P ops j Q n E' W0 H):GL d P ops i Q n E W0 H:=by
  cases hp:R3 P ops n ms i E with
  | none=>rw [hp] at h; simp at h
  | some E1 =>
    rw [hp] at h; simp only [Option.map_some,Option.some.injEq] at h
    refine GL_psteps ms hp (GL_sub (E':=E') (fun s hs=>?_) (by rw [hj]; exact k))
    rw [← h] at hs
    exact (List.mem_filter.1 hs).1
theorem D5 {d:Bool} {P:Program} {ops:Array Oper} {i:Nat} {Q:D7} {n:Fr} {E E':Env} {W0:World} {H:List Grp} (ms ts:List Nat)
    (hl:ops.size=i+ms.length:=by exact rfl) (h:(R3 P ops n ms i E).map (Env.keep ts)=some E':=by kernel_rfl) (k:N Q .normal n E' W0 H):GL d P ops i Q n E W0 H:=by
  cases hp:R3 P ops n ms i E with
  | none=>rw [hp] at h; simp at h
  | some E1 =>
    rw [hp] at h; simp only [Option.map_some,Option.some.injEq] at h
    exact GL_psteps ms hp (GL_end hl (N_sub ts h k))
theorem A2 {P:Program} {x y:Code} {Q:D7} {n:Fr} {E:Env} {W0:World} {H:List Grp}
    (k:G P x (Exit.then (y.wp P Q) Q) n E W0 H):G P (.seq x y) Q n E W0 H:=fun a w ha hs=>wp_seq (k a w ha hs)
theorem A1 {P:Program} {y:Code} {Q:D7} {n:Fr} {E:Env} {W0:World} {H:List Grp} (k:G P y Q n E W0 H):N (Exit.then (y.wp P Q) Q) .normal n E W0 H:=k
theorem A6 {K:Act→World→Prop} {Q:D7} {id:Nat} {n:Fr} {E:Env} {W0:World} {H:List Grp} (k:N Q (.exit id) n E W0 H):N (Exit.then K Q) (.exit id) n E W0 H:=k
theorem C0 {K:Act→World→Prop} {Q:D7} {n:Fr} {E:Env} {W0:World} {H:List Grp} (k:N Q .ret n E W0 H):N (Exit.then K Q) .ret n E W0 H:=k
theorem D3 {Q:D7} {id:Nat} {n:Fr} {E:Env} {W0:World} {H:List Grp} (k:N Q .normal n E W0 H):N (Exit.inBlock id Q) .normal n E W0 H:=k
theorem G3 {Q:D7} {id:Nat} {n:Fr} {E:Env} {W0:World} {H:List Grp} (k:N Q .ret n E W0 H):N (Exit.inBlock id Q) .ret n E W0 H:=k
theorem C3 {Q:D7} {id:Nat} {n:Fr} {E:Env} {W0:World} {H:List Grp} (k:N Q .normal n E W0 H):N (Exit.inBlock id Q) (.exit id) n E W0 H :=
  fun a w ha hs=>by simp only [Exit.inBlock,if_true]; exact k a w ha hs
theorem A0n {Q:D7} {id id':Nat} {n:Fr} {E:Env} {W0:World} {H:List Grp} (h:(id'==id)=false:=by exact rfl) (k:N Q (.exit id') n E W0 H):N (Exit.inBlock id Q) (.exit id') n E W0 H :=
  fun a w ha hs=>by simp only [Exit.inBlock]; rw [if_neg (by simpa using h)]; exact k a w ha hs
theorem B8 {P:Program} {id:Nat} {c:Code} {Q:D7} {n:Fr} {E:Env} {W0:World} {H:List Grp} (k:G P c (Exit.inBlock id Q) n E W0 H):G P (.block id c) Q n E W0 H :=
  fun a w ha hs=>wp_block (k a w ha hs)
theorem B6 {P:Program} {Q:D7} {n:Fr} {E:Env} {W0:World} {H:List Grp} (k:N Q .normal n E W0 H):G P .skip Q n E W0 H:=fun a w ha hs=>wp_skip (k a w ha hs)
theorem H0 {P:Program} {id:Nat} {Q:D7} {n:Fr} {E:Env} {W0:World} {H:List Grp} (k:N Q (.exit id) n E W0 H):G P (.exit id) Q n E W0 H:=fun a w ha hs=>wp_exit (k a w ha hs)
theorem C8 {P:Program} {Q:D7} {n:Fr} {E:Env} {W0:World} {H:List Grp} (k:N Q .ret n E W0 H):G P .ret Q n E W0 H:=fun a w ha hs=>wp_ret (k a w ha hs)
theorem Ag.eval {n:Fr} {E:Env} {a:Act} (ha:Ag n E a) {x:Operand} {v:Value} (h:evO E [] x=some v):a.eval x=v:=by
  obtain ⟨β,_,hat⟩:=ha.at_
  exact L4 (ch:=[]) hat (by simp [chT]) h
theorem D2 {P:Program} {c:Operand} {x y:Code} {Q:D7} {n:Fr} {E:Env} {W0:World} {H:List Grp} {b:Bool}
    (hc:evO E [] c=some (.bool b):=by kernel_rfl) (ht:b=true→G P x Q n E W0 H) (hf:b=false→G P y Q n E W0 H):G P (.cond c x y) Q n E W0 H :=
  fun a w ha hs=>wp_cond_split (ha.eval hc) (fun h=>ht h a w ha hs) (fun h=>hf h a w ha hs)
theorem G6 {P:Program} {c:Operand} {x y:Code} {Q:D7} {n:Fr} {E:Env} {W0:World} {H:List Grp}
    (hc:evO E [] c=some (.bool true):=by kernel_rfl) (k:G P x Q n E W0 H):G P (.cond c x y) Q n E W0 H:=fun a w ha hs=>wp_cond_true (ha.eval hc) (k a w ha hs)
theorem D9 {P:Program} {c:Operand} {x y:Code} {Q:D7} {n:Fr} {E:Env} {W0:World} {H:List Grp}
    (hc:evO E [] c=some (.bool false):=by kernel_rfl) (k:G P y Q n E W0 H):G P (.cond c x y) Q n E W0 H:=fun a w ha hs=>wp_cond_false (ha.eval hc) (k a w ha hs)
theorem I6 {P:Program} {c:Code} {Q:D7} {n:Fr} {E:Env} {W0:World} {H:List Grp} {σ:Type} (EI:σ→Env) (HI:σ→List Grp) (Φ:σ→Prop) (μ:σ→Nat)
    (s0:σ) (ts:List Nat) (hE:Env.keep ts E=EI s0:=by kernel_rfl) (hH:H=HI s0:=by exact rfl) (h0:Φ s0)
    (round:∀ s,Φ s→G P c (Exit.then (fun a' w'=>∃ s',Φ s'∧μ s'<μ s∧Ag n (EI s') a'∧Sat W0 (HI s') w') Q) n (EI s) W0 (HI s)):G P (.loop c) Q n E W0 H:=by
  intro a w ha hs b k cs
  have ha':Ag n (EI s0) a:=ha.sub (by rw [← hE]; intro s hs; exact Env.keep_mem _ hs)
  have key:∀ m s,μ s=m→Φ s→∀ a w,Ag n (EI s) a→Sat W0 (HI s) w →
      ∃ e a' w',Q e a' w'∧Arrives P (lone (b.at a (.code c::.inLoop c::k)) cs w) b k cs e a' w':=by
    intro m
    induction m using Nat.strongRecOn with
    | _ m ih =>
      intro s hm hΦ a w ha hs
      obtain ⟨e,a₁,w₁,hq,harr⟩:=round s hΦ a w ha hs b (.inLoop c::k) cs
      cases e with
      | normal =>
        obtain ⟨s',hΦ',hlt,ha',hs'⟩:=hq
        obtain ⟨e₂,a₂,w₂,hq₂,harr₂⟩:=ih (μ s') (hm ▸ hlt) s' rfl hΦ' a₁ w₁ ha' hs'
        exact ⟨e₂,a₂,w₂,hq₂,.of_steps (Steps.trans harr (.one step_inLoop)) harr₂⟩
      | exit id=>exact ⟨_,a₁,w₁,hq,.pass (x:=.inLoop c) rfl (fun _ _=>.inl (by simp)) harr⟩
      | goto l=>exact ⟨_,a₁,w₁,hq,.pass (x:=.inLoop c) rfl (fun _ _=>.inl (by simp)) harr⟩
      | ret=>exact ⟨_,a₁,w₁,hq,.pass (x:=.inLoop c) rfl (fun _ _=>.inl (by simp)) harr⟩
      | panic ch=>exact ⟨_,a₁,w₁,hq,.pass (x:=.inLoop c) rfl (fun _ _=>.inl (by simp)) harr⟩
      | outgrown=>exact ⟨_,a₁,w₁,hq,.pass (x:=.inLoop c) rfl (fun _ _=>.inl (by simp)) harr⟩
  obtain ⟨e,a',w',hq,harr⟩:=key _ s0 rfl h0 a w ha' (hH ▸ hs)
  exact ⟨e,a',w',hq,.of_steps (.one step_loop) harr⟩
theorem F6 {Q:D7} {n:Fr} {E:Env} {W0:World} {H:List Grp} {σ:Type} {EI:σ→Env} {HI:σ→List Grp} {Φ:σ→Prop} {μ:σ→Nat} {s:σ}
    (s':σ) (ts:List Nat) (hE:Env.keep ts E=EI s':=by kernel_rfl) (hH:H=HI s':=by exact rfl) (hΦ:Φ s') (hμ:μ s'<μ s) :
    N (Exit.then (fun a' w'=>∃ s',Φ s'∧μ s'<μ s∧Ag n (EI s') a'∧Sat W0 (HI s') w') Q) .normal n E W0 H :=
  fun a w ha hs=>⟨s',hΦ,hμ,ha.sub (by rw [← hE]; intro s hs; exact Env.keep_mem _ hs),hH ▸ hs⟩
def GRd (P:Program) (c:Code) (Q:D7) (m:Nat) (n:Fr) (E:Env) (W0:World) (H:List Grp):Prop:=∀ a w,Ag n E a→Sat W0 H w→Code.rounds P c Q m a w
theorem G_rounds {P:Program} {c:Code} {Q:D7} {n:Fr} {E:Env} {W0:World} {H:List Grp} (m:Nat) (k:GRd P c Q m n E W0 H):G P (.loop c) Q n E W0 H :=
  fun a w ha hs=>wp_loop_rounds m (k a w ha hs)
theorem J4 {P:Program} {c:Code} {Q:D7} {n:Fr} {E:Env} {W0:World} {H:List Grp} {m:Nat} (k:G P c (Exit.then (Code.rounds P c Q m) Q) n E W0 H):GRd P c Q (m+1) n E W0 H:=k
theorem N_rd {P:Program} {c:Code} {Q:D7} {n:Fr} {E:Env} {W0:World} {H:List Grp} {m:Nat} (k:GRd P c Q m n E W0 H):N (Exit.then (Code.rounds P c Q m) Q) .normal n E W0 H:=k
def Tri (P:Program) (f:FuncId) (args:Array Value) (W0:World) (H:List Grp) (R:Value→List Grp→Prop):Prop :=
  ∀ w,Sat W0 H w→Calls P f args w fun e w'=>∃ v H',e=.returned v∧R v H'∧Sat W0 H' w'
theorem Tri.mono {P:Program} {f:FuncId} {args:Array Value} {W0:World} {H:List Grp} {R R':Value→List Grp→Prop} (h:Tri P f args W0 H R)
    (hr:∀ v H',R v H'→R' v H'):Tri P f args W0 H R' :=
  fun w hs=>(h w hs).mono fun _ _ ⟨v,H',he,hR,hs'⟩=>⟨v,H',he,hr _ _ hR,hs'⟩
def Body (P:Program) (fn:Func) (W0:World) (R:Value→List Grp→Prop):D7 :=
  bodyPost P fn fun e w'=>∃ v H',e=.returned v∧R v H'∧Sat W0 H' w'
def argEnv:Nat→List Value→List Sl
  | _,[]=>[]
  | i,v::r=>⟨i,[],v⟩::argEnv (i+1) r
theorem A0d:∀ (vs:List Value) (i:Nat) (s:Sl),s∈argEnv i vs→s.ch=[]∧i≤s.t∧vs[s.t - i]? = some s.v
  | [],_,_,h=>by simp [argEnv] at h
  | v::r,i,s,h=>by
    simp only [argEnv,List.mem_cons] at h
    rcases h with rfl | h
    · simp
    · obtain ⟨h1,h2,h3⟩:=A0d r (i+1) s h
      refine ⟨h1,by omega,?_⟩
      have:s.t - i=(s.t - (i+1))+1:=by omega
      rw [this,List.getElem?_cons_succ]
      exact h3
theorem Tri_of {P:Program} {f:FuncId} {fn:Func} {c:Code} {args:List Value} {n:Fr} {W0:World} {H:List Grp} {R:Value→List Grp→Prop}
    (hf:P.funcs[f]? = some fn) (hb:fn.body=some c) (hn:fn.ntmps=n.k) (hle:args.length≤n.k)
    (k:G P c (Body P fn W0 R) n (argEnv 0 args) W0 H) (hz:n.dl=[]:=by rfl):Tri P f args.toArray W0 H R:=by
  intro w hs
  refine calls_of_wp hf hb (k _ w ?_ hs)
  refine ⟨by unfold Fr.ds; rw [hz],by simp [hn]; omega,fun u w=>match args[u]? with | some v=>T7 v==some w | none=>false,?_,?_⟩
  · intro s hs w
    obtain ⟨h1,h2,h3⟩:=A0d args 0 s hs
    simp only [Nat.sub_zero] at h3
    simp only [h3]
  · intro s hs
    obtain ⟨h1,h2,h3⟩:=A0d args 0 s hs
    simp only [Nat.sub_zero] at h3
    rw [h1]
    simp only [chT,List.all_nil,if_true]
    have hlt:s.t<args.length:=by
      rcases Nat.lt_or_ge s.t args.length with h | h
      · exact h
      · simp [List.getElem?_eq_none h] at h3
    rw [Array.getElem?_append_left (by simpa using hlt)]
    simpa using h3
theorem D6 {P:Program} {f:FuncId} {fn:Func} {c:Code} {A:Array Value} {W0:World} {H:List Grp} {R:Value→List Grp→Prop} (m:Nat)
    (hf:P.funcs[f]? = some fn) (k:G P c (Body P fn W0 R) ⟨m,[]⟩ (argEnv 0 A.toList) W0 H)
    (hb:fn.body=some c:=by exact rfl) (hn:fn.ntmps=m:=by exact rfl) (hle:Nat.ble A.toList.length m=true:=by kernel_rfl):Tri P f A W0 H R:=by
  have h:=Tri_of (args:=A.toList) (n:=⟨m,[]⟩) hf hb hn (Nat.le_of_ble_eq_true hle) k
  rwa [Array.toArray_toList] at h
def resV (E:List Sl):List ResultVar→Option (List Value)
  | []=>some []
  | .tmp t::r=>(match evT E [] t,resV E r with | some v,some l=>some (v::l) | _,_=>none)
  | _::_=>none
def V4:List Value→Value
  | [v]=>v
  | l=>.tuple l.toArray
def resOne (tmps:Array Value):ResultVar→Sem Value
  | .tmp t=>pure (tmps.getD t undef)
  | .cell a t=>do loadVar t (← asAddr (tmps.getD a undef))
theorem resList_of {P:Program} {n:Fr} {E:Env} {a:Act} (ha:Ag n E a) (w:World):∀ (rs:List ResultVar) {l:List Value},resV E rs=some l →
    (rs.mapM (resOne a.tmps)).run P w=.ok l w
  | [],l,h=>by simp only [resV,Option.some.injEq] at h; subst h; rfl
  | .tmp t::rs,l,h=>by
    simp only [resV] at h
    split at h
    · rename_i v l' hv hl
      injection h with h; subst h
      have e:a.tmps.getD t undef=v:=ha.eval (x:=.tmp t) hv
      have ih:=resList_of (P:=P) ha w rs hl
      simp only [List.mapM_cons,Sem.run_bind,resOne,Sem.run_pure,Result.andThen_ok,e,ih]
    · simp at h
  | .cell b t::rs,l,h=>by simp [resV] at h
theorem results_eq (fn:Func) (tmps:Array Value):results fn tmps=(fn.results.mapM (resOne tmps)) >>= fun vs=>(pure (if h:vs.size=1 then vs[0] else .tuple vs):Sem Value):=rfl
theorem results_of {P:Program} {fn:Func} {n:Fr} {E:Env} {a:Act} (ha:Ag n E a) {rs:List ResultVar} {l:List Value} (h:resV E rs=some l)
    (hr:fn.results=rs.toArray) (w:World):(results fn a.tmps).run P w=.ok (V4 l) w:=by
  have e2:=resList_of (P:=P) ha w rs h
  have e3:((rs.toArray).mapM (resOne a.tmps)).run P w=.ok l.toArray w:=by
    rw [Array.mapM_eq_mapM_toList,Sem.run_map,e2]; rfl
  rw [results_eq,hr,Sem.run_bind,e3]
  simp only [Result.andThen_ok,Sem.run_pure]
  congr 1
  cases l with
  | nil=>rfl
  | cons v l=>cases l with
    | nil=>rfl
    | cons u l=>simp [V4]
theorem C5 {P:Program} {fn:Func} {n:Fr} {E:Env} {W0:World} {H:List Grp} {R:Value→List Grp→Prop} {x:Exit} (rs:List ResultVar) (l:List Value)
    (hr:fn.results=rs.toArray:=by exact rfl) (h:resV E rs=some l:=by kernel_rfl) (hx:(match x with | .normal=>true | .ret=>true | _=>false)=true:=by exact rfl) (k:R (V4 l) H) (hz:n.dl=[]:=by rfl):N (Body P fn W0 R) x n E W0 H:=by
  intro a w ha hs
  cases x <;> simp at hx
  · exact ⟨ha.defers.trans (by unfold Fr.ds; rw [hz]),_,results_of ha h hr w,_,H,rfl,k,hs⟩
  · exact ⟨ha.defers.trans (by unfold Fr.ds; rw [hz]),_,results_of ha h hr w,_,H,rfl,k,hs⟩
theorem I3 {P:Program} {ops:Array Oper} {i:Nat} {Q:D7} {n:Fr} {E:Env} {W0:World} {H:List Grp} {o:Oper} {ch:List (Nat × Bool)} {c:Call} {fo:Operand} {f:FuncId} {caps:Array Value} {fst:Array Value} {vs:List Value}
    {fn:Func} {R:Value→List Grp→Prop}
    (ho:ops[i]? = some o:=by exact rfl) (hop:o.op=.call c:=by exact rfl) (hce:c.callee=.value fo:=by exact rfl) (hfo:evO E ch fo=some (.func (.func f) fst caps):=by kernel_rfl) (hargs:evL (evO E ch) c.args.toList=some vs:=by kernel_rfl)
    (hf : P.funcs[f]? = some fn) (hrt : (fn.name == "runtime.NumGoroutine") = false := by exact rfl) (hbody : fn.body.isNone = false := by exact rfl)
    (hch:D4 ops E o.guard=some ch:=by kernel_rfl) (hd:F5 n ch o.dst=true:=by kernel_rfl) (hsure:∀ β:Nat→Bool→Bool,(∀ s,s∈E→∀ w,β s.t w=(T7 s.v==some w))→chT β ch=true)
    (hc:Tri P f (fst++vs.toArray++caps) W0 H R)
    (k:∀ v H',R v H'→GL false P ops (i+1) Q n (Env.put E o.dst ch v) W0 H'):GL false P ops i Q n E W0 H:=by
  have hi:i<ops.toList.length:=by
    rcases Nat.lt_or_ge i ops.size with h | h
    · simpa using h
    · simp [Array.getElem?_eq_none h] at ho
  have hdrop:ops.toList.drop i=o::ops.toList.drop (i+1):=by
    rw [List.drop_eq_getElem_cons hi]
    congr 1
    have hi':i<ops.size:=by simpa using hi
    rw [Array.getElem?_eq_getElem hi'] at ho
    simpa using ho
  intro a w ha hs
  rw [hdrop]
  obtain ⟨β,hβ,hat⟩:=ha.at_
  have hcT:=hsure β hβ
  have hw:=Q3 hβ hat hch
  unfold wpList
  rw [hw,if_pos hcT]
  left
  have hrun:(execOp a.eval o).run P w=.ok (.enter f (fst++vs.toArray++caps)) w:=by
    unfold execOp
    simp only [hop]
    simp only [resolve,hce]
    rw [L4 hat hcT hfo,O1 (fun x v=>L4 hat hcT) hargs]
    simp only [Deferred.ofValue,Sem.run_bind,Sem.run_pure,Result.andThen_ok,invoke,callFunc,run_program,hf,hrt,hbody,Bool.false_eq_true,if_false]
  unfold Oper.wp
  rw [hrun]
  refine (hc w hs).mono ?_
  rintro e w' ⟨v,H',rfl,hR,hs'⟩
  have hput:=Ag.put ha hβ hat hd v
  rw [if_pos hcT] at hput
  exact k v H' hR _ _ hput hs'
theorem GL_callQ {d:Bool} {P:Program} {ops:Array Oper} {i:Nat} {Q:D7} {n:Fr} {E:Env} {W0:World} {H:List Grp} {o:Oper} {ch:List (Nat × Bool)} {c:Call} {fo:Operand} {f:FuncId} {caps:Array Value} {fst:Array Value} {vs:List Value}
    {fn:Func} {v:Value}
    (ho:ops[i]? = some o) (hop:o.op=.call c) (hce:c.callee=.value fo) (hfo:evO E ch fo=some (.func (.func f) fst caps)) (hargs:evL (evO E ch) c.args.toList=some vs)
    (hf : P.funcs[f]? = some fn) (hrt : (fn.name == "runtime.NumGoroutine") = false) (hbody : fn.body.isNone = false)
    (hch:D4 ops E o.guard=some ch) (hd:F5 n ch o.dst=true) (hk:J3 E ch=true)
    (hc:chB E ch→Tri P f (fst++vs.toArray++caps) W0 H (fun u H'=>u=v∧H'=H))
    (k:GL d P ops (i+1) Q n (Env.put E o.dst ch v) W0 H):GL d P ops i Q n E W0 H:=by
  refine I2 ho hch hd hk (fun r hr hcb w hs=>?_) k
  have hrun:(execOp r o).run P w=.ok (.enter f (fst++vs.toArray++caps)) w:=by
    unfold execOp
    simp only [hop]
    simp only [resolve,hce]
    rw [hr _ _ hfo,O1 hr hargs]
    simp only [Deferred.ofValue,Sem.run_bind,Sem.run_pure,Result.andThen_ok,invoke,callFunc,run_program,hf,hrt,hbody,Bool.false_eq_true,if_false]
  rw [hrun]
  refine ⟨rfl,(hc hcb w hs).mono ?_⟩
  rintro e w' ⟨u,H',rfl,⟨rfl,rfl⟩,hs'⟩
  exact ⟨rfl,hs'⟩
def N9 (E:List Sl) (ch:List (Nat × Bool)):Bool:=ch.all fun p=>match Env.find E p.1 with
  | some s=>(match s.v,p.2 with | .bool true,true=>true | .bool false,false=>true | _,_=>false)
  | none=>false
theorem G0 {E:Env} {ch:List (Nat × Bool)} (h:N9 E ch=true) (β:Nat→Bool→Bool) (hβ:∀ s,s∈E→∀ w,β s.t w=(T7 s.v==some w)):chT β ch=true:=by
  unfold chT
  rw [List.all_eq_true]
  intro p hp
  have:=List.all_eq_true.1 h p hp
  split at this
  · rename_i s hs
    obtain ⟨hm,ht⟩:=Env.find_mem hs
    rw [← ht,hβ s hm]
    split at this <;> rename_i hv hw <;> simp_all [T7]
  · simp at this
theorem w64 {x:Int} (h0:-9223372036854775808≤x) (h1:x≤9223372036854775807):IntKind.wrap .i64 x=x:=by
  simp only [IntKind.wrap,IntKind.bits,IntKind.signed]
  simp only [show (2:Int) ^ 64=18446744073709551616 from by decide,show (2:Int) ^ (64 - 1)=9223372036854775808 from by decide]
  split <;> rename_i h <;> simp at h <;> omega
theorem r64 {x y:Int} (h0:0≤x):Int.tmod x y=x % y:=Int.tmod_eq_emod_of_nonneg h0
def G9 (s:ByteArray) (i:Int):Int:=(((s.data.toList)[i.toNat]?.getD 0).toNat:Int)
theorem A0b (s:ByteArray) (i:Int):0≤G9 s i∧G9 s i<256:=by
  unfold G9
  have:=UInt8.toNat_lt ((s.data.toList)[i.toNat]?.getD 0)
  omega
theorem GL_index {d:Bool} {P:Program} {ops:Array Oper} {i:Nat} {Q:D7} {n:Fr} {E:Env} {W0:World} {H:List Grp} {o:Oper} {ch:List (Nat × Bool)} {t:TypeId} {x ix:Operand} {s:ByteArray} {kd:IntKind} {j:Int}
    (ho:ops[i]? = some o:=by exact rfl) (hop:o.op=.index t x ix:=by exact rfl) (hx:evO E ch x=some (.string s):=by kernel_rfl) (hix:evO E ch ix=some (.int kd j):=by kernel_rfl) (hu:P.underlying t=some .string:=by kernel_rfl)
    (hch:D4 ops E o.guard=some ch:=by kernel_rfl) (hd:F5 n ch o.dst=true:=by kernel_rfl) (hk:J3 E ch=true:=by kernel_rfl)
    (hb:chB E ch→0≤j∧j<s.size)
    (k:GL d P ops (i+1) Q n (Env.put E o.dst ch (.int .u8 (G9 s j))) W0 H):GL d P ops i Q n E W0 H:=by
  refine I2 ho hch hd hk (fun r hr hcb w _=>?_) k
  obtain ⟨h0,h1⟩:=hb hcb
  have hlt:j.toNat<s.size:=by omega
  have e:s[j.toNat]? = some s[j.toNat]:=by simp [getElem?_pos,hlt]
  have e2:((s[j.toNat]:UInt8).toNat:Int)=G9 s j:=by
    unfold G9
    have:(s.data.toList)[j.toNat]? = some s[j.toNat]:=by
      rw [List.getElem?_eq_getElem (by simpa using hlt)]; rfl
    rw [this]; rfl
  unfold execOp
  simp only [hop]
  rw [hr _ _ hx,hr _ _ hix]
  simp only [Instr.index,asIntOf,Sem.run_bind,run_underlying hu,Sem.run_pure,Result.andThen_ok,if_pos h0,e,e2]
  exact ⟨rfl,rfl⟩
def loV:Option Value→Option Int
  | none=>some 0
  | some (.int _ n)=>some n
  | _=>none
def hiV (len:Int):Option Value→Option Int
  | none=>some len
  | some (.int _ n)=>some n
  | _=>none
def evOO (ρ:Operand→Option Value):Option Operand→Option (Option Value)
  | none=>some none
  | some x=>(match ρ x with | some v=>some (some v) | none=>none)
theorem run_sliceBound {P:Program} {x:Value} {y:Nat} {code:BoundsCode} {kd:IntKind} {n:Int} (hx:x=.int kd n) (h0:0≤n) (h1:n≤y) (w:World):(Instr.sliceBound x y code).run P w=.ok n.toNat w:=by
  subst hx
  simp [Instr.sliceBound,asIntOf,h0,h1]
theorem X1 {P:Program} {isSlice:Bool} {len cap:Nat} {lo hi:Option Value} {l h:Int} (hl:loV lo=some l) (hh:hiV len hi=some h)
    (h0:0≤l) (h1:l≤h) (h2:h≤cap) (w:World):(Instr.sliceBounds isSlice len cap lo hi none).run P w=.ok (l.toNat,h.toNat,cap) w:=by
  have hhi:(match hi with | some v=>Instr.sliceBound v cap (if isSlice then .sliceAcap else .sliceAlen) | none=>(pure len:Sem Nat)).run P w=.ok h.toNat w:=by
    cases hi with
    | none=>simp only [hiV,Option.some.injEq] at hh; subst hh; rfl
    | some v =>
      cases v <;> simp only [hiV,Option.some.injEq,reduceCtorEq] at hh
      subst hh
      exact run_sliceBound rfl (by omega) h2 w
  have hlo:(match lo with | some v=>Instr.sliceBound v h.toNat .sliceB | none=>(pure 0:Sem Nat)).run P w=.ok l.toNat w:=by
    cases lo with
    | none=>simp only [loV,Option.some.injEq] at hl; subst hl; rfl
    | some v =>
      cases v <;> simp only [loV,Option.some.injEq,reduceCtorEq] at hl
      subst hl
      exact run_sliceBound rfl h0 (by omega) w
  unfold Instr.sliceBounds
  cases hi with
  | none =>
    simp only [Sem.run_bind,Sem.run_pure,Result.andThen_ok] at hhi ⊢
    injection hhi with hhi
    subst hhi
    cases lo with
    | none=>simp only [Sem.run_bind,Sem.run_pure,Result.andThen_ok] at hlo ⊢; injection hlo with hlo; rw [← hlo]
    | some v=>simp only [Option.isSome_none,Bool.false_eq_true,if_false,Sem.run_bind] at hlo ⊢; rw [hlo]; rfl
  | some u =>
    simp only [Sem.run_bind,Sem.run_pure,Result.andThen_ok] at hhi ⊢
    rw [hhi]
    simp only [Result.andThen_ok]
    cases lo with
    | none=>simp only [Sem.run_bind,Sem.run_pure,Result.andThen_ok] at hlo ⊢; injection hlo with hlo; rw [← hlo]
    | some v=>simp only [Option.isSome_none,Bool.false_eq_true,if_false,Sem.run_bind] at hlo ⊢; rw [hlo]; rfl
theorem GL_sliceS {d:Bool} {P:Program} {ops:Array Oper} {i:Nat} {Q:D7} {n:Fr} {E:Env} {W0:World} {H:List Grp} {o:Oper} {ch:List (Nat × Bool)} {t:TypeId} {x:Operand} {lo hi:Option Operand} {s:ByteArray} {vl vh:Option Value} {l h:Int}
    (ho:ops[i]? = some o) (hop:o.op=.slice t x lo hi none) (hx:evO E ch x=some (.string s)) (hvl:evOO (evO E ch) lo=some vl) (hvh:evOO (evO E ch) hi=some vh) (hu:P.underlying t=some .string)
    (hl:loV vl=some l) (hh:hiV s.size vh=some h)
    (hch:D4 ops E o.guard=some ch) (hd:F5 n ch o.dst=true) (hk:J3 E ch=true)
    (hb:chB E ch→0≤l∧l≤h∧h≤s.size)
    (k:GL d P ops (i+1) Q n (Env.put E o.dst ch (.string (s.extract l.toNat h.toNat))) W0 H):GL d P ops i Q n E W0 H:=by
  refine I2 ho hch hd hk (fun r hr hcb w _=>?_) k
  obtain ⟨h0,h1,h2⟩:=hb hcb
  have hm:∀ {y:Option Operand} {v:Option Value},evOO (evO E ch) y=some v→y.map r=v:=by
    intro y v hv
    cases y with
    | none=>simp only [evOO,Option.some.injEq] at hv; subst hv; rfl
    | some y =>
      simp only [evOO] at hv
      split at hv
      · rename_i u hu; injection hv with hv; subst hv; simp [hr _ _ hu]
      · simp at hv
  unfold execOp
  simp only [hop]
  rw [hr _ _ hx,hm hvl,hm hvh]
  simp only [Instr.sliceAt,Instr.slice,Sem.run_bind,run_underlying hu,Result.andThen_ok,Option.map_none,Option.isSome_none,Bool.false_eq_true,if_false,
    X1 (P:=P) (isSlice:=false) hl hh h0 h1 h2,Sem.run_pure]
  exact ⟨rfl,rfl⟩
theorem GL_concat {d:Bool} {P:Program} {ops:Array Oper} {i:Nat} {Q:D7} {n:Fr} {E:Env} {W0:World} {H:List Grp} {o:Oper} {ch:List (Nat × Bool)} {t t2:TypeId} {x y:Operand} {s u:ByteArray}
    (ho:ops[i]? = some o) (hop:o.op=.binOp .add t x y t2) (hx:evO E ch x=some (.string s)) (hy:evO E ch y=some (.string u))
    (hch:D4 ops E o.guard=some ch) (hd:F5 n ch o.dst=true) (hk:J3 E ch=true)
    (hb:chB E ch→s.size+u.size≤9223372036854775807)
    (k:GL d P ops (i+1) Q n (Env.put E o.dst ch (.string (s++u))) W0 H):GL d P ops i Q n E W0 H:=by
  refine I2 ho hch hd hk (fun r hr hcb w _=>?_) k
  have h0:=hb hcb
  have h1:¬ (((s.size+u.size:Nat):Int) > IntKind.i64.max):=by
    have:IntKind.i64.max=9223372036854775807:=by decide
    rw [this]; omega
  unfold execOp
  simp only [hop]
  rw [hr _ _ hx,hr _ _ hy]
  simp only [eqGuard,Sem.run_bind,binOp,Op.stringOp,if_neg h1]
  exact ⟨rfl,rfl⟩
end Go.Sw
namespace Go.Sw
open Go.RowKit
def At (W0:World) (H:List Grp) (b:Nat) (o:Obj):Prop:=(b<W0.heap.size∧W0.heap[b]? = some o)∨(b,o)∈H.flatten
theorem Sat.at {W0:World} {H:List Grp} {w:World} (h:Sat W0 H w) {b:Nat} {o:Obj} (ha:At W0 H b o):w.heap[b]? = some o:=by
  rcases ha with ⟨hb,h0⟩ | hm
  · rw [h.below.block b hb]; exact h0
  · exact h.has _ hm
theorem At.grp {W0:World} {H:List Grp} {g:Grp} {b:Nat} {o:Obj} (j i:Nat) (hj:H[j]? = some g) (hi:g[i]? = some (b,o)):At W0 H b o :=
  .inr (List.mem_flatten.2 ⟨g,List.mem_of_getElem? hj,List.mem_of_getElem? hi⟩)
theorem At.mem {W0:World} {H:List Grp} {g:Grp} {b:Nat} {o:Obj} (hg:g∈H) (hi:(b,o)∈g):At W0 H b o:=.inr (List.mem_flatten.2 ⟨g,hg,hi⟩)
structure Wr (b:Nat) (o:Obj) (w w':World):Prop where
  os:w'.os=w.os
  tape:w'.tape=w.tape
  output:w'.output=w.output
  size:w'.heap.size=w.heap.size
  at_:w'.heap[b]? = some o
  other:∀ k,k≠b→w'.heap[k]? = w.heap[k]?
theorem nodup_swap {H:List Grp} {g:Grp} {b:Nat} {o o':Obj} {j i:Nat} (hj:H[j]? = some g) (hi:g[i]? = some (b,o)) :
    ((H.set j (g.set i (b,o'))).flatten.map Prod.fst)=H.flatten.map Prod.fst:=by
  induction H generalizing j with
  | nil=>simp at hj
  | cons x H ih =>
    cases j with
    | zero =>
      simp only [List.getElem?_cons_zero,Option.some.injEq] at hj
      subst hj
      simp only [List.set_cons_zero,List.flatten_cons,List.map_append]
      congr 1
      clear ih
      induction x generalizing i with
      | nil=>simp at hi
      | cons p x ih =>
        cases i with
        | zero=>simp only [List.getElem?_cons_zero,Option.some.injEq] at hi; subst hi; simp
        | succ i=>simp only [List.getElem?_cons_succ] at hi; simp [ih hi]
    | succ j =>
      simp only [List.getElem?_cons_succ] at hj
      simp only [List.set_cons_succ,List.flatten_cons,List.map_append,ih hj]
theorem mem_swap {H:List Grp} {g:Grp} {b:Nat} {o o':Obj} {j i:Nat} (hj:H[j]? = some g) (hi:g[i]? = some (b,o)) (hn:(H.flatten.map Prod.fst).Nodup)
    {p:Nat × Obj} (hp:p∈(H.set j (g.set i (b,o'))).flatten):p=(b,o')∨(p∈H.flatten∧p.1≠b):=by
  induction H generalizing j with
  | nil=>simp at hj
  | cons x H ih =>
    simp only [List.flatten_cons,List.map_append,List.nodup_append] at hn
    obtain ⟨n1,n2,n3⟩:=hn
    cases j with
    | zero =>
      simp only [List.getElem?_cons_zero,Option.some.injEq] at hj
      subst hj
      simp only [List.set_cons_zero,List.flatten_cons,List.mem_append] at hp
      have hb:b∈x.map Prod.fst:=List.mem_map.2 ⟨_,List.mem_of_getElem? hi,rfl⟩
      rcases hp with hp | hp
      · have:p=(b,o')∨(p∈x∧p.1≠b):=by
          clear ih n2 n3 hb
          induction x generalizing i with
          | nil=>simp at hi
          | cons q x ih =>
            simp only [List.map_cons,List.nodup_cons] at n1
            cases i with
            | zero =>
              simp only [List.getElem?_cons_zero,Option.some.injEq] at hi; subst hi
              simp only [List.set_cons_zero,List.mem_cons] at hp
              rcases hp with rfl | hp
              · exact .inl rfl
              · refine .inr ⟨List.mem_cons_of_mem _ hp,fun e=>n1.1 ?_⟩
                exact List.mem_map.2 ⟨p,hp,e⟩
            | succ i =>
              simp only [List.getElem?_cons_succ] at hi
              simp only [List.set_cons_succ,List.mem_cons] at hp
              rcases hp with rfl | hp
              · refine .inr ⟨List.mem_cons_self,fun e=>n1.1 ?_⟩
                exact List.mem_map.2 ⟨_,List.mem_of_getElem? hi,e.symm⟩
              · rcases ih n1.2 hi hp with h | ⟨h1,h2⟩
                · exact .inl h
                · exact .inr ⟨List.mem_cons_of_mem _ h1,h2⟩
        rcases this with h | ⟨h1,h2⟩
        · exact .inl h
        · exact .inr ⟨by simp [h1],h2⟩
      · refine .inr ⟨by simp [hp],fun e=>?_⟩
        have:p.1∈H.flatten.map Prod.fst:=List.mem_map.2 ⟨p,hp,rfl⟩
        exact n3 _ hb _ this e.symm
    | succ j =>
      simp only [List.getElem?_cons_succ] at hj
      simp only [List.set_cons_succ,List.flatten_cons,List.mem_append] at hp
      have hbH:b∈H.flatten.map Prod.fst:=List.mem_map.2 ⟨(b,o),List.mem_flatten.2 ⟨g,List.mem_of_getElem? hj,List.mem_of_getElem? hi⟩,rfl⟩
      rcases hp with hp | hp
      · refine .inr ⟨by simp [hp],fun e=>?_⟩
        have:p.1∈x.map Prod.fst:=List.mem_map.2 ⟨p,hp,rfl⟩
        exact n3 _ this _ hbH e
      · rcases ih hj n2 hp with h | ⟨h1,h2⟩
        · exact .inl h
        · exact .inr ⟨by simp [h1],h2⟩
theorem Sat.wr {W0:World} {H:List Grp} {w w':World} (h:Sat W0 H w) {g:Grp} {b:Nat} {o o':Obj} {j i:Nat} (hj:H[j]? = some g) (hi:g[i]? = some (b,o))
    (hw:Wr b o' w w'):Sat W0 (H.set j (g.set i (b,o'))) w':=by
  have hm:(b,o)∈H.flatten:=List.mem_flatten.2 ⟨g,List.mem_of_getElem? hj,List.mem_of_getElem? hi⟩
  have hhigh:W0.heap.size≤b:=h.high (b,o) hm
  refine ⟨⟨hw.os.trans h.below.os,hw.tape.trans h.below.tape,hw.output.trans h.below.output,by rw [hw.size]; exact h.below.size,fun k hk=>?_⟩,?_,?_,?_⟩
  · rw [hw.other k (by omega)]; exact h.below.block k hk
  · rw [nodup_swap hj hi]; exact h.nodup
  · intro p hp
    rcases mem_swap hj hi h.nodup hp with rfl | ⟨h1,h2⟩
    · exact hw.at_
    · rw [hw.other _ h2]; exact h.has p h1
  · intro p hp
    rcases mem_swap hj hi h.nodup hp with rfl | ⟨h1,h2⟩
    · exact hhigh
    · exact h.high p h1
theorem Sat.new {W0:World} {H:List Grp} {w w':World} (h:Sat W0 H w) {o:Obj} (hos:w'.os=w.os) (htape:w'.tape=w.tape) (hout:w'.output=w.output)
    (hheap:w'.heap=w.heap.push o):Sat W0 ([(w.heap.size,o)]::H) w':=by
  have hlt:∀ p,p∈H.flatten→p.1<w.heap.size:=fun p hp=>by
    have:=h.has p hp
    rcases Nat.lt_or_ge p.1 w.heap.size with h' | h'
    · exact h'
    · simp [Array.getElem?_eq_none h'] at this
  have hold:∀ k,k<w.heap.size→w'.heap[k]? = w.heap[k]? := fun k hk=>by
    rw [hheap,Array.getElem?_push,if_neg (by omega)]
  refine ⟨⟨hos.trans h.below.os,htape.trans h.below.tape,hout.trans h.below.output,by rw [hheap]; simp; have:=h.below.size; omega,fun k hk=>?_⟩,?_,?_,?_⟩
  · have:=h.below.size
    rw [hold k (by omega)]; exact h.below.block k hk
  · simp only [List.flatten_cons,List.cons_append,List.nil_append,List.map_cons,List.nodup_cons]
    refine ⟨fun hm=>?_,h.nodup⟩
    obtain ⟨p,hp,he⟩:=List.mem_map.1 hm
    have:=hlt p hp
    omega
  · intro p hp
    simp only [List.flatten_cons,List.cons_append,List.nil_append,List.mem_cons] at hp
    rcases hp with rfl | hp
    · simp [hheap]
    · rw [hold _ (hlt p hp)]; exact h.has p hp
  · intro p hp
    simp only [List.flatten_cons,List.cons_append,List.nil_append,List.mem_cons] at hp
    rcases hp with rfl | hp
    · exact h.below.size
    · exact h.high p hp
theorem Sat.perm {W0:World} {H H':List Grp} {w:World} (h:Sat W0 H w) (hp:H.Perm H'):Sat W0 H' w:=by
  have hf:H.flatten.Perm H'.flatten:=hp.flatten
  exact ⟨h.below,(hf.map _).nodup_iff.1 h.nodup,fun p hm=>h.has p (hf.mem_iff.2 hm),fun p hm=>h.high p (hf.mem_iff.2 hm)⟩
theorem Sat.tail {W0:World} {H:List Grp} {g:Grp} {w:World} (h:Sat W0 (g::H) w):Sat W0 H w:=by
  have hn:=h.nodup
  simp only [List.flatten_cons,List.map_append,List.nodup_append] at hn
  exact ⟨h.below,hn.2.1,fun p hm=>h.has p (by simp [hm]),fun p hm=>h.high p (by simp [hm])⟩
theorem Sat.flat {W0:World} {H H':List Grp} {w:World} (h:Sat W0 H w) (hf:H.flatten.Perm H'.flatten):Sat W0 H' w :=
  ⟨h.below,(hf.map _).nodup_iff.1 h.nodup,fun p hm=>h.has p (hf.mem_iff.2 hm),fun p hm=>h.high p (hf.mem_iff.2 hm)⟩
theorem Sat.subl {W0:World} {H H':List Grp} {w:World} (h:Sat W0 H w) (hf:H'.flatten.Sublist H.flatten):Sat W0 H' w :=
  ⟨h.below,h.nodup.sublist (hf.map _),fun p hm=>h.has p (hf.subset hm),fun p hm=>h.high p (hf.subset hm)⟩
theorem E0 {d:Bool} {P:Program} {ops:Array Oper} {i:Nat} {Q:D7} {n:Fr} {E:Env} {W0:World} {H H':List Grp} (hd:d=false:=by exact rfl)
    (hs:∀ w,Sat W0 H w→Sat W0 H' w) (k:GL d P ops i Q n E W0 H'):GL d P ops i Q n E W0 H:=by
  subst hd; exact fun a w ha h=>k a w ha (hs w h)
theorem G_heap {P:Program} {c:Code} {Q:D7} {n:Fr} {E:Env} {W0:World} {H H':List Grp}
    (hs:∀ w,Sat W0 H w→Sat W0 H' w) (k:G P c Q n E W0 H'):G P c Q n E W0 H:=fun a w ha h=>k a w ha (hs w h)
theorem G8 {Q:D7} {x:Exit} {n:Fr} {E:Env} {W0:World} {H H':List Grp}
    (hs:∀ w,Sat W0 H w→Sat W0 H' w) (k:N Q x n E W0 H'):N Q x n E W0 H:=fun a w ha h=>k a w ha (hs w h)
theorem Tri.heap {P:Program} {f:FuncId} {args:Array Value} {W0:World} {H H':List Grp} {R:Value→List Grp→Prop}
    (hs:∀ w,Sat W0 H w→Sat W0 H' w) (h:Tri P f args W0 H' R):Tri P f args W0 H R:=fun w h0=>h w (hs w h0)
theorem Tri.post {P:Program} {f:FuncId} {args:Array Value} {W0:World} {H:List Grp} {R R':Value→List Grp→Prop}
    (h:Tri P f args W0 H R) (hr:∀ v H1,R v H1→∃ H2,R' v H2∧∀ w,Sat W0 H1 w→Sat W0 H2 w):Tri P f args W0 H R' :=
  fun w hs=>(h w hs).mono fun _ _ ⟨v,H1,he,hR,hs'⟩=>let ⟨H2,h2,h3⟩:=hr v H1 hR; ⟨v,H2,he,h2,h3 _ hs'⟩
theorem Z1 {P:Program} {ops:Array Oper} {i:Nat} {Q:D7} {n:Fr} {E:Env} {W0:World} {H:List Grp} {o:Oper} {ch:List (Nat × Bool)} {R:Value→List Grp→Prop}
    (ho:ops[i]? = some o) (hch:D4 ops E o.guard=some ch) (hd:F5 n ch o.dst=true) (hsure:N9 E ch=true)
    (hrun:∀ (r:Operand→Value),(∀ x v,evO E ch x=some v→r x=v)→∀ w,Sat W0 H w→∃ v w' H',R v H'∧Sat W0 H' w' ∧
      ((execOp r o).run P w=.ok (.value v) w'∨((execOp r o).run P w=.ok .skip w'∧v=undef)))
    (k:∀ v H',R v H'→GL false P ops (i+1) Q n (Env.put E o.dst ch v) W0 H'):GL false P ops i Q n E W0 H:=by
  have hi:i<ops.toList.length:=by
    rcases Nat.lt_or_ge i ops.size with h | h
    · simpa using h
    · simp [Array.getElem?_eq_none h] at ho
  have hdrop:ops.toList.drop i=o::ops.toList.drop (i+1):=by
    rw [List.drop_eq_getElem_cons hi]
    congr 1
    have hi':i<ops.size:=by simpa using hi
    rw [Array.getElem?_eq_getElem hi'] at ho
    simpa using ho
  intro a w ha hs
  rw [hdrop]
  obtain ⟨β,hβ,hat⟩:=ha.at_
  have hcT:=G0 hsure β hβ
  have hw:=Q3 hβ hat hch
  unfold wpList
  rw [hw,if_pos hcT]
  left
  obtain ⟨v,w',H',hR,hs',hr⟩:=hrun a.eval (fun x v=>L4 hat hcT) w hs
  have hput:=Ag.put ha hβ hat hd v
  rw [if_pos hcT] at hput
  unfold Oper.wp
  rcases hr with hr | ⟨hr,rfl⟩
  · rw [hr]; exact k v H' hR _ _ hput hs'
  · rw [hr]; exact k _ H' hR _ _ hput hs'
theorem A0l {w:World} {b off:Nat} {c:Array Value} {e:TypeId} {fz:Nat × Nat} {v:Value} (h:w.heap[b]? = some (.cells c e fz)) (hv:c[off]? = some v):w.cell? ⟨b,off,none⟩=some v:=by
  simp [World.cell?,h,hv]
theorem L5 (b off i:Nat):(Addr.add ⟨b,off,none⟩ i)=⟨b,off+i,none⟩:=by
  unfold Addr.add
  split
  · rename_i h; subst h; rfl
  · rfl
theorem V2 {P:Program} {w:World} {b off:Nat} {c:Array Value} {e:TypeId} {fz:Nat × Nat} (h:w.heap[b]? = some (.cells c e fz)):∀ (l:List Value) (i:Nat) (acc:Array Value),
    (∀ k (hk:k<l.length),c[off+i+k]? = some l[k])→(loadCellsFrom ⟨b,off,none⟩ i l.length acc).run P w=.ok (acc++l.toArray) w
  | [],i,acc,_=>by simp [loadCellsFrom]
  | v::l,i,acc,hl=>by
    have h0:=hl 0 (by simp)
    simp only [List.getElem_cons_zero,Nat.add_zero] at h0
    have ih:=V2 (P:=P) (off:=off) h l (i+1) (acc.push v) (fun k hk=>by
      have:=hl (k+1) (by simp; omega)
      simp only [List.getElem_cons_succ] at this
      rw [show off+(i+1)+k=off+i+(k+1) from by omega]
      exact this)
    simp only [List.length_cons,loadCellsFrom,Sem.run_bind,L5,run_load,A0l h h0,Result.andThen_ok,ih]
    simp
theorem F9 {d:Bool} {P:Program} {ops:Array Oper} {i:Nat} {Q:D7} {n:Fr} {E:Env} {W0:World} {H:List Grp} {o:Oper} {ch:List (Nat × Bool)} {t:TypeId} {x:Operand}
    {b off:Nat} {c:Array Value} {e:TypeId} {fz:Nat × Nat} {v:Value}
    (ho:ops[i]? = some o:=by exact rfl) (hop:o.op=.load t x:=by exact rfl) (hx:evO E ch x=some (.pointer (some ⟨b,off,none⟩)):=by kernel_rfl) (ht:aggB P t=some false:=by kernel_rfl)
    (hch:D4 ops E o.guard=some ch:=by kernel_rfl) (hd:F5 n ch o.dst=true:=by kernel_rfl) (hk:J3 E ch=true:=by kernel_rfl)
    (hA:At W0 H b (.cells c e fz)) (hv:c[off]? = some v:=by exact rfl)
    (k:GL d P ops (i+1) Q n (Env.put E o.dst ch v) W0 H):GL d P ops i Q n E W0 H:=by
  refine I2 ho hch hd hk (fun r hr _ w hs=>?_) k
  unfold execOp
  simp only [hop]
  rw [hr _ _ hx]
  simp only [Instr.loadAt,Instr.sureAddr,loadVar,Sem.run_bind,Sem.run_pure,Result.andThen_ok,Q9 ht,Bool.false_eq_true,if_false,run_load,A0l (hs.at hA) hv]
  exact ⟨rfl,rfl⟩
theorem GL_loadA {d:Bool} {P:Program} {ops:Array Oper} {i:Nat} {Q:D7} {n:Fr} {E:Env} {W0:World} {H:List Grp} {o:Oper} {ch:List (Nat × Bool)} {t:TypeId} {x:Operand}
    {b off:Nat} {c:Array Value} {e:TypeId} {fz:Nat × Nat} {l:List Value}
    (ho:ops[i]? = some o) (hop:o.op=.load t x) (hx:evO E ch x=some (.pointer (some ⟨b,off,none⟩))) (ht:aggB P t=some true) (hsz:T5 P t=some l.length)
    (hch:D4 ops E o.guard=some ch) (hd:F5 n ch o.dst=true) (hk:J3 E ch=true)
    (hA:At W0 H b (.cells c e fz)) (hv':(c.toList.drop off).take l.length=l)
    (k:GL d P ops (i+1) Q n (Env.put E o.dst ch (.agg l.toArray)) W0 H):GL d P ops i Q n E W0 H:=by
  have hv:∀ k (hk:k<l.length),c[off+k]? = some l[k]:=by
    intro k hk
    have h1:((c.toList.drop off).take l.length)[k]? = some l[k]:=by rw [hv']; simp
    rw [List.getElem?_take,if_pos hk,List.getElem?_drop] at h1
    simpa using h1
  refine I2 ho hch hd hk (fun r hr _ w hs=>?_) k
  unfold execOp
  simp only [hop]
  rw [hr _ _ hx]
  simp only [Instr.loadAt,Instr.sureAddr,loadVar,Sem.run_bind,Sem.run_pure,Result.andThen_ok,Q9 ht,if_true,J1 hsz,loadCells,
    V2 (P:=P) (hs.at hA) l 0 #[] (by simpa using hv)]
  exact ⟨rfl,by simp⟩
def thawed (fz:Nat × Nat) (off:Nat):Bool:=!(decide (fz.1≤off)&&decide (off<fz.2))
theorem run_store1 {P:Program} {w:World} {b off:Nat} {c:Array Value} {e:TypeId} {fz:Nat × Nat} {v:Value} (h:w.heap[b]? = some (.cells c e fz)) (hoff:off<c.size)
    (hfz:thawed fz off=true) (hv:v.oneCell'=true):∃ w',(store ⟨b,off,none⟩ v).run P w=.ok () w'∧Wr b (.cells (c.setIfInBounds off v) e fz) w w':=by
  have hc:w.cell? ⟨b,off,none⟩=some c[off]:=A0l h (by simp [hoff])
  have hf:w.frozen? ⟨b,off,none⟩=false:=by
    simp only [World.frozen?,h]
    simp [thawed] at hfz
    simp
    omega
  refine ⟨w.setCell ⟨b,off,none⟩ v,?_,?_⟩
  · rw [run_store P w _ v _ hv,hc]
    simp [hf]
  · have hb:b<w.heap.size:=by
      rcases Nat.lt_or_ge b w.heap.size with h' | h'
      · exact h'
      · simp [Array.getElem?_eq_none h'] at h
    refine ⟨rfl,rfl,rfl,by simp,?_,fun k hk=>?_⟩
    · simp only [World.setCell,Array.getElem?_modify,↓reduceIte,h,Option.map_some]
      simp
    · simp only [World.setCell,Array.getElem?_modify]
      rw [if_neg (fun e=>hk e.symm)]
theorem Wr.trans {b:Nat} {o1 o2:Obj} {w w1 w2:World} (h1:Wr b o1 w w1) (h2:Wr b o2 w1 w2):Wr b o2 w w2 :=
  ⟨h2.os.trans h1.os,h2.tape.trans h1.tape,h2.output.trans h1.output,h2.size.trans h1.size,h2.at_,fun k hk=>(h2.other k hk).trans (h1.other k hk)⟩
def setRow (c:Array Value) (off:Nat):List Value→Array Value
  | []=>c
  | v::r=>setRow (c.setIfInBounds off v) (off+1) r
theorem Z5 {P:Program} {b:Nat} {e:TypeId} {fz:Nat × Nat}:∀ (l:List Value) {w:World} {off i:Nat} {c:Array Value},w.heap[b]? = some (.cells c e fz)→off+i+l.length≤c.size →
    (∀ k,k<l.length→thawed fz (off+i+k)=true)→(l.all Value.oneCell')=true →
    ∃ w',(storeCells ⟨b,off,none⟩ l i).run P w=.ok () w'∧(l=[]→w'=w)∧Wr b (.cells (setRow c (off+i) l) e fz) w w'
  | [],w,off,i,c,h,_,_,_=>⟨w,rfl,fun _=>rfl,rfl,rfl,rfl,rfl,h,fun _ _=>rfl⟩
  | v::l,w,off,i,c,h,hlen,hfz,hv=>by
    simp only [List.all_cons,Bool.and_eq_true] at hv
    simp only [List.length_cons] at hlen
    obtain ⟨w1,hr1,hw1⟩:=run_store1 (P:=P) h (off:=off+i) (by omega) (by simpa using hfz 0 (by simp)) hv.1
    obtain ⟨w2,hr2,_,hw2⟩:=Z5 (P:=P) l (w:=w1) (off:=off) (i:=i+1) hw1.at_ (by simp; omega)
      (fun k hk=>by have:=hfz (k+1) (by simp; omega); rw [show off+(i+1)+k=off+i+(k+1) from by omega]; exact this) hv.2
    refine ⟨w2,?_,fun h=>by simp at h,?_⟩
    · simp only [storeCells,Sem.run_bind,L5,hr1,Result.andThen_ok,hr2]
    · have:=hw1.trans hw2
      simpa [setRow,Nat.add_assoc] using this
theorem J8 {P:Program} {ops:Array Oper} {i:Nat} {Q:D7} {n:Fr} {E:Env} {W0:World} {H H':List Grp} {o:Oper} {ch:List (Nat × Bool)} {t:TypeId} {x y:Operand}
    {b off:Nat} {c c':Array Value} {e:TypeId} {fz:Nat × Nat} {v:Value} {g:Grp} {j m:Nat}
    (ho:ops[i]? = some o:=by exact rfl) (hop:o.op=.store t x y:=by exact rfl) (hx:evO E ch x=some (.pointer (some ⟨b,off,none⟩)):=by kernel_rfl) (hy:evO E ch y=some v:=by kernel_rfl)
    (hsz:T5 P t=some v.cells.size:=by kernel_rfl) (h1:(v.cells.toList.all Value.oneCell')=true:=by kernel_rfl)
    (hch:D4 ops E o.guard=some ch:=by kernel_rfl) (hd:F5 n ch o.dst=true:=by kernel_rfl) (hsure:N9 E ch=true:=by kernel_rfl)
    (hj:H[j]? = some g:=by exact rfl) (hi:g[m]? = some (b,.cells c e fz):=by exact rfl) (hoff:off+v.cells.size≤c.size) (hfz:∀ k,k<v.cells.size→thawed fz (off+k)=true)
    (hc':setRow c off v.cells.toList=c':=by kernel_rfl) (hH':H.set j (g.set m (b,.cells c' e fz))=H':=by kernel_rfl)
    (k:GL false P ops (i+1) Q n (Env.put E o.dst ch undef) W0 H'):GL false P ops i Q n E W0 H:=by
  refine Z1 (R:=fun v H1=>v=undef∧H1=H') ho hch hd hsure (fun r hr w hs=>?_) (by rintro v H1 ⟨rfl,rfl⟩; exact k)
  have hblk:=hs.has _ (List.mem_flatten.2 ⟨g,List.mem_of_getElem? hj,List.mem_of_getElem? hi⟩)
  obtain ⟨w',hr',_,hw'⟩:=Z5 (P:=P) v.cells.toList (w:=w) (off:=off) (i:=0) hblk (by simpa using hoff) (by simpa using hfz) h1
  refine ⟨undef,w',H',⟨rfl,rfl⟩,?_,.inr ⟨?_,rfl⟩⟩
  · have:=hs.wr hj hi (o':=.cells c' e fz) (by rw [← hc']; simpa using hw')
    rw [hH'] at this; exact this
  · unfold execOp
    simp only [hop]
    rw [hr _ _ hx,hr _ _ hy]
    simp only [Instr.storeAt,Instr.sureAddr,storeVar,Sem.run_bind,Sem.run_pure,Result.andThen_ok,J1 hsz,ne_eq,not_true_eq_false,if_false,hr']
theorem P5 {x:Nat}:thawed (0,0) x=true:=by simp [thawed]
theorem GL_new {P:Program} {ops:Array Oper} {i:Nat} {Q:D7} {n:Fr} {E:Env} {W0:World} {H:List Grp} {o:Oper} {ch:List (Nat × Bool)} {ob:Obj} {f:Nat→Value}
    (ho:ops[i]? = some o) (hch:D4 ops E o.guard=some ch) (hd:F5 n ch o.dst=true) (hsure:N9 E ch=true)
    (hrun:∀ (r:Operand→Value),(∀ x v,evO E ch x=some v→r x=v)→∀ w,(execOp r o).run P w=.ok (.value (f w.heap.size)) (w.alloc ob))
    (k:∀ b,GL false P ops (i+1) Q n (Env.put E o.dst ch (f b)) W0 ([(b,ob)]::H)):GL false P ops i Q n E W0 H:=by
  refine Z1 (R:=fun v H1=>∃ b,v=f b∧H1=[(b,ob)]::H) ho hch hd hsure (fun r hr w hs=>?_) (by rintro v H1 ⟨b,rfl,rfl⟩; exact k b)
  exact ⟨f w.heap.size,w.alloc ob,_,⟨_,rfl,rfl⟩,hs.new rfl rfl rfl rfl,.inl (hrun r hr w)⟩
theorem GL_alloc {P:Program} {ops:Array Oper} {i:Nat} {Q:D7} {n:Fr} {E:Env} {W0:World} {H:List Grp} {o:Oper} {ch:List (Nat × Bool)} {t:TypeId} {z:Value}
    (ho:ops[i]? = some o:=by exact rfl) (hop:o.op=.alloc t:=by exact rfl) (hz:zeroV P t=some z:=by kernel_rfl) (hch:D4 ops E o.guard=some ch:=by kernel_rfl) (hd:F5 n ch o.dst=true:=by kernel_rfl) (hsure:N9 E ch=true:=by kernel_rfl)
    (k:∀ b,GL false P ops (i+1) Q n (Env.put E o.dst ch (.pointer (some ⟨b,0,none⟩))) W0 ([(b,.cells z.cells t)]::H)):GL false P ops i Q n E W0 H :=
  GL_new (f:=fun b=>.pointer (some ⟨b,0,none⟩)) ho hch hd hsure (fun r hr w=>by
    unfold execOp; simp only [hop,Instr.alloc,Sem.run_bind,W6 hz,Result.andThen_ok]; rfl) k
theorem GL_box {P:Program} {ops:Array Oper} {i:Nat} {Q:D7} {n:Fr} {E:Env} {W0:World} {H:List Grp} {o:Oper} {ch:List (Nat × Bool)} {t:TypeId} {x:Operand} {v:Value}
    (ho:ops[i]? = some o) (hop:o.op=.box t x) (hx:evO E ch x=some v) (hch:D4 ops E o.guard=some ch) (hd:F5 n ch o.dst=true) (hsure:N9 E ch=true)
    (k:∀ b,GL false P ops (i+1) Q n (Env.put E o.dst ch (.pointer (some ⟨b,0,none⟩))) W0 ([(b,.cells v.cells t)]::H)):GL false P ops i Q n E W0 H :=
  GL_new (f:=fun b=>.pointer (some ⟨b,0,none⟩)) ho hch hd hsure (fun r hr w=>by
    unfold execOp; simp only [hop]; rw [hr _ _ hx]; rfl) k
theorem O6 {P:Program} {ops:Array Oper} {i:Nat} {Q:D7} {n:Fr} {E:Env} {W0:World} {H:List Grp} {o:Oper} {ch:List (Nat × Bool)} {t:TypeId}
    (ho:ops[i]? = some o:=by exact rfl) (hop:o.op=.makeMap t none:=by exact rfl) (hch:D4 ops E o.guard=some ch:=by kernel_rfl) (hd:F5 n ch o.dst=true:=by kernel_rfl) (hsure:N9 E ch=true:=by kernel_rfl)
    (k:∀ b,GL false P ops (i+1) Q n (Env.put E o.dst ch (.map (some b))) W0 ([(b,.map #[] 0)]::H)):GL false P ops i Q n E W0 H :=
  GL_new (f:=fun b=>.map (some b)) ho hch hd hsure (fun r hr w=>by
    unfold execOp; simp only [hop]; rfl) k
def buildSliceV (P:Program) (t:TypeId) (len:Nat) (parts:List (Nat × Value)):Option (Array Value × TypeId) :=
  match P.underlying t with
  | some (.slice e) =>
    (match T5 P e,zeroV P e with
     | some n,some z=>if len * n > 2 ^ 24 then none else
        (match Instr.fill (fun i=>some (i * n,n)) ((Array.range (len * n)).map (z.cells[· % z.cells.size]!)) parts with | some c=>some (c,e) | none=>none)
     | _,_=>none)
  | _=>none
theorem GL_buildSlice {P:Program} {ops:Array Oper} {i:Nat} {Q:D7} {n:Fr} {E:Env} {W0:World} {H:List Grp} {o:Oper} {ch:List (Nat × Bool)} {t e:TypeId} {len:Nat} {parts:Array (Nat × Operand)} {l:List (Nat × Value)} {c:List Value}
    (ho:ops[i]? = some o) (hop:o.op=.buildSlice t len parts) (hx:evP (evO E ch) parts.toList=some l) (hc:buildSliceV P t len l=some (c.toArray,e))
    (hch:D4 ops E o.guard=some ch) (hd:F5 n ch o.dst=true) (hsure:N9 E ch=true)
    (k:∀ b,GL false P ops (i+1) Q n (Env.put E o.dst ch (.slice (some ⟨b,0,none⟩) len len)) W0 ([(b,.cells c.toArray e)]::H)):GL false P ops i Q n E W0 H :=
  GL_new (f:=fun b=>.slice (some ⟨b,0,none⟩) len len) ho hch hd hsure (fun r hr w=>by
    unfold execOp; simp only [hop]
    have e1:(Array.map (fun x=>(x.fst,r x.snd)) parts)=l.toArray:=by
      rw [← evP_map hr _ hx]; apply Array.ext'; rw [Array.toList_map]
    rw [e1]
    unfold buildSliceV at hc
    split at hc
    · rename_i el hu
      split at hc
      · rename_i sz z hsz hz
        split at hc
        · simp at hc
        · rename_i hbig
          split at hc
          · rename_i cc hf
            simp only [Option.some.injEq,Prod.mk.injEq] at hc
            obtain ⟨h1,rfl⟩:=hc
            have hm:len * sz=0→(Array.range (len * sz)).map (fun q=>(#[]:Array Value)[q % (#[]:Array Value).size]!)=(Array.range (len * sz)).map (z.cells[· % z.cells.size]!):=by
              intro h0
              rw [h0,show Array.range 0=#[] from rfl]
              simp
            simp only [Instr.buildSlice,Sem.run_bind,run_underlying hu,Result.andThen_ok,J1 hsz,if_neg hbig]
            by_cases h0:len * sz=0
            · rw [if_pos h0]
              simp only [Sem.run_bind,Sem.run_pure,Result.andThen_ok,hm h0,hf,newRow,run_newObj,h1]
              rfl
            · rw [if_neg h0]
              simp only [Sem.run_bind,Sem.run_pure,W6 hz,Result.andThen_ok,hf,newRow,run_newObj,h1]
              rfl
          · simp at hc
      · simp at hc
    · simp at hc) k
def psv (P:Program) (ops:Array Oper) (n:Fr) (ms:List Nat) (i:Nat) (E:List Sl):List Sl:=(R3 P ops n ms i E).getD []
theorem psv_some {P:Program} {ops:Array Oper} {n:Fr} {ms:List Nat} {i:Nat} {E:List Sl} (h:(R3 P ops n ms i E).isSome=true):R3 P ops n ms i E=some (psv P ops n ms i E):=by
  unfold psv
  cases hp:R3 P ops n ms i E with
  | none=>rw [hp] at h; cases h
  | some E1=>rfl
theorem A5 {d:Bool} {P:Program} {ops:Array Oper} {i j:Nat} {Q:D7} {n:Fr} {E:Env} {W0:World} {H:List Grp} (ms:List Nat)
    (h:(R3 P ops n ms i E).isSome=true:=by kernel_rfl) (hj:i+ms.length=j:=by exact rfl) (k:GL d P ops j Q n (psv P ops n ms i E) W0 H):GL d P ops i Q n E W0 H :=
  GL_psteps ms (psv_some h) (by rw [hj]; exact k)
def setI (E:List Sl) (t:Nat) (y:Int):List Sl:=⟨t,[],.int .i64 y⟩::E.filter fun s=>!(s.t==t)
theorem setI_sub {E:Env} {t:Nat} {x y:Int} (hw:x=y) (h:Env.find E t=some ⟨t,[],.int .i64 x⟩):∀ s,s∈setI E t y→s∈E:=by
  subst hw
  intro s hs
  rcases List.mem_cons.1 hs with rfl | hs
  · exact (Env.find_mem h).1
  · exact (List.mem_filter.1 hs).1
theorem GL_w {d:Bool} {P:Program} {ops:Array Oper} {i:Nat} {Q:D7} {n:Fr} {E:Env} {W0:World} {H:List Grp} (t:Nat) {x y:Int} (hw:x=y)
    (h:Env.find E t=some ⟨t,[],.int .i64 x⟩) (k:GL d P ops i Q n (setI E t y) W0 H):GL d P ops i Q n E W0 H:=GL_sub (setI_sub hw h) k
theorem F0 {d:Bool} {P:Program} {ops:Array Oper} {i:Nat} {Q:D7} {n:Fr} {E:Env} {W0:World} {H:List Grp} (t:Nat) (x:Int) (h1:-9223372036854775808≤x) (h2:x≤9223372036854775807)
    (h:Env.find E t=some ⟨t,[],.int .i64 (IntKind.wrap .i64 x)⟩:=by kernel_rfl) (k:GL d P ops i Q n (setI E t x) W0 H):GL d P ops i Q n E W0 H:=GL_sub (setI_sub (w64 h1 h2) h) k
theorem GL_st {P:Program} {ops:Array Oper} {i:Nat} {Q:D7} {n:Fr} {E:Env} {W0:World} {H:List Grp} {o:Oper} {ch:List (Nat × Bool)} {t:TypeId} {x y:Operand}
    {b off:Nat} {c:Array Value} {e:TypeId} {fz:Nat × Nat} {v:Value} {g:Grp} {j:Nat} (H':List Grp)
    (ho:ops[i]? = some o:=by exact rfl) (hop:o.op=.store t x y:=by exact rfl) (hx:evO E ch x=some (.pointer (some ⟨b,off,none⟩)):=by kernel_rfl) (hy:evO E ch y=some v:=by kernel_rfl)
    (hsz:T5 P t=some v.cells.size:=by kernel_rfl) (h1:(v.cells.toList.all Value.oneCell')=true:=by kernel_rfl)
    (hch:D4 ops E o.guard=some ch:=by kernel_rfl) (hd:F5 n ch o.dst=true:=by kernel_rfl) (hsure:N9 E ch=true:=by kernel_rfl)
    (hj:H[j]? = some g:=by exact rfl) (hi:g[0]? = some (b,.cells c e fz):=by exact rfl) (hoff:off+v.cells.size≤c.size) (hfz:∀ k,k<v.cells.size→thawed fz (off+k)=true)
    (hH':H.set j (g.set 0 (b,.cells (setRow c off v.cells.toList) e fz))=H':=by kernel_rfl)
    (k:GL false P ops (i+1) Q n (Env.put E o.dst ch undef) W0 H'):GL false P ops i Q n E W0 H :=
  J8 (c':=setRow c off v.cells.toList) ho hop hx hy hsz h1 hch hd hsure hj hi hoff hfz rfl hH' k
theorem G_env {P:Program} {c:Code} {Q:D7} {n:Fr} {E E':Env} {W0:World} {H:List Grp} (h:E=E':=by kernel_rfl) (k:G P c Q n E' W0 H):G P c Q n E W0 H:=by subst h; exact k
theorem B5 {d:Bool} {P:Program} {ops:Array Oper} {i:Nat} {Q:D7} {n:Fr} {E:Env} {W0:World} {H:List Grp} (ms ts:List Nat)
    (hl:ops.size=i+ms.length:=by exact rfl) (h:(R3 P ops n ms i E).isSome=true:=by kernel_rfl) (k:N Q .normal n (Env.keep ts (psv P ops n ms i E)) W0 H):GL d P ops i Q n E W0 H :=
  D5 ms ts hl (by rw [psv_some h]; rfl) k
theorem G_p {P:Program} {id:Nat} {ops:Array Oper} {Q:D7} {n:Fr} {E:Env} {W0:World} {H:List Grp} (ms ts:List Nat)
    (hl:ops.size=ms.length:=by exact rfl) (h:(R3 P ops n ms 0 E).isSome=true:=by kernel_rfl) (k:N Q .normal n (Env.keep ts (psv P ops n ms 0 E)) W0 H):G P (.region id ops false) Q n E W0 H :=
  B9 ms ts hl (by rw [psv_some h]; rfl) k
theorem E4 {P:Program} {ops:Array Oper} {i:Nat} {Q:D7} {n:Fr} {E:Env} {W0:World} {H:List Grp} {o:Oper} {c:Call} {fo:Operand} {f:FuncId} {vs:List Value} {fn:Func} {R:Value→List Grp→Prop}
    (hf:P.funcs[f]? = some fn) (hc:Tri P f vs.toArray W0 H R)
    (k:∀ v H',R v H'→GL false P ops (i+1) Q n (Env.put E o.dst [] v) W0 H')
    (ho:ops[i]? = some o:=by exact rfl) (hop:o.op=.call c:=by exact rfl) (hce:c.callee=.value fo:=by exact rfl) (hfo:evO E [] fo=some (.func (.func f) #[] #[]):=by kernel_rfl) (hargs:evL (evO E []) c.args.toList=some vs:=by kernel_rfl)
    (hrt : (fn.name == "runtime.NumGoroutine") = false := by exact rfl) (hbody : fn.body.isNone = false := by exact rfl)
    (hch:D4 ops E o.guard=some []:=by kernel_rfl) (hd:F5 n [] o.dst=true:=by kernel_rfl):GL false P ops i Q n E W0 H :=
  I3 (fst:=#[]) (caps:=#[]) ho hop hce hfo hargs hf hrt hbody hch hd (fun _ _=>rfl) (by rw [show (#[]++vs.toArray++#[]:Array Value)=vs.toArray by simp]; exact hc) k
theorem G1 {d:Bool} {P:Program} {ops:Array Oper} {i:Nat} {Q:D7} {n:Fr} {E:Env} {W0:World} {H:List Grp} {o:Oper} {c:Call} {fo:Operand} {f:FuncId} {vs:List Value} {fn:Func} {v:Value}
    (hf:P.funcs[f]? = some fn) (hc:Tri P f vs.toArray W0 H (fun u H'=>u=v∧H'=H))
    (k:GL d P ops (i+1) Q n (Env.put E o.dst [] v) W0 H)
    (ho:ops[i]? = some o:=by exact rfl) (hop:o.op=.call c:=by exact rfl) (hce:c.callee=.value fo:=by exact rfl) (hfo:evO E [] fo=some (.func (.func f) #[] #[]):=by kernel_rfl) (hargs:evL (evO E []) c.args.toList=some vs:=by kernel_rfl)
    (hrt : (fn.name == "runtime.NumGoroutine") = false := by exact rfl) (hbody : fn.body.isNone = false := by exact rfl)
    (hch:D4 ops E o.guard=some []:=by kernel_rfl) (hd:F5 n [] o.dst=true:=by kernel_rfl):GL d P ops i Q n E W0 H :=
  GL_callQ (fst:=#[]) (caps:=#[]) ho hop hce hfo hargs hf hrt hbody hch hd rfl (fun _=>by rw [show (#[]++vs.toArray++#[]:Array Value)=vs.toArray by simp]; exact hc) k
theorem M8 {P:Program} {ops:Array Oper} {i:Nat} {Q:D7} {n:Fr} {E:Env} {W0:World} {H:List Grp} {o:Oper} {t:TypeId} {x y:Operand}
    {b:Nat} {c:Array Value} {e:TypeId} {fz:Nat × Nat} {g:Grp} (j off:Nat) (v:Value) (hj:H[j]? = some ((b,.cells c e fz)::g))
    (k:GL false P ops (i+1) Q n (Env.put E o.dst [] undef) W0 (H.set j ((b,.cells (setRow c off v.cells.toList) e fz)::g)))
    (ho:ops[i]? = some o:=by exact rfl) (hop:o.op=.store t x y:=by exact rfl) (hx:evO E [] x=some (.pointer (some ⟨b,off,none⟩)):=by kernel_rfl) (hy:evO E [] y=some v:=by kernel_rfl)
    (hsz:T5 P t=some v.cells.size:=by kernel_rfl) (h1:(v.cells.toList.all Value.oneCell')=true:=by kernel_rfl)
    (hch:D4 ops E o.guard=some []:=by kernel_rfl) (hd:F5 n [] o.dst=true:=by kernel_rfl)
    (hoff:Nat.ble (off+v.cells.size) c.size=true:=by kernel_rfl) (hfz:(List.range v.cells.size).all (fun k=>thawed fz (off+k))=true:=by kernel_rfl):GL false P ops i Q n E W0 H :=
  J8 (c':=setRow c off v.cells.toList) (m:=0) (j:=j) ho hop hx hy hsz h1 hch hd rfl hj rfl (Nat.le_of_ble_eq_true hoff)
    (fun k hk=>List.all_eq_true.1 hfz k (List.mem_range.2 hk)) rfl rfl k
theorem D0 {d:Bool} {P:Program} {ops:Array Oper} {i:Nat} {Q:D7} {n:Fr} {E:Env} {W0:World} {H:List Grp} {o:Oper} {t:TypeId} {x:Operand}
    {b:Nat} {c:Array Value} {e:TypeId} {fz:Nat × Nat} {g:Grp} {v:Value} (j off:Nat) (hj:H[j]? = some ((b,.cells c e fz)::g)) (hv:c[off]? = some v)
    (k:GL d P ops (i+1) Q n (Env.put E o.dst [] v) W0 H)
    (ho:ops[i]? = some o:=by exact rfl) (hop:o.op=.load t x:=by exact rfl) (hx:evO E [] x=some (.pointer (some ⟨b,off,none⟩)):=by kernel_rfl) (ht:aggB P t=some false:=by kernel_rfl)
    (hch:D4 ops E o.guard=some []:=by kernel_rfl) (hd:F5 n [] o.dst=true:=by kernel_rfl):GL d P ops i Q n E W0 H :=
  F9 ho hop hx ht hch hd rfl (At.grp j 0 hj rfl) hv k
def setV (E:List Sl) (t:Nat) (ch:List (Nat × Bool)) (v:Value):List Sl:=⟨t,ch,v⟩::E.filter fun s=>!(s.t==t)
theorem setV_sub {E:Env} {t:Nat} {ch:List (Nat × Bool)} {x y:Value} (hw:x=y) (h:Env.find E t=some ⟨t,ch,x⟩):∀ s,s∈setV E t ch y→s∈E:=by
  subst hw
  intro s hs
  rcases List.mem_cons.1 hs with rfl | hs
  · exact (Env.find_mem h).1
  · exact (List.mem_filter.1 hs).1
theorem L1 {d:Bool} {P:Program} {ops:Array Oper} {i:Nat} {Q:D7} {n:Fr} {E:Env} {W0:World} {H:List Grp} (t:Nat) (ch:List (Nat × Bool)) {x y:Value} (hw:x=y)
    (k:GL d P ops i Q n (setV E t ch y) W0 H) (h:Env.find E t=some ⟨t,ch,x⟩:=by kernel_rfl):GL d P ops i Q n E W0 H:=GL_sub (setV_sub hw h) k
theorem Y1 {d:Bool} {P:Program} {ops:Array Oper} {i:Nat} {Q:D7} {n:Fr} {E:Env} {W0:World} {H:List Grp} (t:Nat) {x y:Value} (hw:x=y)
    (k:GL d P ops i Q n (setV E t [] y) W0 H) (h:Env.find E t=some ⟨t,[],x⟩:=by kernel_rfl):GL d P ops i Q n E W0 H:=L1 t [] hw k h
theorem GL_laq {d:Bool} {P:Program} {ops:Array Oper} {i:Nat} {Q:D7} {n:Fr} {E:Env} {W0:World} {H:List Grp} {o:Oper} {t:TypeId} {x:Operand}
    {b:Nat} {c:Array Value} {e:TypeId} {fz:Nat × Nat} {g:Grp} (j off m:Nat) (hj:H[j]? = some ((b,.cells c e fz)::g))
    (k:GL d P ops (i+1) Q n (Env.put E o.dst [] (.agg ((c.toList.drop off).take m).toArray)) W0 H)
    (ho:ops[i]? = some o:=by exact rfl) (hop:o.op=.load t x:=by exact rfl) (hx:evO E [] x=some (.pointer (some ⟨b,off,none⟩)):=by kernel_rfl) (ht:aggB P t=some true:=by kernel_rfl) (hz:T5 P t=some m:=by kernel_rfl)
    (hch:D4 ops E o.guard=some []:=by kernel_rfl) (hd:F5 n [] o.dst=true:=by kernel_rfl) (hl:Nat.ble (off+m) c.size=true:=by kernel_rfl):GL d P ops i Q n E W0 H:=by
  have hm:((c.toList.drop off).take m).length=m:=by
    have:=Nat.le_of_ble_eq_true hl
    rw [List.length_take,List.length_drop,Array.length_toList]; omega
  exact GL_loadA (l:=(c.toList.drop off).take m) ho hop hx ht (by rw [hm]; exact hz) hch hd rfl (At.grp j 0 hj rfl) (by rw [hm]) k
theorem O0 {P:Program} {ops:Array Oper} {i:Nat} {Q:D7} {n:Fr} {E:Env} {W0:World} {H:List Grp} {o:Oper} {t:TypeId} (z:Value)
    (k:∀ b,GL false P ops (i+1) Q n (Env.put E o.dst [] (.pointer (some ⟨b,0,none⟩))) W0 ([(b,.cells z.cells t)]::H))
    (ho:ops[i]? = some o:=by exact rfl) (hop:o.op=.alloc t:=by exact rfl) (hz:zeroV P t=some z:=by kernel_rfl) (hch:D4 ops E o.guard=some []:=by kernel_rfl) (hd:F5 n [] o.dst=true:=by kernel_rfl):GL false P ops i Q n E W0 H :=
  GL_alloc ho hop hz hch hd rfl k
theorem O9 {P:Program} {ops:Array Oper} {i:Nat} {Q:D7} {n:Fr} {E:Env} {W0:World} {H:List Grp} {o:Oper} {t:TypeId} {x:Operand} (v:Value)
    (k:∀ b,GL false P ops (i+1) Q n (Env.put E o.dst [] (.pointer (some ⟨b,0,none⟩))) W0 ([(b,.cells v.cells t)]::H))
    (ho:ops[i]? = some o:=by exact rfl) (hop:o.op=.box t x:=by exact rfl) (hx:evO E [] x=some v:=by kernel_rfl) (hch:D4 ops E o.guard=some []:=by kernel_rfl) (hd:F5 n [] o.dst=true:=by kernel_rfl):GL false P ops i Q n E W0 H :=
  GL_box ho hop hx hch hd rfl k
theorem A0p {d:Bool} {P:Program} {ops:Array Oper} {i:Nat} {Q:D7} {n:Fr} {E:Env} {W0:World} {H:List Grp} {o:Oper} {c:Call} {fo:Operand} {f:FuncId} {vs:List Value} {fn:Func} {v:Value} (ch:List (Nat × Bool))
    (hf:P.funcs[f]? = some fn) (hc:chB E ch→Tri P f vs.toArray W0 H (fun u H'=>u=v∧H'=H))
    (k:GL d P ops (i+1) Q n (Env.put E o.dst ch v) W0 H)
    (ho:ops[i]? = some o:=by exact rfl) (hop:o.op=.call c:=by exact rfl) (hce:c.callee=.value fo:=by exact rfl) (hfo:evO E ch fo=some (.func (.func f) #[] #[]):=by kernel_rfl) (hargs:evL (evO E ch) c.args.toList=some vs:=by kernel_rfl)
    (hrt : (fn.name == "runtime.NumGoroutine") = false := by exact rfl) (hbody : fn.body.isNone = false := by exact rfl)
    (hch:D4 ops E o.guard=some ch:=by kernel_rfl) (hd:F5 n ch o.dst=true:=by kernel_rfl) (hk:J3 E ch=true:=by kernel_rfl):GL d P ops i Q n E W0 H :=
  GL_callQ (fst:=#[]) (caps:=#[]) ho hop hce hfo hargs hf hrt hbody hch hd hk (fun h=>by rw [show (#[]++vs.toArray++#[]:Array Value)=vs.toArray by simp]; exact hc h) k
def intW:Value→Option Int | .int _ j=>some j | _=>none
theorem intW_ex {x:Option Value} {j:Int} (h:x.bind intW=some j):∃ kd,x=some (.int kd j):=by
  cases x with
  | none=>cases h
  | some v =>
    cases v <;> first | (cases h; done) | skip
    rename_i kd a
    simp only [Option.bind_some,intW,Option.some.injEq] at h
    subst h
    exact ⟨kd,rfl⟩
theorem GL_ixq {d:Bool} {P:Program} {ops:Array Oper} {i:Nat} {Q:D7} {n:Fr} {E:Env} {W0:World} {H:List Grp} {o:Oper} {t:TypeId} {x ix:Operand} (s:ByteArray) (j:Int)
    (hb:chB E []→0≤j∧j<s.size)
    (k:GL d P ops (i+1) Q n (Env.put E o.dst [] (.int .u8 (G9 s j))) W0 H)
    (ho:ops[i]? = some o:=by exact rfl) (hop:o.op=.index t x ix:=by exact rfl) (hx:evO E [] x=some (.string s):=by kernel_rfl) (hix:(evO E [] ix).bind intW=some j:=by kernel_rfl) (hu:P.underlying t=some .string:=by kernel_rfl)
    (hch:D4 ops E o.guard=some []:=by kernel_rfl) (hd:F5 n [] o.dst=true:=by kernel_rfl):GL d P ops i Q n E W0 H :=
  let ⟨_,h⟩:=intW_ex hix
  GL_index ho hop hx h hu hch hd rfl hb k
theorem bind_ex {α β:Type} {x:Option α} {f:α→Option β} {y:β} (h:x.bind f=some y):∃ a,x=some a∧f a=some y:=by
  cases x with
  | none=>cases h
  | some a=>exact ⟨a,rfl,h⟩
theorem GL_slq {d:Bool} {P:Program} {ops:Array Oper} {i:Nat} {Q:D7} {n:Fr} {E:Env} {W0:World} {H:List Grp} {o:Oper} {t:TypeId} {x:Operand} {lo hi:Option Operand} (s:ByteArray) (l h:Int)
    (hb:chB E []→0≤l∧l≤h∧h≤s.size)
    (k:GL d P ops (i+1) Q n (Env.put E o.dst [] (.string (s.extract l.toNat h.toNat))) W0 H)
    (ho:ops[i]? = some o:=by exact rfl) (hop:o.op=.slice t x lo hi none:=by exact rfl) (hx:evO E [] x=some (.string s):=by kernel_rfl) (hl:(evOO (evO E []) lo).bind loV=some l:=by kernel_rfl) (hh:(evOO (evO E []) hi).bind (hiV s.size)=some h:=by kernel_rfl) (hu:P.underlying t=some .string:=by kernel_rfl)
    (hch:D4 ops E o.guard=some []:=by kernel_rfl) (hd:F5 n [] o.dst=true:=by kernel_rfl):GL d P ops i Q n E W0 H :=
  let ⟨_,h1,h2⟩:=bind_ex hl
  let ⟨_,h3,h4⟩:=bind_ex hh
  GL_sliceS ho hop hx h1 h3 hu h2 h4 hch hd rfl hb k
theorem Z2 {d:Bool} {P:Program} {ops:Array Oper} {i:Nat} {Q:D7} {n:Fr} {E:Env} {W0:World} {H:List Grp} {o:Oper} {t t2:TypeId} {x y:Operand} (s u:ByteArray)
    (hb:chB E []→s.size+u.size≤9223372036854775807)
    (k:GL d P ops (i+1) Q n (Env.put E o.dst [] (.string (s++u))) W0 H)
    (ho:ops[i]? = some o:=by exact rfl) (hop:o.op=.binOp .add t x y t2:=by exact rfl) (hx:evO E [] x=some (.string s):=by kernel_rfl) (hy:evO E [] y=some (.string u):=by kernel_rfl)
    (hch:D4 ops E o.guard=some []:=by kernel_rfl) (hd:F5 n [] o.dst=true:=by kernel_rfl):GL d P ops i Q n E W0 H :=
  GL_concat ho hop hx hy hch hd rfl hb k
end Go.Sw
namespace Go.Sw
open Go.RowKit
def Rd (S:Nat→Obj→Prop) (a:Option Addr) (cs:List Value):Prop :=
  cs=[]∨∃ b off c e fz,a=some ⟨b,off,none⟩∧S b (.cells c e fz)∧∀ (j:Nat) (u:Value),cs[j]? = some u→c[off+j]? = some u
def inG (g:Grp):Nat→Obj→Prop:=fun b o=>(b,o)∈g
def inB (W0:World):Nat→Obj→Prop:=fun b o=>b<W0.heap.size∧W0.heap[b]? = some o
theorem H6 {W0:World} {H:List Grp} {g:Grp} (j:Nat) (hj:H[j]? = some g):∀ b o,inG g b o→At W0 H b o:=fun _ _ h=>At.mem (List.mem_of_getElem? hj) h
theorem at_inB {W0:World} {H:List Grp}:∀ b o,inB W0 b o→At W0 H b o:=fun _ _ h=>.inl h
theorem Rd.mono {S S':Nat→Obj→Prop} {a:Option Addr} {cs:List Value} (h:Rd S a cs) (hs:∀ b o,S b o→S' b o):Rd S' a cs:=by
  rcases h with h | ⟨b,off,c,e,fz,h1,h2,h3⟩
  · exact .inl h
  · exact .inr ⟨b,off,c,e,fz,h1,hs _ _ h2,h3⟩
theorem Rd.lit {b:Nat} {c:List Value} {e:TypeId} {fz:Nat × Nat}:Rd (inG [(b,.cells c.toArray e fz)]) (some ⟨b,0,none⟩) c :=
  .inr ⟨b,0,_,_,_,rfl,List.mem_singleton.2 rfl,fun j u h=>by rw [Nat.zero_add]; simpa using h⟩
def Y5 (ws:List ByteArray):List Value:=ws.map Value.string
theorem strs_at {ws:List ByteArray} {k:Nat} (h:k<ws.length):(Y5 ws)[k]? = some (.string (ws.getD k default)):=by
  simp [Y5,h]
def eltA (a:Option Addr) (k:Nat):Addr:=(a.getD default).add k
theorem Rd.elt {S:Nat→Obj→Prop} {a:Option Addr} {cs:List Value} (h:Rd S a cs) {k:Nat} {v:Value} (hv:cs[k]? = some v) :
    ∃ b off c e fz,a=some ⟨b,off,none⟩∧S b (.cells c e fz)∧eltA a k=⟨b,off+k,none⟩∧c[off+k]? = some v:=by
  rcases h with h | ⟨b,off,c,e,fz,h1,h2,h3⟩
  · subst h; simp at hv
  · exact ⟨b,off,c,e,fz,h1,h2,by rw [h1]; exact L5 b off k,h3 k v hv⟩
theorem I7 {d:Bool} {P:Program} {ops:Array Oper} {i:Nat} {Q:D7} {n:Fr} {E:Env} {W0:World} {H:List Grp} {o:Oper} {ch:List (Nat × Bool)} {t e:TypeId} {x ix:Operand} {a:Option Addr} {len cap sz:Nat} {kd:IntKind} {j:Int} {S:Nat→Obj→Prop} {cs:List Value}
    (ho:ops[i]? = some o:=by exact rfl) (hop:o.op=.indexAddr t x ix:=by exact rfl) (hx:evO E ch x=some (.slice a len cap):=by kernel_rfl) (hix:evO E ch ix=some (.int kd j):=by kernel_rfl) (hu:P.underlying t=some (.slice e):=by kernel_rfl) (hsz:T5 P e=some sz:=by kernel_rfl)
    (hch:D4 ops E o.guard=some ch:=by kernel_rfl) (hd:F5 n ch o.dst=true:=by kernel_rfl) (hk:J3 E ch=true:=by kernel_rfl)
    (hrd:Rd S a cs) (hb:chB E ch→0≤j∧j<len∧cs≠[])
    (k:GL d P ops (i+1) Q n (Env.put E o.dst ch (.pointer (some (eltA a (j.toNat * sz))))) W0 H):GL d P ops i Q n E W0 H:=by
  refine I2 ho hch hd hk (fun r hr hcb w _=>?_) k
  obtain ⟨h0,h1,h2⟩:=hb hcb
  have ha:∃ b,a=some b:=by
    rcases hrd with h | ⟨b,off,_,_,_,h,_⟩
    · exact absurd h h2
    · exact ⟨_,h⟩
  obtain ⟨b,rfl⟩:=ha
  unfold execOp
  simp only [hop]
  rw [hr _ _ hx,hr _ _ hix]
  simp only [Instr.indexAt,asIntOf,Sem.run_bind,Sem.run_pure,Result.andThen_ok,run_underlying hu,Bool.and_false,if_pos (⟨h0,h1⟩:0≤j∧j<(len:Int)),J1 hsz]
  exact ⟨rfl,rfl⟩
theorem R7 {d:Bool} {P:Program} {ops:Array Oper} {i:Nat} {Q:D7} {n:Fr} {E:Env} {W0:World} {H:List Grp} {o:Oper} {ch:List (Nat × Bool)} {t:TypeId} {x:Operand} {a:Option Addr} {q:Nat} {S:Nat→Obj→Prop} {cs:List Value} {v:Value}
    (ho:ops[i]? = some o:=by exact rfl) (hop:o.op=.load t x:=by exact rfl) (hx:evO E ch x=some (.pointer (some (eltA a q))):=by kernel_rfl) (ht:aggB P t=some false:=by kernel_rfl)
    (hch:D4 ops E o.guard=some ch:=by kernel_rfl) (hd:F5 n ch o.dst=true:=by kernel_rfl) (hk:J3 E ch=true:=by kernel_rfl)
    (hrd:Rd S a cs) (hS:∀ b o,S b o→At W0 H b o) (hv:chB E ch→cs[q]? = some v)
    (k:GL d P ops (i+1) Q n (Env.put E o.dst ch v) W0 H):GL d P ops i Q n E W0 H:=by
  refine I2 ho hch hd hk (fun r hr hcb w hs=>?_) k
  obtain ⟨b,off,c,e,fz,h1,h2,h3,h4⟩:=hrd.elt (hv hcb)
  unfold execOp
  simp only [hop]
  rw [hr _ _ hx,h3]
  simp only [Instr.loadAt,Instr.sureAddr,loadVar,Sem.run_bind,Sem.run_pure,Result.andThen_ok,Q9 ht,Bool.false_eq_true,if_false,run_load,A0l (hs.at (hS _ _ h2)) h4]
  exact ⟨rfl,rfl⟩
theorem L0 {d:Bool} {P:Program} {ops:Array Oper} {i:Nat} {Q:D7} {n:Fr} {E:Env} {W0:World} {H:List Grp} {o:Oper} {ch:List (Nat × Bool)} {t:TypeId} {x:Operand} {a:Option Addr} {q:Nat} {S:Nat→Obj→Prop} {cs l:List Value}
    (ho:ops[i]? = some o:=by exact rfl) (hop:o.op=.load t x:=by exact rfl) (hx:evO E ch x=some (.pointer (some (eltA a q))):=by kernel_rfl) (ht:aggB P t=some true:=by kernel_rfl) (hsz:T5 P t=some l.length:=by kernel_rfl)
    (hch:D4 ops E o.guard=some ch:=by kernel_rfl) (hd:F5 n ch o.dst=true:=by kernel_rfl) (hk:J3 E ch=true:=by kernel_rfl)
    (hrd:Rd S a cs) (hS:∀ b o,S b o→At W0 H b o) (hl:l≠[]) (hv:chB E ch→∀ m (hm:m<l.length),cs[q+m]? = some l[m])
    (k:GL d P ops (i+1) Q n (Env.put E o.dst ch (.agg l.toArray)) W0 H):GL d P ops i Q n E W0 H:=by
  refine I2 ho hch hd hk (fun r hr hcb w hs=>?_) k
  have hv':=hv hcb
  have hpos:0<l.length:=by cases l with | nil=>exact absurd rfl hl | cons _ _=>simp
  obtain ⟨b,off,c,e,fz,h1,h2,h3,h4⟩:=hrd.elt (k:=q) (v:=l[0]) (by have:=hv' 0 hpos; simpa using this)
  rcases hrd with hn | ⟨b',off',c',e',fz',h1',h2',h3'⟩
  · have:=hv' 0 hpos; rw [hn] at this; simp at this
  · rw [h1'] at h1
    injection h1 with h1
    injection h1 with hb ho'
    subst hb; subst ho'
    unfold execOp
    simp only [hop]
    rw [hr _ _ hx,h3]
    simp only [Instr.loadAt,Instr.sureAddr,loadVar,Sem.run_bind,Sem.run_pure,Result.andThen_ok,Q9 ht,if_true,J1 hsz,loadCells,
      V2 (P:=P) (off:=off'+q) (hs.at (hS _ _ h2')) l 0 #[] (fun m hm=>by
        have:=h3' _ _ (hv' m hm)
        rw [Nat.add_zero,Nat.add_assoc]; exact this)]
    exact ⟨rfl,by simp⟩
def I9 (a:Option Addr) (cap l sz:Nat):Option Addr:=if cap=l then a else a.map (·.add (l * sz))
theorem Rd.cut {S:Nat→Obj→Prop} {a:Option Addr} {cs:List Value} (h:Rd S a cs) {cap l sz m:Nat} (hl:cap=l→m=0):Rd S (I9 a cap l sz) ((cs.drop (l * sz)).take m):=by
  rcases h with h | ⟨b,off,c,e,fz,h1,h2,h3⟩
  · exact .inl (by simp [h])
  · by_cases hc:cap=l
    · exact .inl (by rw [hl hc]; simp)
    · refine .inr ⟨b,off+l * sz,c,e,fz,?_,h2,?_⟩
      · rw [I9,if_neg hc,h1]; simp [L5]
      · intro j u hj
        rw [List.getElem?_take] at hj
        split at hj
        · rw [List.getElem?_drop] at hj
          rw [Nat.add_assoc]; exact h3 _ _ hj
        · simp at hj
theorem O2 {d:Bool} {P:Program} {ops:Array Oper} {i:Nat} {Q:D7} {n:Fr} {E:Env} {W0:World} {H:List Grp} {o:Oper} {ch:List (Nat × Bool)} {t e:TypeId} {x:Operand} {lo hi:Option Operand} {a:Option Addr} {len cap sz:Nat} {vl vh:Option Value} {l h:Int}
    (ho:ops[i]? = some o:=by exact rfl) (hop:o.op=.slice t x lo hi none:=by exact rfl) (hx:evO E ch x=some (.slice a len cap):=by kernel_rfl) (hvl:evOO (evO E ch) lo=some vl:=by kernel_rfl) (hvh:evOO (evO E ch) hi=some vh:=by kernel_rfl) (hu:P.underlying t=some (.slice e):=by kernel_rfl) (hsz:T5 P e=some sz:=by kernel_rfl)
    (hl:loV vl=some l:=by kernel_rfl) (hh:hiV len vh=some h:=by kernel_rfl)
    (hch:D4 ops E o.guard=some ch:=by kernel_rfl) (hd:F5 n ch o.dst=true:=by kernel_rfl) (hk:J3 E ch=true:=by kernel_rfl)
    (hb:chB E ch→0≤l∧l≤h∧h≤cap)
    (k:GL d P ops (i+1) Q n (Env.put E o.dst ch (.slice (I9 a cap l.toNat sz) (h.toNat - l.toNat) (cap - l.toNat))) W0 H):GL d P ops i Q n E W0 H:=by
  refine I2 ho hch hd hk (fun r hr hcb w _=>?_) k
  obtain ⟨h0,h1,h2⟩:=hb hcb
  have hm:∀ {y:Option Operand} {v:Option Value},evOO (evO E ch) y=some v→y.map r=v:=by
    intro y v hv
    cases y with
    | none=>simp only [evOO,Option.some.injEq] at hv; subst hv; rfl
    | some y =>
      simp only [evOO] at hv
      split at hv
      · rename_i u hu; injection hv with hv; subst hv; simp [hr _ _ hu]
      · simp at hv
  unfold execOp
  simp only [hop]
  rw [hr _ _ hx,hm hvl,hm hvh]
  simp only [Instr.sliceAt,Instr.slice,Sem.run_bind,run_underlying hu,Result.andThen_ok,Option.map_none,
    X1 (P:=P) (isSlice:=true) hl hh h0 h1 h2,J1 hsz,Sem.run_pure]
  exact ⟨rfl,rfl⟩
def Own (et:TypeId) (sz:Nat) (v:Value) (g:Grp) (n:Nat) (cs:List Value):Prop :=
  cs.length=n * sz∧((v=.slice none 0 0∧g=[]∧n=0)∨∃ b cap junk,v=.slice (some ⟨b,0,none⟩) n cap∧g=[(b,.cells (cs++junk).toArray et (0,0))]∧n≤cap∧(cs++junk).length=cap * sz)
theorem Own.nil {et:TypeId} {sz:Nat}:Own et sz (.slice none 0 0) [] 0 []:=⟨by simp,.inl ⟨rfl,rfl,rfl⟩⟩
theorem Own.lit {et:TypeId} {sz b n:Nat} {cs:List Value} (h:cs.length=n * sz):Own et sz (.slice (some ⟨b,0,none⟩) n n) [(b,.cells cs.toArray et (0,0))] n cs :=
  ⟨h,.inr ⟨b,n,[],rfl,by simp,Nat.le_refl _,by simpa using h⟩⟩
theorem Own.shape {et:TypeId} {sz:Nat} {v:Value} {g:Grp} {n:Nat} {cs:List Value} (h:Own et sz v g n cs):∃ a cap,v=.slice a n cap∧n≤cap∧Rd (inG g) a cs:=by
  obtain ⟨hl,⟨rfl,rfl,rfl⟩ | ⟨b,cap,junk,rfl,rfl,hc,hj⟩⟩:=h
  · exact ⟨none,0,rfl,Nat.le_refl _,.inl (by cases cs with | nil=>rfl | cons _ _=>simp at hl)⟩
  · refine ⟨_,_,rfl,hc,.inr ⟨b,0,_,_,_,rfl,List.mem_singleton.2 rfl,fun j u hu=>?_⟩⟩
    have:j<cs.length:=by
      rcases Nat.lt_or_ge j cs.length with h | h
      · exact h
      · rw [List.getElem?_eq_none h] at hu; simp at hu
    rw [List.getElem?_toArray,Nat.zero_add,List.getElem?_append_left this]
    exact hu
inductive SrcOf (S:Nat→Obj→Prop):Value→Nat→List Value→Prop
  | slice (a:Option Addr) (m cap:Nat) (cs:List Value) (h:Rd S a cs) (h0:a=none→m=0):SrcOf S (.slice a m cap) m cs
  | str (s:ByteArray):SrcOf S (.string s) s.size (byteCells s)
theorem V9:∀ (l:List Value) (pre post:List Value) (old:List Value),old.length=l.length→setRow (pre++old++post).toArray pre.length l=(pre++l++post).toArray
  | [],pre,post,old,h=>by
    have:old=[]:=by cases old with | nil=>rfl | cons _ _=>simp at h
    subst this; simp [setRow]
  | v::l,pre,post,old,h=>by
    cases old with
    | nil=>simp at h
    | cons x old =>
      simp only [setRow]
      have e1:((pre++x::old++post).toArray.setIfInBounds pre.length v)=((pre++[v])++old++post).toArray:=by
        simp
      rw [e1]
      have:=V9 l (pre++[v]) post old (by simpa using h)
      simp only [List.length_append,List.length_cons,List.length_nil,Nat.zero_add] at this
      rw [this]
      simp
theorem srcOf_run {P:Program} {S:Nat→Obj→Prop} {x:Value} {m sz:Nat} {cs:List Value} {tx:TypeId} (h:SrcOf S x m cs) (hk:(∃ e',P.underlying tx=some (.slice e'))∨(P.underlying tx=some .string∧sz=1))
    (hks:(∃ s,x=.string s)→sz=1∧P.underlying tx=some .string) (hkl:(∃ a n c,x=.slice a n c)→∃ e',P.underlying tx=some (.slice e')) (hl:cs.length=m * sz) (h1:∀ u∈cs,u.oneCell'=true) {w:World} (hS:∀ b o,S b o→w.heap[b]? = some o):Src P sz tx x m cs w:=by
  cases h with
  | slice a m cap cs hrd h0 =>
    obtain ⟨e',he⟩:=hkl ⟨_,_,_,rfl⟩
    rcases hrd with hn | ⟨b,off,c,e,fz,h2,h3,h4⟩
    · subst hn
      cases a with
      | none =>
        have:=h0 rfl; subst this
        exact Src.ofNil w he cap
      | some a=>exact Src.ofSlice w he a m cap [] hl (fun j u hu=>by simp at hu) (fun u hu=>by simp at hu)
    · subst h2
      refine Src.ofSlice w he _ m cap cs hl (fun j u hu=>?_) h1
      rw [L5]
      exact A0l (hS _ _ h3) (h4 j u hu)
  | str s =>
    obtain ⟨rfl,hs⟩:=hks ⟨s,rfl⟩
    exact Src.ofString w hs s
theorem set_perm:∀ {H:List Grp} {j:Nat} {g:Grp} (g':Grp),H[j]? = some g→(H.set j g').Perm (g'::H.eraseIdx j)
  | [],j,g,g',h=>by simp at h
  | x::H,0,g,g',h=>by simp
  | x::H,j+1,g,g',h=>by
    simp only [List.set_cons_succ,List.eraseIdx_cons_succ]
    exact (List.Perm.cons x (set_perm g' (by simpa using h))).trans (List.Perm.swap _ _ _)
theorem sublist_flatten {α:Type} {A B:List (List α)} (h:A.Sublist B):A.flatten.Sublist B.flatten:=by
  induction h with
  | slnil=>exact List.Sublist.refl _
  | cons a _ ih=>simp only [List.flatten_cons]; exact ih.trans (List.sublist_append_right _ _)
  | cons_cons a _ ih=>simp only [List.flatten_cons]; exact List.Sublist.append (List.Sublist.refl _) ih
theorem Sat.replace {W0:World} {H:List Grp} {g g':Grp} {j:Nat} {w:World} (h:Sat W0 (g'::H) w) (hj:H[j]? = some g):Sat W0 (H.set j g') w:=by
  refine Sat.perm ?_ (set_perm g' hj).symm
  refine h.subl ?_
  simp only [List.flatten_cons]
  exact List.Sublist.append (List.Sublist.refl _) (sublist_flatten (List.eraseIdx_sublist _ _))
theorem At.cons {W0:World} {H:List Grp} {g:Grp} {b:Nat} {o:Obj} (h:At W0 H b o):At W0 (g::H) b o:=by
  rcases h with h | h
  · exact .inl h
  · exact .inr (by simp only [List.flatten_cons,List.mem_append]; exact .inr h)
theorem Sat.erase {W0:World} {H:List Grp} {w:World} (h:Sat W0 H w) (j:Nat):Sat W0 (H.eraseIdx j) w:=h.subl (sublist_flatten (List.eraseIdx_sublist _ _))
theorem erase_perm:∀ {H:List Grp} {j:Nat} {g:Grp},H[j]? = some g→H.Perm (g::H.eraseIdx j)
  | [],j,g,h=>by simp at h
  | x::H,0,g,h=>by simp at h; simp [h]
  | x::H,j+1,g,h=>by
    simp only [List.eraseIdx_cons_succ]
    exact (List.Perm.cons x (erase_perm (by simpa using h))).trans (List.Perm.swap _ _ _)
def pk (m:Nat):List Nat→List Grp→List Grp
  | [],H=>H.drop m
  | j::js,H=>H.getD j []::pk m js (H.eraseIdx j)
theorem pick1 (H:List Grp) (j:Nat):H.flatten.Perm (H.getD j []::H.eraseIdx j).flatten:=by
  cases h:H[j]? with
  | none =>
    have hj:H.length≤j:=List.getElem?_eq_none_iff.1 h
    rw [List.getD_eq_getElem?_getD,h,List.eraseIdx_of_length_le hj]; exact List.Perm.refl _
  | some g=>rw [List.getD_eq_getElem?_getD,h]; exact (erase_perm h).flatten
theorem Sat.pk {W0:World} {w:World} (m:Nat) (js:List Nat):∀ {H:List Grp},Sat W0 H w→Sat W0 (pk m js H) w:=by
  have key:∀ (js:List Nat) (H:List Grp),∃ X:Grp,H.flatten.Perm (X++(Go.Sw.pk m js H).flatten):=by
    intro js
    induction js with
    | nil=>intro H; exact ⟨(H.take m).flatten,by rw [Go.Sw.pk,← List.flatten_append,List.take_append_drop]⟩
    | cons j js ih =>
      intro H
      obtain ⟨X,hX⟩:=ih (H.eraseIdx j)
      refine ⟨X,(pick1 H j).trans ?_⟩
      rw [Go.Sw.pk,List.flatten_cons,List.flatten_cons]
      refine (hX.append_left _).trans ?_
      rw [← List.append_assoc,← List.append_assoc]
      exact List.perm_append_comm.append_right _
  intro H h
  obtain ⟨X,hX⟩:=key js H
  exact Sat.tail (g:=X) (h.flat (by rw [List.flatten_cons]; exact hX))
theorem Z6 {d:Bool} {P:Program} {ops:Array Oper} {i:Nat} {Q:D7} {n:Fr} {E:Env} {W0:World} {H:List Grp} (m:Nat) (js:List Nat) (k:GL d P ops i Q n E W0 (pk m js H)) (hd:d=false:=by exact rfl):GL d P ops i Q n E W0 H:=by
  subst hd; exact fun a w ha h=>k a w ha (h.pk m js)
theorem N_pk {Q:D7} {x:Exit} {n:Fr} {E:Env} {W0:World} {H:List Grp} (m:Nat) (js:List Nat) (k:N Q x n E W0 (pk m js H)):N Q x n E W0 H:=fun a w ha h=>k a w ha (h.pk m js)
theorem G_pk {P:Program} {c:Code} {Q:D7} {n:Fr} {E:Env} {W0:World} {H:List Grp} (m:Nat) (js:List Nat) (k:G P c Q n E W0 (pk m js H)):G P c Q n E W0 H:=fun a w ha h=>k a w ha (h.pk m js)
theorem N_pkT {Q:D7} {x:Exit} {n:Fr} {E:Env} {W0:World} {H:List Grp} (m:Nat) (js:List Nat) (H':List Grp) (k:N Q x n E W0 H') (h:pk m js H=H':=by kernel_rfl):N Q x n E W0 H:=N_pk m js (by rw [h]; exact k)
theorem G_pkT {P:Program} {c:Code} {Q:D7} {n:Fr} {E:Env} {W0:World} {H:List Grp} (m:Nat) (js:List Nat) (H':List Grp) (k:G P c Q n E W0 H') (h:pk m js H=H':=by kernel_rfl):G P c Q n E W0 H:=G_pk m js (by rw [h]; exact k)
theorem Sat.pkT {W0:World} {w:World} (m:Nat) (js:List Nat) {H H':List Grp} (h:Sat W0 H w) (he:Go.Sw.pk m js H=H':=by kernel_rfl):Sat W0 H' w:=he ▸ h.pk m js
theorem X9 {P:Program} {f:FuncId} {args:Array Value} {W0:World} {H:List Grp} {v:Value}
    (h:∀ w,Sat W0 H w→Calls P f args w fun e w'=>e=.returned v∧Below w.heap.size w w'):Tri P f args W0 H (fun u H'=>u=v∧H'=H) :=
  fun w hs=>(h w hs).mono fun e w' ⟨he,hb⟩=>⟨v,H,he,⟨rfl,rfl⟩,by
    have hlt:∀ p,p∈H.flatten→p.1<w.heap.size:=fun p hp=>by
      have:=hs.has p hp
      rcases Nat.lt_or_ge p.1 w.heap.size with h' | h'
      · exact h'
      · simp [Array.getElem?_eq_none h'] at this
    exact ⟨hs.below.trans (hb.mono hs.below.size),hs.nodup,fun p hp=>by rw [hb.block _ (hlt p hp)]; exact hs.has p hp,hs.high⟩⟩
theorem run_append_room {P:Program} {w:World} {t tx ty e:TypeId} {inf:TypeInfo} (ht:P.underlying t=some (.slice e)) (hi:P.info? e=some inf) {b sLen sCap:Nat} {x:Value} {m:Nat} {news:List Value} (hs:Src P inf.size tx x m news w)
    (hroom:sLen+m≤sCap) {w':World} (hst:(storeCells ⟨b,sLen * inf.size,none⟩ news 0).run P w=.ok () w') :
    (Builtin.append_ #[t,tx] ty #[.slice (some ⟨b,0,none⟩) sLen sCap,x]).run P w=.ok (.slice (some ⟨b,0,none⟩) (sLen+m) sCap) w':=by
  have ha:(⟨b,0,none⟩:Addr).add (sLen * inf.size)=⟨b,sLen * inf.size,none⟩:=by rw [L5,Nat.zero_add]
  rcases hs.kind with ⟨e',hk⟩ | hk <;> simp [Builtin.append_,run_underlying ht,run_underlying hk,sizeOf,typeInfo,hi,hs.len,hroom,hs.cells,ha,hst]
theorem T9 (z:Array Value) (m:Nat):(Builtin.zeroCells z m).size=m * z.size:=by simp [Builtin.zeroCells]
theorem M0 {P:Program} {ops:Array Oper} {i:Nat} {Q:D7} {q:Fr} {E:Env} {W0:World} {H:List Grp} {o:Oper} {ch:List (Nat × Bool)} {c:Call} {t tx e:TypeId} {inf:TypeInfo} {z s x:Value} {n m j:Nat} {cs news:List Value} {g:Grp} {S:Nat→Obj→Prop}
    (ho:ops[i]? = some o:=by exact rfl) (hop:o.op=.call c:=by exact rfl) (hce:c.callee=.builtin .append:=by exact rfl) (hat:c.argTypes=#[t,tx]:=by exact rfl) (hargs:evL (evO E ch) c.args.toList=some [s,x]:=by kernel_rfl)
    (ht:P.underlying t=some (.slice e):=by kernel_rfl) (hi:P.info? e=some inf:=by kernel_rfl) (hz:inf.zero=some z:=by exact rfl) (hzs:z.cells.size=inf.size:=by exact rfl)
    (hkind:(∃ e',P.underlying tx=some (.slice e'))∨(P.underlying tx=some .string∧inf.size=1))
    (hks:(∃ s,x=.string s)→inf.size=1∧P.underlying tx=some .string) (hkl:(∃ a n c,x=.slice a n c)→∃ e',P.underlying tx=some (.slice e'))
    (hch:D4 ops E o.guard=some ch:=by kernel_rfl) (hd:F5 q ch o.dst=true:=by kernel_rfl) (hsure:N9 E ch=true:=by kernel_rfl)
    (hj:H[j]? = some g:=by exact rfl) (hown:Own e inf.size s g n cs) (hsrc:SrcOf S x m news) (hS:∀ b o,S b o→At W0 H b o) (hl:news.length=m * inf.size:=by exact rfl) (h1:∀ u∈news,u.oneCell'=true)
    (hmax:n+m≤9223372036854775807) (hbytes:(n+m) * inf.bytes≤140737488355328)
    (k:∀ v g',Own e inf.size v g' (n+m) (cs++news)→GL false P ops (i+1) Q q (Env.put E o.dst ch v) W0 (H.set j g')):GL false P ops i Q q E W0 H:=by
  refine Z1 (R:=fun v H1=>∃ g',Own e inf.size v g' (n+m) (cs++news)∧H1=H.set j g') ho hch hd hsure (fun r hr w hs=>?_) (by rintro v H1 ⟨g',ho',rfl⟩; exact k v g' ho')
  have hS':∀ b o,S b o→w.heap[b]? = some o:=fun b o h=>hs.at (hS b o h)
  have hsrc':Src P inf.size tx x m news w:=srcOf_run hsrc hkind hks hkl hl h1 hS'
  have hexec:∀ {v:Value} {w':World},(Builtin.append_ #[t,tx] o.type #[s,x]).run P w=.ok v w'→(execOp r o).run P w=.ok (.value v) w':=by
    intro v w' h
    unfold execOp
    simp only [hop,resolve,hce,hat,O1 hr hargs,Sem.run_bind,Sem.run_pure,Result.andThen_ok,invoke,Go.builtin,h]
  have hlen2:(cs++news).length=(n+m) * inf.size:=by
    rw [List.length_append,hown.1,hl,Nat.add_mul]
  have hsame:H.set j g=H:=by
    apply List.ext_getElem?
    intro q
    rw [List.getElem?_set]
    split
    · rename_i e1; subst e1; split
      · exact hj.symm
      · rename_i hlt; rw [List.getElem?_eq_none (by omega)]
    · rfl
  obtain ⟨hlc,⟨rfl,rfl,rfl⟩ | ⟨b,cap,junk,rfl,rfl,hcap,hjunk⟩⟩:=hown
  · have hcs:cs=[]:=by cases cs with | nil=>rfl | cons _ _=>simp at hlc
    subst hcs
    by_cases hm:m=0
    · subst hm
      have hn:news=[]:=by cases news with | nil=>rfl | cons _ _=>simp at hl
      subst hn
      refine ⟨.slice none 0 0,w,H,⟨[],Own.nil,hsame.symm⟩,hs,.inl (hexec ?_)⟩
      rcases hsrc'.kind with ⟨e',hk⟩ | hk <;> simp [Builtin.append_,run_underlying ht,run_underlying hk,sizeOf,typeInfo,hi,hsrc'.len,hsrc'.cells]
    · have hg:=run_append_grow_src (P:=P) w t tx o.type e inf z ht hi hz none 0 0 [] (run_firstCells_none w.drew _ 0 0 0) x m news hsrc' (by omega) (by omega) (growslice_fits (by omega) hbytes)
      simp only [Nat.zero_add,List.nil_append] at hg
      refine ⟨_,_,H.set j [(w.heap.size,.cells (news++(Builtin.zeroCells z.cells (grownCap w m 0 e - m)).toList).toArray e (0,0))],⟨_,⟨by simpa using hl,.inr ⟨w.heap.size,grownCap w m 0 e,(Builtin.zeroCells z.cells (grownCap w m 0 e - m)).toList,by rw [Nat.zero_add],by simp,by rw [Nat.zero_add]; exact grownCap_ge w m 0 e,?_⟩⟩,rfl⟩,?_,.inl (hexec hg)⟩
      · have:=grownCap_ge w m 0 e
        simp only [List.nil_append,List.length_append,hl,Array.length_toList,T9,hzs,← Nat.add_mul]
        congr 1; omega
      · have h2:=(hs.drew).new (w':=w.drew.alloc (.cells (news.toArray++Builtin.zeroCells z.cells (grownCap w m 0 e - m)) e)) (o:=.cells (news.toArray++Builtin.zeroCells z.cells (grownCap w m 0 e - m)) e) rfl rfl rfl rfl
        have h3:=h2.replace hj
        have e1:(news++(Builtin.zeroCells z.cells (grownCap w m 0 e - m)).toList).toArray=news.toArray++Builtin.zeroCells z.cells (grownCap w m 0 e - m):=by apply Array.ext'; simp
        rw [e1]; exact h3
  · by_cases hroom:n+m≤cap
    · have hblk:w.heap[b]? = some (.cells (cs++junk).toArray e (0,0)):=hs.has (b,_) (List.mem_flatten.2 ⟨_,List.mem_of_getElem? hj,List.mem_singleton.2 rfl⟩)
      have hjl:junk.length=(cap - n) * inf.size:=by
        rw [List.length_append,hlc] at hjunk
        rw [Nat.sub_mul]; omega
      have hfit:n * inf.size+news.length≤(cs++junk).length:=by
        rw [hjunk,hl,← Nat.add_mul]; exact Nat.mul_le_mul_right _ hroom
      obtain ⟨w',hr',_,hw'⟩:=Z5 (P:=P) news (w:=w) (off:=n * inf.size) (i:=0) hblk (by simpa using hfit) (fun k _=>by simp [thawed]) (List.all_eq_true.2 h1)
      have hrow:setRow (cs++junk).toArray (n * inf.size+0) news=((cs++news)++junk.drop news.length).toArray:=by
        have hnl:news.length≤junk.length:=by
          rw [hl,hjl]; exact Nat.mul_le_mul_right _ (by omega)
        have:=V9 news cs (junk.drop news.length) (junk.take news.length) (by simp [hnl])
        rw [List.append_assoc,List.take_append_drop,hlc] at this
        exact this
      rw [hrow] at hw'
      refine ⟨.slice (some ⟨b,0,none⟩) (n+m) cap,w',H.set j ([(b,.cells ((cs++news)++junk.drop news.length).toArray e (0,0))]),⟨_,⟨hlen2,.inr ⟨b,cap,junk.drop news.length,rfl,rfl,hroom,?_⟩⟩,rfl⟩,?_,.inl (hexec (run_append_room ht hi hsrc' hroom hr'))⟩
      · rw [List.length_append,List.length_append,List.length_drop,hjl,hl,hlc]
        have h2:(cap - n) * inf.size=(cap - n - m) * inf.size+m * inf.size:=by rw [← Nat.add_mul]; congr 1; omega
        have h3:cap * inf.size=n * inf.size+m * inf.size+(cap - n - m) * inf.size:=by rw [← Nat.add_mul,← Nat.add_mul]; congr 1; omega
        omega
      · exact hs.wr hj (i:=0) rfl hw'
    · have hblk:w.heap[b]? = some (.cells (cs++junk).toArray e (0,0)):=hs.has (b,_) (List.mem_flatten.2 ⟨_,List.mem_of_getElem? hj,List.mem_singleton.2 rfl⟩)
      have hold:(Builtin.firstCells inf.size n (.slice (some ⟨b,0,none⟩) n cap)).run P w.drew=.ok cs.toArray w.drew:=by
        refine run_firstCells_some (P:=P) w.drew inf.size n ⟨b,0,none⟩ n cap cs hlc (fun j v hv=>?_)
        rw [L5,Nat.zero_add]
        have hlt:j<cs.length:=by
          rcases Nat.lt_or_ge j cs.length with h | h
          · exact h
          · rw [List.getElem?_eq_none h] at hv; simp at hv
        exact A0l (w:=w.drew) hblk (by rw [List.getElem?_toArray,List.getElem?_append_left hlt]; exact hv)
      have hg:=run_append_grow_src (P:=P) w t tx o.type e inf z ht hi hz (some ⟨b,0,none⟩) n cap cs hold x m news hsrc' (by omega) (by omega) (growslice_fits (by omega) hbytes)
      have hge:=grownCap_ge w (n+m) cap e
      refine ⟨_,_,H.set j [(w.heap.size,.cells ((cs++news)++(Builtin.zeroCells z.cells (grownCap w (n+m) cap e - (n+m))).toList).toArray e (0,0))],⟨_,⟨hlen2,.inr ⟨w.heap.size,grownCap w (n+m) cap e,(Builtin.zeroCells z.cells (grownCap w (n+m) cap e - (n+m))).toList,rfl,rfl,hge,?_⟩⟩,rfl⟩,?_,.inl (hexec hg)⟩
      · rw [List.length_append,hlen2,Array.length_toList,T9,hzs,← Nat.add_mul]
        congr 1; omega
      · have h2:=(hs.drew).new (w':=w.drew.alloc (.cells ((cs++news).toArray++Builtin.zeroCells z.cells (grownCap w (n+m) cap e - (n+m))) e)) (o:=.cells ((cs++news).toArray++Builtin.zeroCells z.cells (grownCap w (n+m) cap e - (n+m))) e) rfl rfl rfl rfl
        have h3:=h2.replace hj
        have e1:((cs++news)++(Builtin.zeroCells z.cells (grownCap w (n+m) cap e - (n+m))).toList).toArray=(cs++news).toArray++Builtin.zeroCells z.cells (grownCap w (n+m) cap e - (n+m)):=by apply Array.ext'; simp
        rw [e1]; exact h3
theorem I4 {t:TypeId} {k:Nat} {a:Option Addr} {n c:Nat} {g:Grp} {cs:List Value} (h:Own t k (.slice a n c) g n cs):Rd (inG g) a cs:=by
  obtain ⟨a',c',he,_,hr⟩:=h.shape
  injection he with e1 e2 e3
  subst e1; exact hr
theorem eltA_add (a:Option Addr) (k j:Nat):Addr.add (eltA a k) j=eltA a (k+j):=by
  unfold eltA Addr.add
  by_cases hk:k=0
  · subst hk; simp
  · by_cases hj:j=0
    · subst hj; simp
    · rw [if_neg hj,if_neg hk,if_neg (by omega:¬ k+j=0)]
      simp only [Nat.add_assoc]
def srcKind (P:Program) (tx:TypeId):Bool:=match P.underlying tx with | some (.slice _)=>true | _=>false
theorem srcKind_ex {P:Program} {tx:TypeId} (h:srcKind P tx=true):∃ e',P.underlying tx=some (.slice e'):=by
  unfold srcKind at h
  split at h
  · rename_i e h2; exact ⟨e,h2⟩
  · cases h
theorem GL_ap {P:Program} {ops:Array Oper} {i:Nat} {Q:D7} {q:Fr} {E:Env} {W0:World} {H:List Grp} {o:Oper} {c:Call} {t tx e e2:TypeId} {inf:TypeInfo} {z s:Value} {n b:Nat} {cs news:List Value} {g:Grp} {fz:Nat × Nat} (m js j:Nat)
    (hj:H[j]? = some g) (hs:H[js]? = some [(b,.cells news.toArray e2 fz)]) (hown:Own e inf.size s g n cs) (hmax:n+m≤9223372036854775807) (hbytes:(n+m) * inf.bytes≤140737488355328)
    (k:∀ v g',Own e inf.size v g' (n+m) (cs++news)→GL false P ops (i+1) Q q (Env.put E o.dst [] v) W0 (H.set j g'))
    (ho:ops[i]? = some o:=by exact rfl) (hop:o.op=.call c:=by exact rfl) (hce:c.callee=.builtin .append:=by exact rfl) (hat:c.argTypes=#[t,tx]:=by exact rfl) (hargs:evL (evO E []) c.args.toList=some [s,.slice (some ⟨b,0,none⟩) m m]:=by kernel_rfl)
    (ht:P.underlying t=some (.slice e):=by kernel_rfl) (hi:P.info? e=some inf:=by kernel_rfl) (hz:inf.zero=some z:=by exact rfl) (hzs:z.cells.size=inf.size:=by exact rfl)
    (hk:srcKind P tx=true:=by kernel_rfl)
    (hch:D4 ops E o.guard=some []:=by kernel_rfl) (hd:F5 q [] o.dst=true:=by kernel_rfl)
    (hl:news.length=m * inf.size:=by kernel_rfl) (h1:(news.all fun u=>u.oneCell')=true:=by kernel_rfl):GL false P ops i Q q E W0 H :=
  M0 ho hop hce hat hargs ht hi hz hzs (.inl (srcKind_ex hk)) (fun ⟨_,h⟩=>by cases h) (fun _=>srcKind_ex hk) hch hd rfl hj hown
    (SrcOf.slice _ _ _ _ Rd.lit (fun h=>by cases h)) (H6 js hs) hl (List.all_eq_true.1 h1) hmax hbytes k
def szOf (P:Program) (t:TypeId):Option Nat:=match P.underlying t with | some (.slice e)=>T5 P e | _=>none
theorem szOf_ex {P:Program} {t:TypeId} {sz:Nat} (h:szOf P t=some sz):∃ e,P.underlying t=some (.slice e)∧T5 P e=some sz:=by
  unfold szOf at h
  split at h
  · rename_i e h2; exact ⟨e,h2,h⟩
  · cases h
def slOf:Value→Option (Option Addr × Nat) | .slice a n _=>some (a,n) | _=>none
theorem slOf_ex {x:Option Value} {a:Option Addr} {n:Nat} (h:x.bind slOf=some (a,n)):∃ c,x=some (.slice a n c):=by
  cases x with
  | none=>cases h
  | some v =>
    cases v <;> first | (cases h; done) | skip
    rename_i a' n' c
    simp only [Option.bind_some,slOf,Option.some.injEq,Prod.mk.injEq] at h
    obtain ⟨rfl,rfl⟩:=h
    exact ⟨c,rfl⟩
theorem L2 {d:Bool} {P:Program} {ops:Array Oper} {i:Nat} {Q:D7} {n:Fr} {E:Env} {W0:World} {H:List Grp} {o:Oper} {t:TypeId} {x ix:Operand} {a:Option Addr} {S:Nat→Obj→Prop} {cs:List Value} (len:Nat) (j:Int) (sz:Nat)
    (hrd:Rd S a cs) (hb:0≤j∧j<len∧cs≠[])
    (k:GL d P ops (i+1) Q n (Env.put E o.dst [] (.pointer (some (eltA a (j.toNat * sz))))) W0 H)
    (ho:ops[i]? = some o:=by exact rfl) (hop:o.op=.indexAddr t x ix:=by exact rfl) (hx:(evO E [] x).bind slOf=some (a,len):=by kernel_rfl) (hix:evO E [] ix=some (.int .i64 j):=by kernel_rfl) (hu:szOf P t=some sz:=by kernel_rfl)
    (hch:D4 ops E o.guard=some []:=by kernel_rfl) (hd:F5 n [] o.dst=true:=by kernel_rfl):GL d P ops i Q n E W0 H :=
  let ⟨_,h1⟩:=slOf_ex hx
  let ⟨_,h2,h3⟩:=szOf_ex hu
  I7 ho hop h1 hix h2 h3 hch hd rfl hrd (fun _=>hb) k
theorem N2 {P:Program} {ops:Array Oper} {i:Nat} {Q:D7} {n:Fr} {E:Env} {W0:World} {H:List Grp} {o:Oper} {t:TypeId} {parts:Array (Nat × Operand)} (e:TypeId) (len:Nat) (c:List Value)
    (k:∀ b,GL false P ops (i+1) Q n (Env.put E o.dst [] (.slice (some ⟨b,0,none⟩) len len)) W0 ([(b,.cells c.toArray e)]::H))
    (ho:ops[i]? = some o:=by exact rfl) (hop:o.op=.buildSlice t len parts:=by exact rfl) (hc:(evP (evO E []) parts.toList).bind (buildSliceV P t len)=some (c.toArray,e):=by kernel_rfl)
    (hch:D4 ops E o.guard=some []:=by kernel_rfl) (hd:F5 n [] o.dst=true:=by kernel_rfl):GL false P ops i Q n E W0 H:=by
  cases h:evP (evO E []) parts.toList with
  | none=>rw [h] at hc; cases hc
  | some l=>exact GL_buildSlice ho hop h (by rw [h] at hc; exact hc) hch hd rfl k
theorem O3 {d:Bool} {P:Program} {ops:Array Oper} {i:Nat} {Q:D7} {n:Fr} {E:Env} {W0:World} {H:List Grp} {o:Oper} {t:TypeId} {x:Operand} {a:Option Addr} {S:Nat→Obj→Prop} {cs:List Value} (q:Nat) (v:Value)
    (hrd:Rd S a cs) (hS:∀ b o,S b o→At W0 H b o) (hv:chB E []→cs[q]? = some v)
    (k:GL d P ops (i+1) Q n (Env.put E o.dst [] v) W0 H)
    (ho:ops[i]? = some o:=by exact rfl) (hop:o.op=.load t x:=by exact rfl) (hx:evO E [] x=some (.pointer (some (eltA a q))):=by kernel_rfl) (ht:aggB P t=some false:=by kernel_rfl)
    (hch:D4 ops E o.guard=some []:=by kernel_rfl) (hd:F5 n [] o.dst=true:=by kernel_rfl):GL d P ops i Q n E W0 H :=
  R7 ho hop hx ht hch hd rfl hrd hS hv k
end Go.Sw
namespace Go.Sw
def Qn (K:Act→World→Prop):D7:=fun x a w=>x=.normal∧K a w
theorem wp_swap {P:Program} {o:Oper} {a:Act} {w:World} {K1 K A B:Act→World→Prop} (h:∀ a w,K1 a w→K a w)
    (hh:o.wp P a w K1 (Qn A)):o.wp P a w K (Qn B):=by
  unfold Oper.wp at *
  generalize (execOp a.eval o).run P w=r at *
  cases r with
  | ok n w' =>
    cases n <;> simp only [Oper.upon] at hh ⊢ <;>
      first
        | exact h _ _ hh
        | exact Calls.mono hh (fun e w'' he=>by
            cases e
            · exact h _ _ he
            · exact absurd he.1 (by intro h; cases h)
            · obtain ⟨_,_,h1,_⟩:=he; cases h1)
        | exact Rows.mono hh (fun _ _ he=>h _ _ he)
  | halt x w'=>cases x <;> simp only [Oper.upon] at hh ⊢ <;> first | exact hh | exact absurd hh.1 (by intro h; cases h)
def Q7 (ops:Array Oper) (i:Nat):Array Oper:=(ops.toList.take (i+1)).toArray
def J7 (ops:Array Oper) (i:Nat):Bool:=match ops[i]? with | some o=>(match o.guard with | some (j,_)=>decide (j≤i) | none=>true) | none=>false
theorem cutOps_get {ops:Array Oper} {i j:Nat} (h:j≤i):(Q7 ops i)[j]? = ops[j]? := by
  rw [Q7,List.getElem?_toArray,List.getElem?_take,if_pos (by omega),Array.getElem?_toList]
theorem cut_drop {ops:Array Oper} {i:Nat} {o:Oper} (h:ops[i]? = some o):(Q7 ops i).toList.drop i=[o]:=by
  have hi:i<ops.toList.length:=by
    rcases Nat.lt_or_ge i ops.size with h' | h'
    · simpa using h'
    · simp [Array.getElem?_eq_none h'] at h
  have e:ops.toList[i]? = some o:=by rw [Array.getElem?_toList]; exact h
  rw [List.getElem?_eq_getElem hi] at e
  injection e with e
  unfold Q7
  rw [List.toList_toArray,List.take_succ_eq_append_getElem hi,e,List.drop_append_of_le_length (by rw [List.length_take]; omega),List.drop_eq_nil_of_le (by rw [List.length_take]; omega)]
  rfl
theorem cut_wanted {ops:Array Oper} {i:Nat} {o:Oper} (h:ops[i]? = some o) (hg:J7 ops i=true) (tmps:Array Value) :
    Region.wanted o (yielded (Q7 ops i) tmps)=Region.wanted o (yielded ops tmps):=by
  unfold J7 at hg
  rw [h] at hg
  unfold Region.wanted
  cases hgd:o.guard with
  | none=>rfl
  | some p =>
    obtain ⟨j,b⟩:=p
    simp only [hgd,decide_eq_true_eq] at hg
    simp only [yielded,cutOps_get hg]
def noCall (o:Oper):Bool:=match o.op with
  | .move _ | .assign _ | .pick .. | .load .. | .binOp .. | .unOp .. | .convert .. | .makeInterface .. | .makeFunc .. | .slice .. | .fieldAddr .. | .field .. | .indexAddr .. | .index .. | .lookup .. | .extract .. | .build ..=>true
  | _=>false
def GH (P:Program) (ops:Array Oper) (L:List Grp) (fuel:Nat) (listed:Array Bool) (Q:D7) (n:Fr) (E:Env) (W0:World) (H:List Grp):Prop :=
  ∀ a w,Ag n E a→Sat W0 H w→wpAnyH P .any ops (Qn (Q .normal)) (Sat W0 L) fuel listed a w
theorem F4 {P:Program} {id:Nat} {ops:Array Oper} {Q:D7} {n:Fr} {E:Env} {W0:World} {H:List Grp} (L:List Grp)
    (hm:P.follows .mixedOrders=true:=by kernel_rfl) (k:GH P ops L ops.size (Array.replicate ops.size false) Q n E W0 H):G P (.region id ops true) Q n E W0 H:=by
  intro a w ha hs
  refine Code.wp_mono (Q:=Qn (Q .normal)) (fun e a w h=>?_) (wp_region_held hm (k a _ ha hs.drew))
  obtain ⟨rfl,h⟩:=h
  exact h
theorem I0 {P:Program} {ops:Array Oper} {L:List Grp} (L':List Grp) {fuel:Nat} {listed:Array Bool} {Q:D7} {n:Fr} {E:Env} {W0:World} {H:List Grp}
    (hL:∀ w,Sat W0 L' w→Sat W0 L w) (k:GH P ops L' fuel listed Q n E W0 H):GH P ops L fuel listed Q n E W0 H:=by
  have mono:∀ fuel listed a w,wpAnyH P .any ops (Qn (Q .normal)) (Sat W0 L') fuel listed a w→wpAnyH P .any ops (Qn (Q .normal)) (Sat W0 L) fuel listed a w:=by
    intro fuel
    induction fuel with
    | zero=>exact fun _ _ _ h=>h
    | succ fuel ih=>exact fun listed a w h=>⟨h.1,fun i hi=>wpOp_mono (fun a' w' h'=>⟨hL _ h'.1,ih _ _ _ h'.2⟩) (h.2 i hi)⟩
  exact fun a w ha hs=>mono _ _ _ _ (k a w ha hs)
theorem D8 {P:Program} {ops:Array Oper} {L:List Grp} {fuel:Nat} {listed:Array Bool} {Q:D7} {n:Fr} {E E':Env} {W0:World} {H:List Grp} (ts:List Nat)
    (hr:Region.ready .any ops listed=[]:=by kernel_rfl) (hk:Env.keep ts E=E':=by kernel_rfl) (k:N Q .normal n E' W0 H):GH P ops L fuel listed Q n E W0 H :=
  fun a w ha hs=>wpAnyH_done hr ⟨rfl,N_sub ts hk k a w ha hs⟩ fuel
theorem GH_wpOp {P:Program} {ops:Array Oper} {L:List Grp} {fuel:Nat} {listed:Array Bool} {Q:D7} {n:Fr} {E:Env} {W0:World} {H:List Grp} (i:Nat)
    (hi:(ops[i]?).isSome=true) (hg:J7 ops i=true)
    (k:GL false P (Q7 ops i) i (Qn fun a w=>Sat W0 L w∧wpAnyH P .any ops (Qn (Q .normal)) (Sat W0 L) fuel (listed.setIfInBounds i true) a w) n E W0 H) {a:Act} {w:World} (ha:Ag n E a) (hs:Sat W0 H w) :
    wpOp P ops (Qn (Q .normal)) i (fun a w=>Sat W0 L w∧wpAnyH P .any ops (Qn (Q .normal)) (Sat W0 L) fuel (listed.setIfInBounds i true) a w) a w:=by
  obtain ⟨o,ho⟩:=Option.isSome_iff_exists.1 hi
  have h1:=k a w ha hs
  rw [cut_drop ho] at h1
  unfold wpOp
  simp only [ho]
  unfold wpList at h1
  rw [cut_wanted ho hg] at h1
  split
  · rename_i hw
    rw [if_pos hw] at h1
    rcases h1 with h1 | ⟨_,_,_,h1,_⟩
    · exact .inl (wp_swap (fun a w h=>h.2) h1)
    · cases h1
  · rename_i hw
    rw [if_neg hw] at h1
    exact h1.2
theorem C2 {P:Program} {ops:Array Oper} {L:List Grp} {fuel:Nat} {listed:Array Bool} {Q:D7} {n:Fr} {E:Env} {W0:World} {H:List Grp} (i:Nat)
    (hr:Region.ready .any ops listed=[i]:=by kernel_rfl) (hi:(ops[i]?).isSome=true:=by kernel_rfl) (hg:J7 ops i=true:=by kernel_rfl)
    (k:GL false P (Q7 ops i) i (Qn fun a w=>Sat W0 L w∧wpAnyH P .any ops (Qn (Q .normal)) (Sat W0 L) fuel (listed.setIfInBounds i true) a w) n E W0 H) :
    GH P ops L (fuel+1) listed Q n E W0 H:=by
  intro a w ha hs
  refine wpAnyH_all hr (by simp) (fun j hj=>?_)
  have hji:j=i:=by simpa using hj
  subst hji
  exact GH_wpOp j hi hg k ha hs
theorem P4 {P:Program} {ops:Array Oper} {L:List Grp} {fuel:Nat} {listed:Array Bool} {Q:D7} {n:Fr} {E:Env} {W0:World} {H:List Grp} (i i':Nat)
    (hr:Region.ready .any ops listed=[i,i']:=by kernel_rfl) (hi:(ops[i]?).isSome=true:=by kernel_rfl) (hg:J7 ops i=true:=by kernel_rfl) (hi':(ops[i']?).isSome=true:=by kernel_rfl) (hg':J7 ops i'=true:=by kernel_rfl)
    (k:GL false P (Q7 ops i) i (Qn fun a w=>Sat W0 L w∧wpAnyH P .any ops (Qn (Q .normal)) (Sat W0 L) fuel (listed.setIfInBounds i true) a w) n E W0 H)
    (k':GL false P (Q7 ops i') i' (Qn fun a w=>Sat W0 L w∧wpAnyH P .any ops (Qn (Q .normal)) (Sat W0 L) fuel (listed.setIfInBounds i' true) a w) n E W0 H) :
    GH P ops L (fuel+1) listed Q n E W0 H:=by
  intro a w ha hs
  refine wpAnyH_all hr (by simp) (fun j hj=>?_)
  have hji:j=i∨j=i':=by simpa using hj
  rcases hji with rfl | rfl
  · exact GH_wpOp j hi hg k ha hs
  · exact GH_wpOp j hi' hg' k' ha hs
theorem GH_eff3 {P:Program} {ops:Array Oper} {L:List Grp} {fuel:Nat} {listed:Array Bool} {Q:D7} {n:Fr} {E:Env} {W0:World} {H:List Grp} (i i' i2:Nat)
    (hr:Region.ready .any ops listed=[i,i',i2]:=by kernel_rfl) (hi:(ops[i]?).isSome=true:=by kernel_rfl) (hg:J7 ops i=true:=by kernel_rfl) (hi':(ops[i']?).isSome=true:=by kernel_rfl) (hg':J7 ops i'=true:=by kernel_rfl) (hi2:(ops[i2]?).isSome=true:=by kernel_rfl) (hg2:J7 ops i2=true:=by kernel_rfl)
    (k:GL false P (Q7 ops i) i (Qn fun a w=>Sat W0 L w∧wpAnyH P .any ops (Qn (Q .normal)) (Sat W0 L) fuel (listed.setIfInBounds i true) a w) n E W0 H)
    (k':GL false P (Q7 ops i') i' (Qn fun a w=>Sat W0 L w∧wpAnyH P .any ops (Qn (Q .normal)) (Sat W0 L) fuel (listed.setIfInBounds i' true) a w) n E W0 H)
    (k2:GL false P (Q7 ops i2) i2 (Qn fun a w=>Sat W0 L w∧wpAnyH P .any ops (Qn (Q .normal)) (Sat W0 L) fuel (listed.setIfInBounds i2 true) a w) n E W0 H) :
    GH P ops L (fuel+1) listed Q n E W0 H:=by
  intro a w ha hs
  refine wpAnyH_all hr (by simp) (fun j hj=>?_)
  have hji:j=i∨j=i'∨j=i2:=by simpa using hj
  rcases hji with rfl | rfl | rfl
  · exact GH_wpOp j hi hg k ha hs
  · exact GH_wpOp j hi' hg' k' ha hs
  · exact GH_wpOp j hi2 hg2 k2 ha hs
theorem A7 {P:Program} {ops:Array Oper} {L:List Grp} {fuel:Nat} {listed:Array Bool} {Q:D7} {n:Fr} {E:Env} {W0:World} {H:List Grp} {i j:Nat}
    (hi:(Q7 ops i).size=j:=by kernel_rfl) (hL:∀ w,Sat W0 H w→Sat W0 L w) (k:GH P ops L fuel listed Q n E W0 H) :
    GL false P (Q7 ops i) j (Qn fun a w=>Sat W0 L w∧wpAnyH P .any ops (Qn (Q .normal)) (Sat W0 L) fuel listed a w) n E W0 H :=
  GL_end hi (fun a w ha hs=>⟨rfl,hL w hs,k a w ha hs⟩)
def valueM (m:Sem Value):Sem Next:=m >>= fun v=>pure (.value v)
theorem valueM_run {P:Program} {m:Sem Value} {w w':World} {x:Next} (h:(valueM m).run P w=.ok x w'):∃ v,x=.value v:=by
  unfold valueM at h
  rw [Sem.run_bind] at h
  generalize m.run P w=r at h
  cases r with
  | ok v w1=>simp only [Result.andThen_ok,Sem.run_pure] at h; injection h with h; exact ⟨v,h.symm⟩
  | halt x w1=>simp [Result.andThen] at h
theorem bindV_run {P:Program} {α:Type} {m:Sem α} {f:α→Value} {w w':World} {x:Next} (h:(m >>= fun b=>pure (Next.value (f b))).run P w=.ok x w'):∃ v,x=.value v:=by
  rw [Sem.run_bind] at h
  generalize m.run P w=r at h
  cases r with
  | ok v w1=>simp only [Result.andThen_ok,Sem.run_pure] at h; injection h with h; exact ⟨_,h.symm⟩
  | halt x w1=>simp [Result.andThen] at h
theorem noCall_value {P:Program} {o:Oper} (hn:noCall o=true) {r:Operand→Value} {C:World→Prop} {w:World} {v:Value}
    (h:Oper.quietUpon P C w v ((execOp r o).run P w)):(execOp r o).run P w=.ok (.value v) w:=by
  have key:∀ x w',(execOp r o).run P w=.ok x w'→∃ v,x=.value v:=by
    intro x w' he
    unfold noCall at hn
    cases hop:o.op <;> rw [hop] at hn <;> simp only [Bool.false_eq_true] at hn
    all_goals (unfold execOp at he; simp only [hop] at he)
    all_goals first
      | exact valueM_run (m:=_) he
      | (simp only [Sem.run_pure] at he; injection he with he; exact ⟨_,he.symm⟩)
      | exact bindV_run he
  generalize hr:(execOp r o).run P w=res at h ⊢
  cases res with
  | ok x w' =>
    obtain ⟨u,rfl⟩:=key x w' hr
    simp only [Oper.quietUpon] at h
    obtain ⟨rfl,rfl⟩:=h
    rfl
  | halt x w'=>simp [Oper.quietUpon] at h
theorem GH_take {P:Program} {ops:Array Oper} {L:List Grp} {fuel:Nat} {listed:Array Bool} {Q:D7} {n:Fr} {E E':Env} {W0:World} {H:List Grp} (i:Nat)
    (hi:(match ops[i]? with | some o=>noCall o | none=>false)=true) (hg:J7 ops i=true) (hs:Region.noSelect ops=true) (hf:Region.free .any ops listed i=true)
    (hr:(Region.ready .any ops listed).contains i=true) (hL:∀ w,Sat W0 H w→Sat W0 L w)
    (hy:GL true P (Q7 ops i) i (fun _ a _=>Ag n E' a) n E W0 L)
    (k:GH P ops L fuel (listed.setIfInBounds i true) Q n E' W0 H):GH P ops L (fuel+1) listed Q n E W0 H:=by
  intro a w ha hsat
  cases ho:ops[i]? with
  | none=>rw [ho] at hi; simp at hi
  | some o =>
    rw [ho] at hi
    have hSw:=hL w hsat
    have h1:=hy a ha
    rw [cut_drop ho] at h1
    unfold wpQuiet at h1
    rw [cut_wanted ho hg] at h1
    by_cases hw:Region.wanted o (yielded ops a.tmps)=true
    · rw [if_pos hw] at h1
      obtain ⟨v,h2,h3⟩:=h1
      exact wpAnyH_take (v:=v) ho hs hf hr (fun c a w h=>absurd h.1 (by intro h; cases h)) (.inl ⟨hw,fun w' hw'=>noCall_value hi (h2 w' hw')⟩) hSw (k _ w (h3 w hSw) hsat)
    · rw [if_neg hw] at h1
      exact wpAnyH_take (v:=undef) ho hs hf hr (fun c a w h=>absurd h.1 (by intro h; cases h)) (.inr ⟨by simpa using hw,rfl⟩) hSw (k _ w (h1 w hSw) hsat)
theorem P0 {P:Program} {ops:Array Oper} {L:List Grp} {fuel:Nat} {listed:Array Bool} {Q:D7} {n:Fr} {E:Env} {W0:World} {H:List Grp} {o:Oper} {x:Operand} {ad:Addr} (i:Nat)
    (ho:ops[i]? = some o:=by exact rfl) (hop:o.op=.nilCheck x:=by exact rfl) (hgd:o.guard=none:=by exact rfl) (hx:evO E [] x=some (.pointer (some ad)):=by kernel_rfl) (hd:F5 n [] o.dst=true:=by kernel_rfl)
    (hs:Region.noSelect ops=true:=by kernel_rfl) (hf:Region.free .any ops listed i=true:=by kernel_rfl)
    (hr:(Region.ready .any ops listed).contains i=true:=by kernel_rfl) (hL:∀ w,Sat W0 H w→Sat W0 L w)
    (k:GH P ops L fuel (listed.setIfInBounds i true) Q n (Env.put E o.dst [] (.pointer (some ad))) W0 H):GH P ops L (fuel+1) listed Q n E W0 H:=by
  intro a w ha hsat
  obtain ⟨β,hβ,hat⟩:=ha.at_
  have hv:a.eval x=.pointer (some ad):=L4 hat rfl hx
  have hw:Region.wanted o (yielded ops a.tmps)=true:=by unfold Region.wanted; rw [hgd]
  have hput:Ag n (Env.put E o.dst [] (.pointer (some ad))) (a.put o.dst (.pointer (some ad))):=by
    have:=ha.put hβ hat hd (.pointer (some ad))
    simpa [chT] using this
  refine wpAnyH_take (v:=.pointer (some ad)) ho hs hf hr (fun c a w h=>absurd h.1 (by intro h; cases h)) (.inl ⟨hw,fun w' _=>?_⟩) (hL w hsat) (k _ w hput hsat)
  unfold execOp
  simp only [hop,hv]
  rfl
theorem GH_pev {P:Program} {ops:Array Oper} {L:List Grp} {fuel:Nat} {listed:Array Bool} {Q:D7} {n:Fr} {E:Env} {W0:World} {H:List Grp} {o:Oper} {v:Value} (i:Nat)
    (ho:ops[i]? = some o:=by exact rfl) (hgd:o.guard=none:=by exact rfl) (hp:pev P (evO E []) o.op=some v:=by kernel_rfl) (hd:F5 n [] o.dst=true:=by kernel_rfl)
    (hs:Region.noSelect ops=true:=by kernel_rfl) (hf:Region.free .any ops listed i=true:=by kernel_rfl)
    (hr:(Region.ready .any ops listed).contains i=true:=by kernel_rfl) (hL:∀ w,Sat W0 H w→Sat W0 L w)
    (k:GH P ops L fuel (listed.setIfInBounds i true) Q n (Env.put E o.dst [] v) W0 H):GH P ops L (fuel+1) listed Q n E W0 H:=by
  intro a w ha hsat
  obtain ⟨β,hβ,hat⟩:=ha.at_
  have hw:Region.wanted o (yielded ops a.tmps)=true:=by unfold Region.wanted; rw [hgd]
  have hput:Ag n (Env.put E o.dst [] v) (a.put o.dst v):=by
    have:=ha.put hβ hat hd v
    simpa [chT] using this
  exact wpAnyH_take (v:=v) ho hs hf hr (fun c a w h=>absurd h.1 (by intro h; cases h)) (.inl ⟨hw,fun w' _=>pev_sound (fun x v h=>L4 hat rfl h) hp w'⟩) (hL w hsat) (k _ w hput hsat)
theorem B4 {P:Program} {ops:Array Oper} {i:Nat} {n:Fr} {E E':Env} {W0:World} {L:List Grp} (hi:ops.size=i) (he:E=E'):GL true P ops i (fun _ a _=>Ag n E' a) n E W0 L :=
  GL_end hi (by subst he; exact fun a w ha _=>ha)
theorem cut_size {ops:Array Oper} {i:Nat} {o:Oper} (h:ops[i]? = some o):(Q7 ops i).size=i+[0].length:=by
  have hi:i<ops.size:=(Array.getElem?_eq_some_iff.1 h).1
  unfold Q7
  rw [List.size_toArray,List.length_take,Array.length_toList]; show min (i+1) ops.size=i+1; omega
theorem GH_pure {P:Program} {ops:Array Oper} {L:List Grp} {fuel:Nat} {listed:Array Bool} {Q:D7} {n:Fr} {E E':Env} {W0:World} {H:List Grp} (i m:Nat)
    (hc:((match ops[i]? with | some o=>noCall o | none=>false)&&(J7 ops i&&(Region.noSelect ops&&(Region.free .any ops listed i&&(Region.ready .any ops listed).contains i))))=true:=by kernel_rfl) (hL:∀ w,Sat W0 H w→Sat W0 L w)
    (h:(R3 P (Q7 ops i) n [m] i E).map (Env.only (E'.map Sl.t))=some E':=by kernel_rfl)
    (k:GH P ops L fuel (listed.setIfInBounds i true) Q n E' W0 H):GH P ops L (fuel+1) listed Q n E W0 H:=by
  simp only [Bool.and_eq_true] at hc
  obtain ⟨h1,h2,h3,h4,h5⟩:=hc
  refine GH_take (E':=E') i h1 h2 h3 h4 h5 hL (GL_pure (j:=i+[m].length) [m] h rfl (B4 ?_ rfl)) k
  cases ho:ops[i]? with
  | none=>rw [ho] at h1; cases h1
  | some o=>exact cut_size ho
theorem A9 {P:Program} {ops:Array Oper} {L:List Grp} {fuel:Nat} {listed:Array Bool} {Q:D7} {n:Fr} {E E':Env} {W0:World} {H:List Grp} (i:Nat)
    (hc:((match ops[i]? with | some o=>noCall o | none=>false)&&(J7 ops i&&(Region.noSelect ops&&(Region.free .any ops listed i&&(Region.ready .any ops listed).contains i))))=true:=by kernel_rfl) (hL:∀ w,Sat W0 H w→Sat W0 L w)
    (hy:GL true P (Q7 ops i) i (fun _ a _=>Ag n E' a) n E W0 L)
    (k:GH P ops L fuel (listed.setIfInBounds i true) Q n E' W0 H):GH P ops L (fuel+1) listed Q n E W0 H:=by
  simp only [Bool.and_eq_true] at hc
  obtain ⟨h1,h2,h3,h4,h5⟩:=hc
  exact GH_take i h1 h2 h3 h4 h5 hL hy k
theorem GH_env {P:Program} {ops:Array Oper} {L:List Grp} {fuel:Nat} {listed:Array Bool} {Q:D7} {n:Fr} {E E':Env} {W0:World} {H:List Grp} (h:E=E') (k:GH P ops L fuel listed Q n E' W0 H):GH P ops L fuel listed Q n E W0 H:=by subst h; exact k
theorem Z0 {d:Bool} {P:Program} {ops:Array Oper} {i:Nat} {Q:D7} {n:Fr} {E:Env} {W0:World} {H H':List Grp} (h:H=H':=by kernel_rfl) (k:GL d P ops i Q n E W0 H'):GL d P ops i Q n E W0 H:=by subst h; exact k
theorem N_heq {Q:D7} {x:Exit} {n:Fr} {E:Env} {W0:World} {H H':List Grp} (h:H=H':=by kernel_rfl) (k:N Q x n E W0 H'):N Q x n E W0 H:=by subst h; exact k
theorem N_env {Q:D7} {x:Exit} {n:Fr} {E E':Env} {W0:World} {H:List Grp} (h:E=E':=by kernel_rfl) (k:N Q x n E' W0 H):N Q x n E W0 H:=by subst h; exact k
def JQ {T:Type} (n:Fr) (W0:World) (EJ:T→Env) (HJ:T→List Grp) (Φ:T→Prop):D7:=fun x a w=>x=.normal∧∃ v,Φ v∧Ag n (EJ v) a∧Sat W0 (HJ v) w
theorem G_join {P:Program} {c:Code} {Q:D7} {n:Fr} {E:Env} {W0:World} {H:List Grp} {T:Type} (EJ:T→Env) (HJ:T→List Grp) (Φ:T→Prop)
    (h:G P c (JQ n W0 EJ HJ Φ) n E W0 H) (k:∀ v,Φ v→N Q .normal n (EJ v) W0 (HJ v)):G P c Q n E W0 H :=
  fun a w ha hs=>Code.wp_mono (fun x a w ⟨hx,v,h1,h2,h3⟩=>by subst hx; exact k v h1 a w h2 h3) (h a w ha hs)
theorem T4 {n:Fr} {E:Env} {W0:World} {H:List Grp} {T:Type} {EJ:T→Env} {HJ:T→List Grp} {Φ:T→Prop} (v:T) (ts:List Nat) (h:Env.keep ts E=EJ v:=by kernel_rfl)
    (hH:∀ w,Sat W0 H w→Sat W0 (HJ v) w) (hp:Φ v):N (JQ n W0 EJ HJ Φ) .normal n E W0 H :=
  fun _ w ha hs=>⟨rfl,v,hp,ha.sub (by rw [← h]; intro s hs; exact Env.keep_mem _ hs),hH w hs⟩
theorem GL_env {d:Bool} {P:Program} {ops:Array Oper} {i:Nat} {Q:D7} {n:Fr} {E E':Env} {W0:World} {H:List Grp} (h:E=E') (k:GL d P ops i Q n E' W0 H):GL d P ops i Q n E W0 H:=by subst h; exact k
inductive RV (P:Program) (E:List Sl) (W0:World) (H:List Grp):ResultVar→Value→Prop
  | tmp {t:Nat} {v:Value} (h:evT E [] t=some v):RV P E W0 H (.tmp t) v
  | agg {a t b off:Nat} {c:Array Value} {e:TypeId} {fz:Nat × Nat} {l:List Value} (h:evT E [] a=some (.pointer (some ⟨b,off,none⟩))) (ht:aggB P t=some true) (hz:T5 P t=some l.length)
      (hA:At W0 H b (.cells c e fz)) (hv:(c.toList.drop off).take l.length=l):RV P E W0 H (.cell a t) (.agg l.toArray)
  | one {a t b off:Nat} {c:Array Value} {e:TypeId} {fz:Nat × Nat} {v:Value} (h:evT E [] a=some (.pointer (some ⟨b,off,none⟩))) (ht:aggB P t=some false)
      (hA:At W0 H b (.cells c e fz)) (hv:c[off]? = some v):RV P E W0 H (.cell a t) v
theorem RV.aq {P:Program} {E:List Sl} {W0:World} {H:List Grp} {a t b:Nat} {c:Array Value} {e:TypeId} {fz:Nat × Nat} {g:Grp} {l:List Value} (j off:Nat) (hj:H[j]? = some ((b,.cells c e fz)::g))
    (h:evT E [] a=some (.pointer (some ⟨b,off,none⟩)):=by kernel_rfl) (ht:aggB P t=some true:=by kernel_rfl) (hz:T5 P t=some l.length:=by kernel_rfl)
    (hv:(c.toList.drop off).take l.length=l:=by kernel_rfl):RV P E W0 H (.cell a t) (.agg l.toArray):=.agg h ht hz (At.grp j 0 hj rfl) hv
theorem RV.oq {P:Program} {E:List Sl} {W0:World} {H:List Grp} {a t b:Nat} {c:Array Value} {e:TypeId} {fz:Nat × Nat} {g:Grp} {v:Value} (j off:Nat) (hj:H[j]? = some ((b,.cells c e fz)::g))
    (h:evT E [] a=some (.pointer (some ⟨b,off,none⟩)):=by kernel_rfl) (ht:aggB P t=some false:=by kernel_rfl) (hv:c[off]? = some v:=by kernel_rfl):RV P E W0 H (.cell a t) v:=.one h ht (At.grp j 0 hj rfl) hv
inductive RVs (P:Program) (E:List Sl) (W0:World) (H:List Grp):List ResultVar→List Value→Prop
  | nil:RVs P E W0 H [] []
  | cons {r:ResultVar} {v:Value} {rs:List ResultVar} {l:List Value} (h:RV P E W0 H r v) (k:RVs P E W0 H rs l):RVs P E W0 H (r::rs) (v::l)
theorem RV.run {P:Program} {n:Fr} {E:Env} {W0:World} {H:List Grp} {a:Act} (ha:Ag n E a) {w:World} (hs:Sat W0 H w) {r:ResultVar} {v:Value} (h:RV P E W0 H r v) :
    (resOne a.tmps r).run P w=.ok v w:=by
  cases h with
  | tmp h =>
    have e:=ha.eval (x:=.tmp _) h
    simp only [resOne,Sem.run_pure]
    rw [show a.tmps.getD _ undef=v from e]
  | @agg x t b off c e fz l h ht hz hA hv' =>
    have ee:a.tmps.getD x undef=_:=ha.eval (x:=.tmp x) h
    have hv:∀ k (hk:k<l.length),c[off+k]? = some l[k]:=by
      intro k hk
      have h1:((c.toList.drop off).take l.length)[k]? = some l[k]:=by rw [hv']; simp
      rw [List.getElem?_take,if_pos hk,List.getElem?_drop] at h1
      simpa using h1
    simp only [resOne,ee,asAddr,loadVar,Sem.run_bind,Sem.run_pure,Result.andThen_ok,Q9 ht,if_true,J1 hz,loadCells,
      V2 (P:=P) (hs.at hA) l 0 #[] (by simpa using hv)]
    simp
  | @one x t b off c e fz v h ht hA hv =>
    have ee:a.tmps.getD x undef=_:=ha.eval (x:=.tmp x) h
    simp only [resOne,ee,asAddr,loadVar,Sem.run_bind,Sem.run_pure,Result.andThen_ok,Q9 ht,Bool.false_eq_true,if_false,run_load,A0l (hs.at hA) hv]
theorem RVs.run {P:Program} {n:Fr} {E:Env} {W0:World} {H:List Grp} {a:Act} (ha:Ag n E a) {w:World} (hs:Sat W0 H w) {rs:List ResultVar} {l:List Value} (h:RVs P E W0 H rs l) :
    (rs.mapM (resOne a.tmps)).run P w=.ok l w:=by
  induction h with
  | nil=>rfl
  | cons h _ ih=>simp only [List.mapM_cons,Sem.run_bind,h.run ha hs,Sem.run_pure,Result.andThen_ok,ih]
theorem N_retC {P:Program} {fn:Func} {n:Fr} {E:Env} {W0:World} {H:List Grp} {R:Value→List Grp→Prop} {x:Exit} (rs:List ResultVar) (l:List Value)
    (hr:fn.results=rs.toArray:=by exact rfl) (h:RVs P E W0 H rs l) (hx:(match x with | .normal=>true | .ret=>true | _=>false)=true:=by exact rfl) (k:∃ H',R (V4 l) H'∧∀ w,Sat W0 H w→Sat W0 H' w) (hz:n.dl=[]:=by rfl):N (Body P fn W0 R) x n E W0 H:=by
  intro a w ha hs
  obtain ⟨H',hR,hH⟩:=k
  have e:(results fn a.tmps).run P w=.ok (V4 l) w:=by
    have e2:=h.run (P:=P) ha hs
    have e3:((rs.toArray).mapM (resOne a.tmps)).run P w=.ok l.toArray w:=by
      rw [Array.mapM_eq_mapM_toList,Sem.run_map,e2]; rfl
    rw [results_eq,hr,Sem.run_bind,e3]
    simp only [Result.andThen_ok,Sem.run_pure]
    congr 1
    cases l with
    | nil=>rfl
    | cons v l=>cases l with
      | nil=>rfl
      | cons u l=>simp [V4]
  cases x <;> simp at hx
  · exact ⟨ha.defers.trans (by unfold Fr.ds; rw [hz]),V4 l,e,V4 l,H',rfl,hR,hH w hs⟩
  · exact ⟨ha.defers.trans (by unfold Fr.ds; rw [hz]),V4 l,e,V4 l,H',rfl,hR,hH w hs⟩
theorem GH_sub {P:Program} {ops:Array Oper} {L:List Grp} {fuel:Nat} {listed:Array Bool} {Q:D7} {n:Fr} {E E':Env} {W0:World} {H:List Grp} (hs:∀ s,s∈E'→s∈E) (k:GH P ops L fuel listed Q n E' W0 H):GH P ops L fuel listed Q n E W0 H :=
  fun a w ha=>k a w (ha.sub hs)
theorem Y2 {P:Program} {ops:Array Oper} {L:List Grp} {fuel:Nat} {listed:Array Bool} {Q:D7} {n:Fr} {E:Env} {W0:World} {H:List Grp} (t:Nat) (x:Int) (h1:-9223372036854775808≤x) (h2:x≤9223372036854775807)
    (h:Env.find E t=some ⟨t,[],.int .i64 (IntKind.wrap .i64 x)⟩:=by kernel_rfl) (k:GH P ops L fuel listed Q n (setI E t x) W0 H):GH P ops L fuel listed Q n E W0 H:=GH_sub (setI_sub (w64 h1 h2) h) k
def hpo (P:Program) (ops:Array Oper) (n:Fr) (m i:Nat) (l:Array Bool) (E:List Sl):Option (List Sl) :=
  if (match ops[i]? with | some o=>noCall o | none=>false)&&(J7 ops i&&(Region.noSelect ops&&(Region.free .any ops l i&&(Region.ready .any ops l).contains i))) then R3 P (Q7 ops i) n [m] i E else none
def hps (P:Program) (ops:Array Oper) (n:Fr):List (Nat × Nat)→Array Bool→List Sl→Option (List Sl)
  | [],_,E=>some E
  | (i,m)::r,l,E=>match hpo P ops n m i l E with
    | some E1=>hps P ops n r (l.setIfInBounds i true) E1
    | none=>none
def hls:List (Nat × Nat)→Array Bool→Array Bool
  | [],l=>l
  | (i,_)::r,l=>hls r (l.setIfInBounds i true)
def hpv (P:Program) (ops:Array Oper) (n:Fr) (ms:List (Nat × Nat)) (l:Array Bool) (E:List Sl):List Sl:=(hps P ops n ms l E).getD []
theorem GH_hps {P:Program} {ops:Array Oper} {L:List Grp} {Q:D7} {n:Fr} {W0:World} {H:List Grp} (hL:∀ w,Sat W0 H w→Sat W0 L w):∀ (ms:List (Nat × Nat)) {fuel:Nat} {listed:Array Bool} {E E':Env},
    hps P ops n ms listed E=some E'→GH P ops L fuel (hls ms listed) Q n E' W0 H→GH P ops L (fuel+ms.length) listed Q n E W0 H
  | [],fuel,listed,E,E',h,k=>by
    rw [hps,Option.some.injEq] at h; subst h; exact k
  | (i,m)::r,fuel,listed,E,E',h,k=>by
    rw [hps] at h
    cases h1:hpo P ops n m i listed E with
    | none=>rw [h1] at h; cases h
    | some E1 =>
      rw [h1] at h
      have k1:GH P ops L (fuel+r.length) (listed.setIfInBounds i true) Q n E1 W0 H:=GH_hps hL r h k
      unfold hpo at h1
      rw [Option.ite_none_right_eq_some] at h1
      obtain ⟨hc,h1⟩:=h1
      refine GH_pure (E':=E1) i m hc hL ?_ k1
      rw [h1]
      show some (Env.only (E1.map Sl.t) E1)=some E1
      congr 1
      exact List.filter_eq_self.2 fun s hs=>by
        rw [List.contains_iff_mem]; exact List.mem_map.2 ⟨s,hs,rfl⟩
theorem E2 {P:Program} {ops:Array Oper} {L:List Grp} {fuel fuel':Nat} {listed:Array Bool} {Q:D7} {n:Fr} {E:Env} {W0:World} {H:List Grp} (ms:List (Nat × Nat)) (hL:∀ w,Sat W0 H w→Sat W0 L w)
    (h:(hps P ops n ms listed E).isSome=true:=by kernel_rfl) (hf:fuel'=fuel+ms.length:=by exact rfl) (k:GH P ops L fuel (hls ms listed) Q n (hpv P ops n ms listed E) W0 H):GH P ops L fuel' listed Q n E W0 H:=by
  subst hf
  refine GH_hps hL ms ?_ k
  unfold hpv
  cases hp:hps P ops n ms listed E with
  | none=>rw [hp] at h; cases h
  | some E1=>rfl
end Go.Sw
namespace Go.Sw
open Go.RowKit
abbrev RF (r:Nat):Fence:=Fence.wide.inRound r
theorem upon_in {P:Program} {o:Oper} {a:Act} {next next':Act→World→Prop} {Q:D7} {r n:Nat} (hn:∀ a w,next a w→next' a w) {x:Result Next}
    (h:o.upon P a next Q x):o.uponIn (RF r) n P a next' Q x:=by
  cases x with
  | ok v w =>
    cases v with
    | value v=>exact hn _ _ h
    | skip=>exact hn _ _ h
    | defer d=>exact hn _ _ h
    | enter f args =>
      refine ⟨fun e=>(by cases e),?_⟩
      have h1:CallsIn (RF r) (n - 1) P f args w _:=(callsIn_wide (n:=n - 1)).2 h
      refine h1.mono (fun e w' he=>?_)
      cases e with
      | returned v=>exact hn _ _ he
      | panicked c=>exact he
      | outgrown=>exact he
    | row row args =>
      refine ⟨fun e=>(by cases e),fun c cs _=>?_⟩
      obtain ⟨v,w',hv,hst⟩:=h c cs
      exact ⟨v,w',hn _ _ hv,stepsIn_wide.2 hst⟩
    | _=>exact absurd h (by intro h; exact h)
  | halt s w=>cases s with
    | panic v=>exact h
    | _=>exact absurd h (by intro h; exact h)
def noDefer (l:List Oper):Bool:=l.all fun o=>match o.op with | .defer _=>false | _=>true
theorem list_in {P:Program} {ops:Array Oper} {Q:D7} {r n:Nat} (hLO:∀ a w,¬ Q .outgrown a w):∀ (l:List Oper),noDefer l=true→∀ a w,wpList P ops Q l a w→wpListIn (RF r) n P ops Q l a w
  | [],_,_,_,h=>h
  | o::l,hd,a,w,h=>by
    simp only [noDefer,List.all_cons,Bool.and_eq_true] at hd
    have ih:=list_in (n:=n) (r:=r) (P:=P) (ops:=ops) (Q:=Q) hLO l hd.2
    unfold wpList at h
    unfold wpListIn
    by_cases hw:Region.wanted o (yielded ops a.tmps)=true
    · rw [if_pos hw] at h ⊢
      rcases h with h | ⟨_,a0,w0,hq⟩
      · refine ⟨fun _ _=>trivial,?_⟩
        rw [show Oper.semAt (RF r).round a.eval o=execOp a.eval o from Oper.semAt_some r _ _ (fun c e=>by have h1:=hd.1; rw [e] at h1; exact Bool.noConfusion h1)]
        exact upon_in ih h
      · exact absurd hq (hLO _ _)
    · rw [if_neg hw] at h ⊢
      exact ⟨fun _ _=>trivial,ih _ _ h⟩
def GR (r m:Nat) (P:Program) (c:Code) (Q:D7) (n:Fr) (E:Env) (W0:World) (H:List Grp):Prop :=
  ∀ a w,Ag n E a→Sat W0 H w→c.wpIn (RF r) m P Q a w
section
variable {r m : Nat} {P : Program} {Q : D7} {n : Fr} {E : Env} {W0 : World} {H : List Grp}
theorem GR_region {id:Nat} {ops:Array Oper} (hd:noDefer ops.toList=true) (hLO:∀ a w,¬ Q .outgrown a w) (k:GL false P ops 0 Q n E W0 H):GR r m P (.region id ops false) Q n E W0 H :=
  fun a w ha hs=>wpIn_region_list (list_in hLO _ hd _ _ (by have:=k a w ha hs; simpa using this))
theorem GR_seq {x y:Code} (k:GR r m P x (Exit.then (y.wpIn (RF r) m P Q) Q) n E W0 H):GR r m P (.seq x y) Q n E W0 H:=fun a w ha hs=>wpIn_seq (k a w ha hs)
theorem NR_then {y:Code} (k:GR r m P y Q n E W0 H):N (Exit.then (y.wpIn (RF r) m P Q) Q) .normal n E W0 H:=k
theorem GR_block {id:Nat} {c:Code} (k:GR r m P c (Exit.inBlock id Q) n E W0 H):GR r m P (.block id c) Q n E W0 H:=fun a w ha hs=>wpIn_block (k a w ha hs)
theorem GR_skip (k:N Q .normal n E W0 H):GR r m P .skip Q n E W0 H:=fun a w ha hs=>wpIn_skip (k a w ha hs)
theorem GR_cond {c:Operand} {x y:Code} {b:Bool}
    (hc:evO E [] c=some (.bool b)) (ht:b=true→GR r m P x Q n E W0 H) (hf:b=false→GR r m P y Q n E W0 H):GR r m P (.cond c x y) Q n E W0 H :=
  fun a w ha hs=>wpIn_cond_split (ha.eval hc) (fun h=>ht h a w ha hs) (fun h=>hf h a w ha hs)
end
def KeepG (K:List Grp) (W W':World):Prop:=∀ p,p∈K.flatten→W.heap[p.1]? = some p.2→W'.heap[p.1]? = some p.2
def putAll:List (Nat × Value)→List Sl→List Sl
  | [],E=>E
  | (t,v)::r,E=>putAll r (Env.put E (some t) [] v)
theorem Ag.puts {n:Fr}:∀ (l:List (Nat × Value)) {E:Env} {a:Act},Ag n E a→(∀ p,p∈l→p.1<n.k)→Ag n (putAll l E) { a with tmps:=l.foldl (fun t p=>t.setIfInBounds p.1 p.2) a.tmps }
  | [],_,_,h,_=>h
  | (t,v)::r,E,a,h,hl=>by
    obtain ⟨β,hβ,hat⟩:=h.at_
    have h1:=h.put hβ hat (d:=some t) (ch:=[]) (by simp [F5,freeOf]; exact hl (t,v) List.mem_cons_self) v
    exact Ag.puts r h1 (fun p hp=>hl p (List.mem_cons_of_mem _ hp))
def Calm0 (H H':List Grp):Prop:=∀ p,p∈H'.flatten→p.2.isCells=true∨p∈H.flatten
theorem Sat.lt {W0:World} {H:List Grp} {w:World} (h:Sat W0 H w) {p:Nat × Obj} (hp:p∈H.flatten):p.1<w.heap.size:=(Array.getElem?_eq_some_iff.1 (h.has p hp)).1
theorem calm_set {H:List Grp} {j:Nat} {g':Grp} (hc:∀ p,p∈g'→p.2.isCells=true):Calm0 H (H.set j g'):=by
  intro p hp
  obtain ⟨g,hg,hp1⟩:=List.mem_flatten.1 hp
  rcases List.mem_or_eq_of_mem_set hg with h | h
  · exact .inr (List.mem_flatten.2 ⟨g,h,hp1⟩)
  · exact .inl (hc p (h ▸ hp1))
theorem Sat.grown {W0:World} {H':List Grp} {W W':World} {row:Option Nat} (h:Sat W0 H' W) (hg:W.grownBy W' row)
    (hr:∀ r,row=some r→W0.heap.size≤r∧∀ p,p∈H'.flatten→p.1≠r):Sat W0 H' W':=by
  refine ⟨h.below.grown hg h.below.size (fun k e=>(hr k e).1),h.nodup,fun p hp=>?_,h.high⟩
  rw [hg.block p.1 (h.lt hp) (fun e=>(hr _ e.symm).2 p hp rfl)]
  exact h.has p hp
theorem putObj_wr {w:World} {b:Nat} {o o':Obj} (h:w.heap[b]? = some o):Wr b o' w (w.putObj b o') :=
  ⟨rfl,rfl,rfl,by simp,World.putObj_heap_same (Array.getElem?_eq_some_iff.1 h).1,fun _ hk=>World.putObj_heap_other hk⟩
theorem Sat.put0 {W0:World} {H:List Grp} {w:World} {b:Nat} {o:Obj} (h:Sat W0 ([(b,o)]::H) w) (o':Obj):Sat W0 ([(b,o')]::H) (w.putObj b o') :=
  h.wr (j:=0) (i:=0) rfl rfl (putObj_wr (h.has (b,o) (by simp)))
def RQ {α:Type} (W0:World) (L:Grp) (D:Grp) (HI:List α→List Grp) (X:Code→List α→List Grp→Prop) (xs:List α):D7
  | .normal,_,w=>Sat W0 (L::D::HI xs) w
  | .ret,_,w=>∃ H',X .ret xs H'∧Sat W0 (L::D::H') w
  | .exit id,_,w=>∃ H',X (.exit id) xs H'∧Sat W0 (L::D::H') w
  | _,_,_=>False
theorem ds_none {n:Fr} (h:n.dl=[]):n.ds=[]:=by unfold Fr.ds; rw [h]
theorem G_rangeFunc {P:Program} {g:Operand} {ps:Array Tmp} {assign body:Code} {Q:D7} {n:Fr} {E:Env} {W0:World} {H:List Grp} {α:Type} {gf:Nat} {lb:Array Value} {encs:α→Array Value} {S Sp:List α→Prop} {N0:Nat}
    (hz:n.dl=[]) (hg:evO E [] g=some (.func (.func gf) #[] lb)) (eg:∀ args w,(callFunc gf args).run P w=.ok (.enter gf args) w)
    (Kg:List Grp) (_:∀ p,p∈Kg.flatten→p∈H.flatten) (hseq:∀ w,Sat W0 H w→SeqStopsK Fence.wide 8 P gf lb encs (KeepG Kg) S Sp N0 w)
    (HI:List α→List Grp) (X:Code→List α→List Grp→Prop) (h0:HI []=H) (hKI:∀ xs p,p∈Kg.flatten→p∈(HI xs).flatten)
    (hid:∀ xs,Calm0 H (HI xs)) (hidx:∀ c xs H',X c xs H'→Calm0 H H')
    (hps:∀ x,(encs x).size=ps.size) (hpn:∀ t,t∈ps→t<n.k) (EI:α→Env)
    (hassign:∀ r L D pre x,GR r 7 P assign (fun e a w=>e=.normal∧Ag n (EI x) a∧Sat W0 (L::D::HI pre) w) n (putAll (ps.zip (encs x)).toList E) W0 (L::D::HI pre))
    (hbody:∀ r L D pre x,pre.length<N0→GR r 7 P body (RQ W0 L D HI X (pre++[x])) n (EI x) W0 (L::D::HI pre))
    (hdone:∀ D xs,S xs→N Q .normal ⟨n.k,mkD D⟩ E W0 ([(D,.deferred (some []))]::HI xs))
    (hstop:∀ D c pre H',Sp pre→X c pre H'→G P c Q ⟨n.k,mkD D⟩ E W0 ([(D,.deferred (some []))]::H')) :
    G P (.rangeFunc g ps assign body) Q n E W0 H:=by
  intro a w ha hs
  refine (wpIn_wide (n:=9)).1 (wpIn_rangeFunc fun fn hfn=>?_)
  obtain ⟨rec,hrec⟩:∃ rec:LoopState→Option Code→Loop,rec=fun st pe=>{ state:=st,pending:=pe,fn,tmps:=a.tmps,params:=ps,assign,body,defers:=w.heap.size }:=⟨_,rfl⟩
  obtain ⟨l,hl⟩:∃ l,l=w.heap.size+1:=⟨_,rfl⟩
  have hs0:Sat W0 ([(w.heap.size,.deferred (some []))]::H) (w.alloc (.deferred (some []))):=hs.new rfl rfl rfl rfl
  obtain ⟨W1,hW1⟩:∃ W1,(w.alloc (.deferred (some []))).alloc (.loop (rec .ready none))=W1:=⟨_,rfl⟩
  have hs1:Sat W0 ([(l,.loop (rec .ready none))]::[(w.heap.size,.deferred (some []))]::H) W1:=by
    have h1:Sat W0 ([((w.alloc (.deferred (some []))).heap.size,.loop (rec .ready none))]::[(w.heap.size,.deferred (some []))]::H) W1:=hs0.new (by rw [← hW1]; rfl) (by rw [← hW1]; rfl) (by rw [← hW1]; rfl) (by rw [← hW1]; rfl)
    rwa [show (w.alloc (.deferred (some []))).heap.size=l by rw [World.size_alloc,hl]] at h1
  have hsz:W1.heap.size=w.heap.size+2:=by rw [← hW1]; simp
  have hbel:Below w.heap.size w W1:=by rw [← hW1]; exact ((Below.refl _ w).alloc (Nat.le_refl _) _).alloc (by simp) _
  have hlow:∀ {H':List Grp} {D:List Grp},Calm0 H H'→(∀ p,p∈D.flatten→p.1<w.heap.size+2)→∀ {W:World} {r:Nat},Sat W0 (D++H') W→w.heap.size+2≤r→(∃ o:Obj,W.heap[r]? = some o∧o.isWalk=true) →
      ∀ p,p∈(D++H').flatten→p.1≠r:=by
    intro H' D hc hD W r hS hr ⟨o,ho,hw⟩ p hp e
    have hp':=hS.has p hp
    rw [List.flatten_append,List.mem_append] at hp
    rcases hp with hp | hp
    · have:=hD p hp; omega
    · rcases hc p hp with h | h
      · rw [e,ho] at hp'
        injection hp' with hp'
        rw [← hp',Obj.not_cells_of_walk hw] at h
        exact absurd h (by decide)
      · have:=hs.lt h; omega
  have hDD:∀ (x:Obj) (y:Obj) (p:Nat × Obj),p∈([[(l,x)],[(w.heap.size,y)]]:List Grp).flatten→p.1<w.heap.size+2:=by
    intro x y p hp
    simp at hp
    rcases hp with rfl | rfl <;> simp <;> omega
  have hbase:W0.heap.size≤w.heap.size:=hs.below.size
  refine ⟨l,[{ target:=.collected w.heap.size,args:=#[] }],W1,{ target:=.fn (.func gf) lb,args:=#[.func (.yield l) #[] #[]] },W1,gf,#[.func (.yield l) #[] #[]]++lb,W1,?_,?_,?_,?_,fun e=>(by cases e),?_⟩
  · rw [← hW1,hrec,hl]; exact run_enterLoop_outer _ _ _ _ _
  · simp only [resolve,ha.eval hg]
    simp [go_sem]
  · exact fun _ _=>trivial
  · simp [invoke,go_sem,eg]
  refine (hseq w hs l
    (fun pre W=>Sat W0 ([(l,.loop (rec .ready none))]::[(w.heap.size,.deferred (some []))]::HI pre) W)
    (fun pre W=>∃ c H',X c pre H'∧Sat W0 ([(l,.loop (rec .done (some c)))]::[(w.heap.size,.deferred (some []))]::H') W)
    W1 hbel ?_ ?_ ?_ (by rw [h0]; exact hs1)).mono ?_
  · intro s A B row hS hgr hr
    exact hS.grown hgr (fun r e=>⟨by have:=(hr r e).1; omega,hlow (D:=[_,_]) (hid s) (hDD _ _) hS (by have:=(hr r e).1; omega) (hr r e).2⟩)
  · rintro s A B row ⟨c,H',hX,hS⟩ hgr hr
    exact ⟨c,H',hX,hS.grown hgr (fun r e=>⟨by have:=(hr r e).1; omega,hlow (D:=[_,_]) (hidx _ _ _ hX) (hDD _ _) hS (by have:=(hr r e).1; omega) (hr r e).2⟩)⟩
  · intro pre x W hS hlen
    have hlk:W.heap[l]? = some (.loop (rec .ready none)):=hS.has (l,_) (by simp)
    have hy:=run_yield (P:=P) (args:=encs x) hlk (by rw [hrec]; exact hps x)
    rw [hrec] at hy
    refine ⟨fn,_,assign,body,hy,roundIn_of_wpIn hfn ?_⟩
    have ha1:Ag n E { tmps:=a.tmps,defers:=[] }:=by
      obtain ⟨h1,h2,h3⟩:=ha
      exact ⟨(ds_none hz).symm,h2,h3⟩
    have ha2:=Ag.puts (ps.zip (encs x)).toList ha1 (fun p hp=>hpn p.1 (by
      rw [Array.toList_zip] at hp
      have:=(List.of_mem_zip (a:=p.1) (b:=p.2) hp).1
      simpa using this))
    rw [Array.foldl_toList] at ha2
    refine wpIn_mono (hassign l _ _ pre x _ W ha2 hS) ?_
    rintro e a1 W2 ⟨rfl,ha3,hS2⟩
    have hlk2:W2.heap[l]? = some (.loop (rec .ready none)):=hS2.has (l,_) (by simp)
    refine ⟨_,run_beginRound hlk2 (by rw [hrec]),?_⟩
    refine wpIn_mono (hbody l _ _ pre x hlen a1 _ ha3 (hS2.put0 (.loop { rec .ready none with state:=.busy }))) ?_
    have fin:∀ (jump:Option Code) (W3:World) (H3:List Grp),Sat W0 ([(l,.loop { rec .ready none with state:=.busy })]::[(w.heap.size,.deferred (some []))]::H3) W3 →
        (Instr.endRound l jump).run P W3=.ok (.bool jump.isNone) (W3.putObj l (.loop (rec (if jump.isNone then .ready else .done) jump))):=fun jump W3 H3 h3=>by
      have hl3:W3.heap[l]? = some (.loop { rec .ready none with state:=.busy }):=h3.has (l,.loop { rec .ready none with state:=.busy }) (by simp)
      have:=run_endRound (P:=P) jump hl3
      rw [hrec] at this ⊢
      exact this
    rintro e a3 W3 hp
    cases e with
    | normal =>
      refine ⟨_,_,fin none W3 _ hp,.inl ⟨rfl,hp.put0 _,?_⟩⟩
      intro p hpK hpW
      have h5:Sat W0 ([(l,.loop (rec .ready none))]::[(w.heap.size,.deferred (some []))]::HI (pre++[x])) _:=hp.put0 (.loop (rec .ready none))
      exact h5.has p (by simp only [List.flatten_cons,List.mem_append]; exact .inr (.inr (hKI _ p hpK)))
    | ret =>
      obtain ⟨H',hX,hS3⟩:=hp
      exact ⟨_,_,fin (some .ret) W3 _ hS3,.inr ⟨rfl,.ret,H',hX,hS3.put0 _⟩⟩
    | exit id =>
      obtain ⟨H',hX,hS3⟩:=hp
      exact ⟨_,_,fin (some (.exit id)) W3 _ hS3,.inr ⟨rfl,.exit id,H',hX,hS3.put0 _⟩⟩
    | goto t=>exact hp.elim
    | panic ch=>exact hp.elim
    | outgrown=>exact hp.elim
  · have hA:Ag ⟨n.k,mkD w.heap.size⟩ E { a with defers:=[{ target:=.collected w.heap.size,args:=#[] }]++a.defers }:=by
      obtain ⟨h1,h2,h3⟩:=ha
      exact ⟨by rw [h1,ds_none hz]; rfl,h2,h3⟩
    rintro e W2 ⟨⟨v,rfl⟩,(⟨xs,hS,hi⟩ | ⟨pre,hSp,c,H',hX,hi⟩)⟩
    · have hlk:=hi.has (l,.loop (rec .ready none)) (by simp)
      refine ⟨none,_,by have:=run_endLoop (P:=P) hlk (by rw [hrec]; simp); rw [hrec] at this; exact this,?_⟩
      have h6:=(hi.put0 (.loop { rec .ready none with state:=.exhausted })).tail
      rw [hrec] at h6
      exact hdone _ xs hS _ _ hA h6
    · have hlk:=hi.has (l,.loop (rec .done (some c))) (by simp)
      refine ⟨some c,_,by have:=run_endLoop (P:=P) hlk (by rw [hrec]; simp); rw [hrec] at this; exact this,?_⟩
      have h6:=(hi.put0 (.loop { rec .done (some c) with state:=.exhausted })).tail
      rw [hrec] at h6
      exact (wpIn_wide (n:=9)).2 (hstop _ c pre H' hSp hX _ _ hA h6)
def BodyM (P:Program) (fn:Func) (W0:World) (R:Value→List Grp→Prop):D7 :=
  bodyPostM Fence.wide 9 P fn fun e w'=>∃ v H',e=.returned v∧R v H'∧Sat W0 H' w'
theorem Tri_ofM {P:Program} {f:FuncId} {fn:Func} {c:Code} {args:List Value} {n:Fr} {W0:World} {H:List Grp} {R:Value→List Grp→Prop}
    (hf:P.funcs[f]? = some fn) (hb:fn.body=some c) (hn:fn.ntmps=n.k) (hle:args.length≤n.k)
    (k:G P c (BodyM P fn W0 R) n (argEnv 0 args) W0 H) (hz:n.dl=[]:=by rfl):Tri P f args.toArray W0 H R:=by
  intro w hs
  refine callsIn_wide.1 (callsIn_of_wp_marks (F:=Fence.wide) (n:=9) hf hb trivial ((wpIn_wide (n:=9)).2 (k _ w ?_ hs)) rfl)
  refine ⟨by unfold Fr.ds; rw [hz],by simp [hn]; omega,fun u w=>match args[u]? with | some v=>T7 v==some w | none=>false,?_,?_⟩
  · intro s hs w
    obtain ⟨h1,h2,h3⟩:=A0d args 0 s hs
    simp only [Nat.sub_zero] at h3
    simp only [h3]
  · intro s hs
    obtain ⟨h1,h2,h3⟩:=A0d args 0 s hs
    simp only [Nat.sub_zero] at h3
    rw [h1]
    simp only [chT,List.all_nil,if_true]
    have hlt:s.t<args.length:=by
      rcases Nat.lt_or_ge s.t args.length with h | h
      · exact h
      · simp [List.getElem?_eq_none h] at h3
    rw [Array.getElem?_append_left (by simpa using hlt)]
    simpa using h3
theorem results_run {P:Program} {fn:Func} {E:Env} {W0:World} {H:List Grp} {n:Fr} {a:Act} {w:World} (ha:Ag n E a) (hs:Sat W0 H w) {rs:List ResultVar} {l:List Value}
    (hr:fn.results=rs.toArray) (h:RVs P E W0 H rs l):(results fn a.tmps).run P w=.ok (V4 l) w:=by
  have e2:=h.run (P:=P) ha hs
  have e3:((rs.toArray).mapM (resOne a.tmps)).run P w=.ok l.toArray w:=by
    rw [Array.mapM_eq_mapM_toList,Sem.run_map,e2]; rfl
  rw [results_eq,hr,Sem.run_bind,e3]
  simp only [Result.andThen_ok,Sem.run_pure]
  congr 1
  cases l with
  | nil=>rfl
  | cons v l=>cases l with
    | nil=>rfl
    | cons u l=>simp [V4]
theorem N_retM {P:Program} {fn:Func} {n:Fr} {E:Env} {W0:World} {H:List Grp} {R:Value→List Grp→Prop} {x:Exit} {D:Nat} (rs:List ResultVar) (l:List Value)
    (hm:n.dl=mkD D) (hr:fn.results=rs.toArray) (h:RVs P E W0 H rs l) (hx:(match x with | .normal=>true | .ret=>true | _=>false)=true)
    (k:∃ H',R (V4 l) H'∧∀ w,Sat W0 H w→Sat W0 H' w):N (BodyM P fn W0 R) x n E W0 ([(D,.deferred (some []))]::H):=by
  intro a w ha hs
  obtain ⟨H',hR,hH⟩:=k
  have h1:a.defers=[{ target:=.collected D,args:=#[] }]:=by rw [ha.defers]; unfold Fr.ds; rw [hm]
  have hs2:=(hs.put0 (.deferred none)).tail
  have key:LeavesInM Fence.wide 9 P fn a.tmps (fun e w'=>∃ v H',e=.returned v∧R v H'∧Sat W0 H' w') a.defers .returning w:=by
    rw [h1]
    exact ⟨by simp,.inl ⟨D,_,rfl,run_takeDeferred (hs.has (D,_) (by simp)),_,results_run ha hs2 hr h,V4 l,H',rfl,hR,hH _ hs2⟩⟩
  cases x <;> simp at hx
  · exact key
  · exact key
theorem N_retM0 {P:Program} {fn:Func} {n:Fr} {E:Env} {W0:World} {H:List Grp} {R:Value→List Grp→Prop} {x:Exit} (rs:List ResultVar) (l:List Value)
    (hr:fn.results=rs.toArray) (h:RVs P E W0 H rs l) (hx:(match x with | .normal=>true | .ret=>true | _=>false)=true)
    (k:∃ H',R (V4 l) H'∧∀ w,Sat W0 H w→Sat W0 H' w) (hz:n.dl=[]:=by rfl):N (BodyM P fn W0 R) x n E W0 H:=by
  intro a w ha hs
  obtain ⟨H',hR,hH⟩:=k
  have h1:a.defers=[]:=by rw [ha.defers]; unfold Fr.ds; rw [hz]
  have key:LeavesInM Fence.wide 9 P fn a.tmps (fun e w'=>∃ v H',e=.returned v∧R v H'∧Sat W0 H' w') a.defers .returning w:=by
    rw [h1]
    exact ⟨_,results_run ha hs hr h,V4 l,H',rfl,hR,hH _ hs⟩
  cases x <;> simp at hx
  · exact key
  · exact key
end Go.Sw
namespace Go.Proofs.YtdolpaagdpeagaaGreatDoor
open Go.Sw Go.RowKit Go.Shelf
attribute [local go_sem] Oper.semAt_some
def uptoF {m:Nat} (k:Nat) (_:k≤m):List (Fin m):=(List.finRange m).take k
theorem uptoF_len {m:Nat} (k:Nat) (hk:k≤m):(uptoF k hk).length=k:=by simp [uptoF]; omega
theorem uptoF_succ {m:Nat} (k:Nat) (hk:k<m):uptoF (k+1) hk=uptoF k (Nat.le_of_lt hk)++[⟨k,hk⟩]:=by
  unfold uptoF
  rw [List.take_add_one]
  congr 1
  rw [List.getElem?_eq_getElem (by simpa using hk)]
  simp
set_option maxRecDepth 100000 in
set_option maxHeartbeats 2000000 in
theorem chunk1_in (kb nb b off cap m:Nat) (hm:m≤34359738368) (hcap:64 * m≤cap) (l:Nat) (J Jx:List (Fin m)→World→Prop)
    (hJk:∀ pre W,J pre W→W.heap[kb]? = some (.cells #[.slice (some ⟨b,off,none⟩) (64 * m) cap] 31)∧W.heap[nb]? = some (.cells #[.int .i64 64] 3))
    (hJd:∀ pre W,J pre W→J pre W.drew)
    (hY:∀ pre x W,J pre W→pre.length<m→YieldAt Fence.wide 7 Tryz.prog l #[.slice (some ⟨b,off+64 * x.1,none⟩) 64 64] W fun e W' =>
      (e=.returned (.bool true)∧J (pre++[x]) W')∨(e=.returned (.bool false)∧Jx (pre++[x]) W'))
    (W:World) (h0:J [] W) :
    CallsIn Fence.wide 8 Tryz.prog 136 #[.func (.yield l) #[] #[],.pointer (some ⟨kb,0,none⟩),.pointer (some ⟨nb,0,none⟩)] W fun e W'=>(∃ v,e=.returned v) ∧
      ((∃ ys,ys=List.finRange m∧J ys W')∨(∃ pre,True∧Jx pre W')):=by
  have hc0:=hJk _ _ h0
  refine callsIn_of_wp Tryz.func136 rfl trivial ?_ rfl
  simp only [Tryz.ntmps136,List.size_toArray,List.length_cons,List.length_nil,Nat.reduceAdd,Nat.reduceSub,Array.replicate_succ,Array.replicate_zero,List.push_toArray,List.append_toArray,List.nil_append,List.cons_append]
  gi_wp2
  gi_loopw [4] (fun i wr=>∃ (k:Nat) (hk:k≤m),i=.int .i64 ((64 * k:Nat):Int)∧J (uptoF k hk) wr)
    (fun i _=>64 * m - (intOf i).toNat)
  case atStart=>exact ⟨0,Nat.zero_le _,rfl,by simpa [uptoF] using h0⟩
  case round =>
    obtain ⟨k,hk,rfl,hJs⟩:=hrel
    obtain ⟨hc1,hc2⟩:=hJk _ _ hJs
    have hcx:wr.cell? ⟨kb,0,none⟩=some (.slice (some ⟨b,off,none⟩) (64 * m) cap):=by unfold World.cell?; rw [hc1]; rfl
    have hcn:wr.cell? ⟨nb,0,none⟩=some (.int .i64 64):=by unfold World.cell?; rw [hc2]; rfl
    by_cases hlt:k<m
    · obtain ⟨fn,tmps,assign,body,hy,hR⟩:=hY _ ⟨k,hlt⟩ wr.drew (hJd _ _ hJs) (by rw [uptoF_len]; exact hlt)
      dsimp only at hy
      gi_wp2
      have hmix:Tryz.prog.follows .mixedOrders=true:=by kernel_rfl
      gi_region
      gi_wp2
      refine hR.mono ?_
      rintro e W3 (⟨rfl,hJ3⟩ | ⟨rfl,hJx3⟩)
      · obtain ⟨hc3,hc4⟩:=hJk _ _ hJ3
        have hcx3:W3.cell? ⟨kb,0,none⟩=some (.slice (some ⟨b,off,none⟩) (64 * m) cap):=by unfold World.cell?; rw [hc3]; rfl
        have hcn3:W3.cell? ⟨nb,0,none⟩=some (.int .i64 64):=by unfold World.cell?; rw [hc4]; rfl
        gi_wp2
        go_roundw
        case rel=>exact ⟨k+1,hlt,by simp; omega,by rw [uptoF_succ]; exact hJ3⟩
        case measure=>simp [intOf]; omega
      · gi_wp2
        refine bodyPost_ret (results_none rfl _ _ _) rfl ?_
        exact ⟨⟨_,rfl⟩,.inr ⟨_,trivial,hJx3⟩⟩
    · obtain rfl:k=m:=by omega
      gi_wp2
      go_end0
      exact ⟨⟨_,rfl⟩,.inl ⟨_,by unfold uptoF; exact List.take_of_length_le (by simp),hJs⟩⟩
theorem chunk_stops (kb nb b off cap m:Nat) (hm:m≤34359738368) (hcap:64 * m≤cap) (w:World)
    (hk:w.heap[kb]? = some (.cells #[.slice (some ⟨b,off,none⟩) (64 * m) cap] 31)) (hn:w.heap[nb]? = some (.cells #[.int .i64 64] 3)) :
    SeqStopsK Fence.wide 8 Tryz.prog 136 #[.pointer (some ⟨kb,0,none⟩),.pointer (some ⟨nb,0,none⟩)] (fun k:Fin m=>#[.slice (some ⟨b,off+64 * k.1,none⟩) 64 64])
      (KeepG [[(kb,.cells #[.slice (some ⟨b,off,none⟩) (64 * m) cap] 31)],[(nb,.cells #[.int .i64 64] 3)]]) (fun xs=>xs=List.finRange m) (fun _=>True) m w:=by
  intro l J Jx W hW hJ hJx hY h0
  have hk0:W.heap[kb]? = some (.cells #[.slice (some ⟨b,off,none⟩) (64 * m) cap] 31):=(hW.block kb (Array.getElem?_eq_some_iff.1 hk).1).trans hk
  have hn0:W.heap[nb]? = some (.cells #[.int .i64 64] 3):=(hW.block nb (Array.getElem?_eq_some_iff.1 hn).1).trans hn
  have hkey:=chunk1_in kb nb b off cap m hm hcap l
    (fun pre W=>J pre W∧W.heap[kb]? = some (.cells #[.slice (some ⟨b,off,none⟩) (64 * m) cap] 31)∧W.heap[nb]? = some (.cells #[.int .i64 64] 3)) Jx
    (fun pre W h=>h.2)
    (fun pre W h=>⟨hJ pre W W.drew none h.1 ⟨rfl,rfl,rfl,Nat.le_refl _,fun _ _ _=>rfl⟩ (fun r e=>by cases e),h.2⟩)
    (fun pre x W h hlen=>by
      obtain ⟨fn,tmps,assign,body,h1,h2⟩:=hY pre x W h.1 hlen
      refine ⟨fn,tmps,assign,body,h1,h2.mono ?_⟩
      rintro e W' (⟨he,hJ',hK⟩ | hx)
      · exact .inl ⟨he,hJ',hK (kb,_) (by simp) h.2.1,hK (nb,_) (by simp) h.2.2⟩
      · exact .inr hx)
    W ⟨h0,hk0,hn0⟩
  refine hkey.mono ?_
  rintro e W' ⟨h1,h2 | h2⟩
  · obtain ⟨ys,e1,e2,_⟩:=h2
    exact ⟨h1,.inl ⟨ys,e1,e2⟩⟩
  · exact ⟨h1,.inr h2⟩
end Go.Proofs.YtdolpaagdpeagaaGreatDoor
