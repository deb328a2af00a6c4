/- copy into a block of one's own; slices of arrays; an array's value at an index. General over the program. (and what it stands on) -/
import Derived.Tactics
import Derived.Below
import Derived.KernelRfl
import Derived.Laws.Sem
import Derived.Laws.Small
import Derived.Deep.Quiet
import Derived.LoopN
import Derived.Deep.AppendSrc
import Derived.Laws.MakeOwn
import Derived.OrdersHeld
import Derived.Laws.IdiomStrings
import Derived.Lib.MapLaws
import Derived.Lib.ValidLaws
import Derived.Laws.Externs
import Derived.Lib.SlTrimSet
import Derived.Shelf.Strings.Repeat
import Derived.Shelf.Strconv.SyntaxError
import Derived.Shelf.LaysM
import Derived.Shelf.Strings.SlTrimAscii
import Derived.Test.YtcgmnagcgkhogaaGreatDoorProg
import Derived.Test.YtcgmnagcgkhogaaGreatDoorRows
import Derived.Laws.LoneSync
import Derived.Defers
import Derived.Laws.CopyRow
import Derived.Lib.AppendZeros
namespace Go
theorem kr {α : Sort _} {a b : α} (h : a = b := by kernel_rfl) : a = b := h
end Go
namespace Go
abbrev mB (a : Array UInt8) : ByteArray := ByteArray.mk a
abbrev eB : ByteArray := ByteArray.mk #[]
abbrev zN : List Value := [.string eB,.string eB,.slice none 0 0,.slice none 0 0,.string eB]
end Go
namespace Go.Sw
open Go.RowKit
abbrev Grp:=List (Nat × Obj)
structure Sat (W0:World) (H:List Grp) (w:World):Prop where
 below:Below W0.heap.size W0 w
 nodup:(H.flatten.map Prod.fst).Nodup
 has:∀ p,p∈H.flatten→w.heap[p.1]? = some p.2
 high:∀ p,p∈H.flatten→W0.heap.size≤p.1
structure Sl where
 t:Nat
 ch:List (Nat × Bool)
 v:Value
abbrev Env:=List Sl
abbrev pt (b:Nat):Value:=.pointer (some ⟨b,0,none⟩)
def Env.find:List Sl→Nat→Option Sl
 | [],_=>none
 | s::r,t=>if s.t==t then some s else Env.find r t
def V0:Value→Option Bool
 | .bool b=>some b
 | _=>none
def chT (β:Nat→Bool→Bool) (ch:List (Nat × Bool)):Bool:=ch.all fun p=>β p.1 p.2
structure Fr where
 k:Nat
 dl:List Deferred
instance (k:Nat):OfNat Fr k:=⟨⟨k,[]⟩⟩
def Fr.ds (n:Fr):List Deferred:=n.dl
structure Ag (n:Fr) (E:Env) (a:Act):Prop where
 defers:a.defers=n.ds
 size:a.tmps.size=n.k
 at_:∃ β:Nat→Bool→Bool,(∀ s,s∈E→∀ w,β s.t w=(V0 s.v==some w)) ∧
  ∀ s,s∈E→a.tmps[s.t]? = some (if chT β s.ch then s.v else undef)
theorem Env.find_mem {E:Env} {t:Nat} {s:Sl} (h:Env.find E t=some s):s∈E∧s.t=t:=by
  induction E with
  | nil=>simp [Env.find] at h
  | cons x r ih =>
    simp only [Env.find] at h
    split at h
    rename_i hx; injection h with h; subst h; exact ⟨List.mem_cons_self,by simpa using hx⟩
    obtain ⟨h1,h2⟩:=ih h; exact ⟨List.mem_cons_of_mem _ h1,h2⟩
def freeOf (t:Nat) (ch:List (Nat × Bool)):Bool:=ch.all fun p=>!(p.1==t)
def Env.put (E:List Sl) (d:Option Nat) (ch:List (Nat × Bool)) (v:Value):List Sl :=
 match d with
 | some t=>⟨t,ch,v⟩::E.filter fun s=>!(s.t==t)&&freeOf t s.ch
 | none=>E
theorem chT_free {β β':Nat→Bool→Bool} {t:Nat} (hβ:∀ u w,u≠t→β' u w=β u w) {ch:List (Nat × Bool)} (h:freeOf t ch=true):chT β' ch=chT β ch:=by
  induction ch with
  | nil=>rfl
  | cons p r ih =>
    simp only [freeOf,List.all_cons,Bool.and_eq_true] at h
    have h1:p.1≠t:=by simpa using h.1
    have h2:=ih h.2
    unfold chT at h2 ⊢
    simp only [List.all_cons,hβ _ _ h1,h2]
def G1 (n:Fr) (ch:List (Nat × Bool)):Option Nat→Bool
 | some t=>decide (t<n.k)&&freeOf t ch
 | none=>true
theorem Ag.put {n:Fr} {E:Env} {a:Act} (h:Ag n E a) {β:Nat→Bool→Bool} (hβ:∀ s,s∈E→∀ w,β s.t w=(V0 s.v==some w))
    (hat:∀ s,s∈E→a.tmps[s.t]? = some (if chT β s.ch then s.v else undef)) {d:Option Nat} {ch:List (Nat × Bool)} (hd:G1 n ch d=true) (v:Value) :
    Ag n (Env.put E d ch v) (a.put d (if chT β ch then v else undef)):=by
  cases d with
  | none=>exact h
  | some t =>
    simp only [G1,Bool.and_eq_true,decide_eq_true_eq] at hd
    obtain ⟨ht,hf⟩:=hd
    refine ⟨h.defers,by simp [Act.put,h.size],fun u w=>if u=t then V0 v==some w else β u w,?_,?_⟩
    intro s hs w
    simp only [Env.put,List.mem_cons,List.mem_filter,Bool.and_eq_true] at hs
    rcases hs with rfl | ⟨hs,hne,_⟩
    simp
    have:s.t≠t:=by simpa using hne
    simp only [this,if_false]; exact hβ s hs w
    intro s hs
    simp only [Env.put,List.mem_cons,List.mem_filter,Bool.and_eq_true] at hs
    rcases hs with rfl | ⟨hs,hne,hfs⟩
    simp only [Act.put]
    rw [chT_free (β:=β) (β':=fun u w=>if u=t then V0 v==some w else β u w) (t:=t) (fun u w hu=>if_neg hu) hf]
    rw [Array.getElem?_setIfInBounds_self_of_lt (by rw [h.size]; exact ht)]
    have hne':s.t≠t:=by simpa using hne
    simp only [Act.put]
    rw [chT_free (β:=β) (β':=fun u w=>if u=t then V0 v==some w else β u w) (t:=t) (fun u w hu=>if_neg hu) hfs]
    rw [Array.getElem?_setIfInBounds_ne (by omega)]
    exact hat s hs
theorem Ag.sub {n:Fr} {E E':Env} {a:Act} (h:Ag n E a) (hs:∀ s,s∈E'→s∈E):Ag n E' a:=by
 obtain ⟨β,h1,h2⟩:=h.at_
 exact ⟨h.defers,h.size,β,fun s h=>h1 s (hs s h),fun s h=>h2 s (hs s h)⟩
def D7 (ops:Array Oper) (E:List Sl):Option (Nat × Bool)→Option (List (Nat × Bool))
  | none=>some []
  | some (j,want) =>
    match (ops[j]?).bind Oper.dst with
    | some dj=>(match Env.find E dj with | some s=>some ((dj,want)::s.ch) | none=>none)
    | none=>none
theorem P3 {ops:Array Oper} {E:Env} {o:Oper} {ch:List (Nat × Bool)} {tmps:Array Value} {β:Nat→Bool→Bool}
    (hβ:∀ s,s∈E→∀ w,β s.t w=(V0 s.v==some w)) (hat:∀ s,s∈E→tmps[s.t]? = some (if chT β s.ch then s.v else undef))
    (h:D7 ops E o.guard=some ch):Region.wanted o (yielded ops tmps)=chT β ch:=by
  unfold Region.wanted
  cases hg:o.guard with
  | none=>rw [hg] at h; simp only [D7,Option.some.injEq] at h; subst h; simp [chT]
  | some jw =>
    obtain ⟨j,want⟩:=jw
    rw [hg] at h
    simp only [D7] at h
    cases hd:(ops[j]?).bind Oper.dst with
    | none=>rw [hd] at h; simp at h
    | some dj =>
      rw [hd] at h
      dsimp only at h
      cases hf:Env.find E dj with
      | none=>rw [hf] at h; simp at h
      | some s =>
        rw [hf] at h
        simp only [Option.some.injEq] at h
        subst h
        obtain ⟨hm,rfl⟩:=Env.find_mem hf
        have h1:=hat s hm
        have h2:=hβ s hm want
        simp only [yielded,hd,Option.bind_some,h1]
        have e:chT β ((s.t,want)::s.ch)=(β s.t want&&chT β s.ch):=by simp [chT]
        rw [e,h2]
        cases hc:chT β s.ch
        simp [undef]
        simp only [if_true,Bool.and_true]
        cases hv:s.v <;> simp [V0]
def subCh (c1 c2:List (Nat × Bool)):Bool:=c1.all fun p=>c2.any fun q=>p.1==q.1&&p.2==q.2
theorem subCh_true {β:Nat→Bool→Bool} {c1 c2:List (Nat × Bool)} (h:subCh c1 c2=true) (h2:chT β c2=true):chT β c1=true:=by
 unfold chT at *
 rw [List.all_eq_true] at *
 intro p hp
 have:=List.all_eq_true.1 h p hp
 rw [List.any_eq_true] at this
 obtain ⟨q,hq,he⟩:=this
 have:=h2 q hq
 simp at he
 rw [he.1,he.2]
 exact this
def evT (E:List Sl) (ch:List (Nat × Bool)) (t:Nat):Option Value :=
 match Env.find E t with
 | some s=>if subCh s.ch ch then some s.v else none
 | none=>none
def evO (E:List Sl) (ch:List (Nat × Bool)):Operand→Option Value
 | .tmp t=>evT E ch t
 | .const v=>some v
 | .global g=>some (.pointer (some ⟨g,0,none⟩))
 | .func f=>some (.func (.func f) #[] #[])
theorem L0 {E:Env} {ch:List (Nat × Bool)} {a:Act} {β:Nat→Bool→Bool}
    (hat:∀ s,s∈E→a.tmps[s.t]? = some (if chT β s.ch then s.v else undef)) (hc:chT β ch=true) {x:Operand} {v:Value} (h:evO E ch x=some v):a.eval x=v:=by
  cases x with
  | tmp t =>
    simp only [evO,evT] at h
    split at h
    rename_i s hf
    obtain ⟨hm,rfl⟩:=Env.find_mem hf
    split at h
    rename_i hs
    injection h with h
    have:=hat s hm
    rw [subCh_true hs hc] at this
    simp only [Act.eval,Array.getD_eq_getD_getElem?,this]
    simpa using h
    simp at h
    simp at h
  | const v=>simp only [evO,Option.some.injEq] at h; exact h
  | global g=>simp only [evO,Option.some.injEq] at h; exact h
  | func f=>simp only [evO,Option.some.injEq] at h; exact h
end Go.Sw
namespace Go.Sw
def binV (P:Program) (op:BinOp) (t:TypeId):Value→Value→Option Value
  | .int k a,.int k' b =>
    match op with
    | .shl=>if b<0 then none else some (.int k (k.wrap (a * 2 ^ (min b.toNat k.bits))))
    | .shr=>if b<0 then none else some (.int k (a.fdiv (2 ^ (min b.toNat k.bits))))
    | .add=>if k=k' then some (.int k (k.wrap (a+b))) else none
    | .sub=>if k=k' then some (.int k (k.wrap (a - b))) else none
    | .mul=>if k=k' then some (.int k (k.wrap (a * b))) else none
    | .quo=>if k=k' then (if b=0 then none else some (.int k (k.wrap (a.tdiv b)))) else none
    | .rem=>if k=k' then (if b=0 then none else some (.int k (a.tmod b))) else none
    | .and=>if k=k' then some (.int k (k.wrap (BitVec.ofInt k.bits a &&& BitVec.ofInt k.bits b).toNat)) else none
    | .or=>if k=k' then some (.int k (k.wrap (BitVec.ofInt k.bits a ||| BitVec.ofInt k.bits b).toNat)) else none
    | .xor=>if k=k' then some (.int k (k.wrap (BitVec.ofInt k.bits a ^^^ BitVec.ofInt k.bits b).toNat)) else none
    | .andNot=>if k=k' then some (.int k (k.wrap (BitVec.ofInt k.bits a &&& ~~~BitVec.ofInt k.bits b).toNat)) else none
    | .eql=>if k=k' then some (.bool (a==b)) else none
    | .neq=>if k=k' then some (.bool (a != b)) else none
    | .lss=>if k=k' then some (.bool (decide (a<b))) else none
    | .leq=>if k=k' then some (.bool (decide (a≤b))) else none
    | .gtr=>if k=k' then some (.bool (decide (a > b))) else none
    | .geq=>if k=k' then some (.bool (decide (a ≥ b))) else none
  | .string a,.string b =>
    match op with
    | .eql=>some (.bool (a.toList==b.toList))
    | .neq=>some (.bool !(a.toList==b.toList))
    | .lss=>some (.bool (Op.bytesLess a.toList b.toList))
    | .leq=>some (.bool (Op.bytesLess a.toList b.toList||a.toList==b.toList))
    | .gtr=>some (.bool !(Op.bytesLess a.toList b.toList||a.toList==b.toList))
    | .geq=>some (.bool !(Op.bytesLess a.toList b.toList))
    | _=>none
  | .bool a,.bool b =>
    match op,P.underlying t with
    | .eql,some .bool=>some (.bool (a==b))
    | .neq,some .bool=>some (.bool !(a==b))
    | _,_=>none
  | .pointer none,.pointer b =>
    match op,P.underlying t with
    | .eql,some (.pointer _)=>some (.bool b.isNone)
    | .neq,some (.pointer _)=>some (.bool !b.isNone)
    | _,_=>none
  | .pointer (some _),.pointer none =>
    match op,P.underlying t with
    | .eql,some (.pointer _)=>some (.bool false)
    | .neq,some (.pointer _)=>some (.bool true)
    | _,_=>none
  | .slice none _ _,.slice b _ _ =>
    match op,P.underlying t with
    | .eql,some (.slice _)=>some (.bool b.isNone)
    | .neq,some (.slice _)=>some (.bool !b.isNone)
    | _,_=>none
  | .slice (some _) _ _,.slice none _ _ =>
    match op,P.underlying t with
    | .eql,some (.slice _)=>some (.bool false)
    | .neq,some (.slice _)=>some (.bool true)
    | _,_=>none
  | .map none,.map b =>
    match op,P.underlying t with
    | .eql,some (.map _ _)=>some (.bool b.isNone)
    | .neq,some (.map _ _)=>some (.bool !b.isNone)
    | _,_=>none
  | .map (some _),.map none =>
    match op,P.underlying t with
    | .eql,some (.map _ _)=>some (.bool false)
    | .neq,some (.map _ _)=>some (.bool true)
    | _,_=>none
  | _,_=>none
theorem equal_bool' {P:Program} {t:TypeId} (h:P.underlying t=some .bool) (a b:Bool) (d:Nat) (w:World):(Op.equalIn (d+1) t (.bool a) (.bool b)).run P w=.ok (a==b) w:=by
 simp [Op.equalIn,run_underlying h]
theorem equal_bool {P:Program} {t:TypeId} (h:P.underlying t=some .bool) (a b:Bool) (w:World):(Op.equal t (.bool a) (.bool b)).run P w=.ok (a==b) w:=equal_bool' h a b 9999 w
theorem equal_ptr' {P:Program} {t e:TypeId} (h:P.underlying t=some (.pointer e)) (b:Option Addr) (d:Nat) (w:World):(Op.equalIn (d+1) t (.pointer none) (.pointer b)).run P w=.ok b.isNone w:=by
 simp [Op.equalIn,run_underlying h]
theorem equal_ptr {P:Program} {t e:TypeId} (h:P.underlying t=some (.pointer e)) (b:Option Addr) (w:World):(Op.equal t (.pointer none) (.pointer b)).run P w=.ok b.isNone w:=equal_ptr' h b 9999 w
theorem equal_ptr2' {P:Program} {t e:TypeId} (h:P.underlying t=some (.pointer e)) (a:Addr) (d:Nat) (w:World):(Op.equalIn (d+1) t (.pointer (some a)) (.pointer none)).run P w=.ok false w:=by
 simp [Op.equalIn,run_underlying h]
theorem equal_ptr2 {P:Program} {t e:TypeId} (h:P.underlying t=some (.pointer e)) (a:Addr) (w:World):(Op.equal t (.pointer (some a)) (.pointer none)).run P w=.ok false w:=equal_ptr2' h a 9999 w
theorem equal_slice' {P:Program} {t e:TypeId} (h:P.underlying t=some (.slice e)) (n c n' c':Nat) (b:Option Addr) (d:Nat) (w:World):(Op.equalIn (d+1) t (.slice none n c) (.slice b n' c')).run P w=.ok b.isNone w:=by
 simp [Op.equalIn,run_underlying h]
theorem equal_slice {P:Program} {t e:TypeId} (h:P.underlying t=some (.slice e)) (n c n' c':Nat) (b:Option Addr) (w:World):(Op.equal t (.slice none n c) (.slice b n' c')).run P w=.ok b.isNone w:=equal_slice' h n c n' c' b 9999 w
theorem equal_slice2' {P:Program} {t e:TypeId} (h:P.underlying t=some (.slice e)) (n c n' c':Nat) (a:Addr) (d:Nat) (w:World):(Op.equalIn (d+1) t (.slice (some a) n c) (.slice none n' c')).run P w=.ok false w:=by
 simp [Op.equalIn,run_underlying h]
theorem equal_slice2 {P:Program} {t e:TypeId} (h:P.underlying t=some (.slice e)) (n c n' c':Nat) (a:Addr) (w:World):(Op.equal t (.slice (some a) n c) (.slice none n' c')).run P w=.ok false w:=equal_slice2' h n c n' c' a 9999 w
theorem equal_map' {P:Program} {t e k:TypeId} (h:P.underlying t=some (.map k e)) (b:Option Nat) (d:Nat) (w:World):(Op.equalIn (d+1) t (.map none) (.map b)).run P w=.ok b.isNone w:=by
 simp [Op.equalIn,run_underlying h]
theorem equal_map {P:Program} {t e k:TypeId} (h:P.underlying t=some (.map k e)) (b:Option Nat) (w:World):(Op.equal t (.map none) (.map b)).run P w=.ok b.isNone w:=equal_map' h b 9999 w
theorem equal_map2' {P:Program} {t e k:TypeId} (h:P.underlying t=some (.map k e)) (a:Nat) (d:Nat) (w:World):(Op.equalIn (d+1) t (.map (some a)) (.map none)).run P w=.ok false w:=by
 simp [Op.equalIn,run_underlying h]
theorem equal_map2 {P:Program} {t e k:TypeId} (h:P.underlying t=some (.map k e)) (a:Nat) (w:World):(Op.equal t (.map (some a)) (.map none)).run P w=.ok false w:=equal_map2' h a 9999 w
theorem binV_sound {P:Program} {op:BinOp} {t:TypeId} {x y v:Value} (h:binV P op t x y=some v) (w:World):(binOp op t x y).run P w=.ok v w:=by
 cases x <;> cases y <;> (try (simp [binV] at h; done))
 case int.int k a k' b =>
  cases op <;> simp only [binV] at h
  case shl=>(split at h); (simp at h); (rename_i hb; injection h with h; subst h; simp only [binOp,Op.shift,if_neg hb]; rfl)
  case shr=>(split at h); (simp at h); (rename_i hb; injection h with h; subst h; simp only [binOp,Op.shift,if_neg hb]; rfl)
  case quo=>(split at h; split at h) <;> simp_all [binOp,Op.intDiv]
  case rem=>(split at h; split at h) <;> simp_all [binOp,Op.intDiv]
  all_goals
   split at h
   simp_all [binOp,Op.intArith,Op.intBits,Op.intCmp]
   simp at h
 case string.string a b=>cases op <;> simp only [binV,Option.some.injEq,reduceCtorEq] at h <;> (subst h; simp [binOp,Op.stringOp])
 case bool.bool a b =>
  simp only [binV] at h
  split at h <;> simp_all [binOp,equal_bool]
 case pointer.pointer a b =>
  cases a
  simp only [binV] at h
  split at h
  rename_i hu; simp only [Option.some.injEq] at h; subst h; cases b <;> simp [binOp,equal_ptr hu]
  rename_i hu; simp only [Option.some.injEq] at h; subst h; cases b <;> simp [binOp,equal_ptr hu]
  simp at h
  cases b
  simp only [binV] at h
  split at h
  rename_i hu; simp only [Option.some.injEq] at h; subst h; simp [binOp,equal_ptr2 hu]
  rename_i hu; simp only [Option.some.injEq] at h; subst h; simp [binOp,equal_ptr2 hu]
  simp at h
  simp [binV] at h
 case slice.slice a n c b n' c' =>
  cases a
  simp only [binV] at h
  split at h
  rename_i hu; simp only [Option.some.injEq] at h; subst h; simp [binOp,equal_slice hu]
  rename_i hu; simp only [Option.some.injEq] at h; subst h; simp [binOp,equal_slice hu]
  simp at h
  cases b
  simp only [binV] at h
  split at h
  rename_i hu; simp only [Option.some.injEq] at h; subst h; simp [binOp,equal_slice2 hu]
  rename_i hu; simp only [Option.some.injEq] at h; subst h; simp [binOp,equal_slice2 hu]
  simp at h
  simp [binV] at h
 case map.map a b =>
  cases a
  simp only [binV] at h
  split at h
  rename_i hu; simp only [Option.some.injEq] at h; subst h; simp [binOp,equal_map hu]
  rename_i hu; simp only [Option.some.injEq] at h; subst h; simp [binOp,equal_map hu]
  simp at h
  cases b
  simp only [binV] at h
  split at h
  rename_i hu; simp only [Option.some.injEq] at h; subst h; simp [binOp,equal_map2 hu]
  rename_i hu; simp only [Option.some.injEq] at h; subst h; simp [binOp,equal_map2 hu]
  simp at h
  simp [binV] at h
def unV:UnOp→Value→Option Value
 | .neg,.int k n=>some (.int k (k.wrap (0 - n)))
 | .xor,.int k n=>some (.int k (k.wrap (BitVec.ofInt k.bits (if k.signed then -1 else k.max) ^^^ BitVec.ofInt k.bits n).toNat))
 | .not,.bool b=>some (.bool !b)
 | _,_=>none
theorem unV_sound {P:Program} {op:UnOp} {x v:Value} (h:unV op x=some v) (w:World):(Op.unary op x).run P w=.ok v w:=by
 cases op <;> cases x <;> simp only [unV,Option.some.injEq,reduceCtorEq] at h <;> (subst h; simp [Op.unary,Op.intArith,Op.intBits])
def convV (P:Program) (s d:TypeId) (x:Value):Option Value :=
 match P.underlying s,P.underlying d,x with
 | some _,some (.int k),.int _ n=>some (.int k (k.wrap n))
 | some _,some .string,.int _ n=>some (.string (Utf8.encode n))
 | some .string,some .string,.string b=>some (.string b)
 | _,_,_=>none
theorem convV_sound {P:Program} {s d:TypeId} {x v:Value} (h:convV P s d x=some v) (w:World):(convert s d x).run P w=.ok v w:=by
 unfold convV at h
 split at h
 rename_i h1 h2; injection h with h; subst h; simp [convert,run_underlying h1,run_underlying h2,Conv.intToInt]
 rename_i h1 h2; injection h with h; subst h; simp [convert,run_underlying h1,run_underlying h2,Conv.intToString]
 rename_i h1 h2; injection h with h; subst h; simp [convert,run_underlying h1,run_underlying h2]
 simp at h
def aggB (P:Program) (t:TypeId):Option Bool :=
 match P.underlying t with
 | some (.struct _)=>some true
 | some (.array _ _)=>some true
 | some _=>some false
 | none=>none
theorem Q6 {P:Program} {t:TypeId} {b:Bool} (h:aggB P t=some b) (w:World):(isAgg t).run P w=.ok b w:=by
 unfold aggB at h
 split at h
 rename_i h1; injection h with h; subst h; simp [isAgg,run_underlying h1]
 rename_i h1; injection h with h; subst h; simp [isAgg,run_underlying h1]
 rename_i d hs ha h1
 injection h with h; subst h
 have hs':=hs
 simp only [isAgg,Sem.run_bind,run_underlying h1,Result.andThen_ok]
 cases d <;> first | rfl | exact (ha _ _ h1).elim | exact (hs _ h1).elim
 simp at h
def T3 (P:Program) (t:TypeId):Option Nat:=(P.info? t).map (·.size)
theorem L4 {P:Program} {t:TypeId} {n:Nat} (h:T3 P t=some n) (w:World):(sizeOf t).run P w=.ok n w:=by
 unfold T3 at h
 cases hi:P.info? t with
 | none=>rw [hi] at h; simp at h
 | some i=>rw [hi] at h; simp at h; subst h; simp [sizeOf,typeInfo,hi]
def partV (P:Program) (t:TypeId) (cs:Array Value) (off:Nat):Option Value :=
 match aggB P t with
 | some true=>(match T3 P t with | some n=>some (.agg (cs.extract off (off+n))) | none=>none)
 | some false=>cs[off]?
 | none=>none
theorem partV_sound {P:Program} {t:TypeId} {cs:Array Value} {off:Nat} {v:Value} (h:partV P t cs off=some v) (w:World):(part t cs off).run P w=.ok v w:=by
 unfold partV at h
 split at h
 rename_i h1
 split at h
 rename_i n h2; injection h with h; subst h; simp [part,Q6 h1,L4 h2]
 simp at h
 rename_i h1; simp [part,Q6 h1,h]
 simp at h
def fieldV (P:Program) (t:TypeId) (x:Value) (f:Nat):Option Value :=
 match P.underlying t,x with
 | some (.struct fs),.agg cs=>(match fs[f]? with | some fd=>partV P fd.type cs fd.offset | none=>none)
 | _,_=>none
theorem fieldV_sound {P:Program} {t:TypeId} {x:Value} {f:Nat} {v:Value} (h:fieldV P t x f=some v) (w:World):(Instr.field t x f).run P w=.ok v w:=by
 unfold fieldV at h
 split at h
 rename_i fs cs h1
 split at h
 rename_i fd h2; simp [Instr.field,run_underlying h1,h2,asAgg,partV_sound h]
 simp at h
 simp at h
def fieldAddrV (P:Program) (t:TypeId) (x:Value) (f:Nat):Option Value :=
  match P.underlying t,x with
  | some (.struct fs),.pointer (some a) =>
    (match fs[f]? with
     | some fd=>(match T3 P fd.type with | some (_+1)=>some (.pointer (some (a.add fd.offset))) | _=>none)
     | none=>none)
  | _,_=>none
theorem fieldAddrV_sound {P:Program} {t:TypeId} {x:Value} {f:Nat} {v:Value} (h:fieldAddrV P t x f=some v) (w:World):(Instr.fieldAt t x f).run P w=.ok v w:=by
 unfold fieldAddrV at h
 split at h
 rename_i fs a h1
 split at h
 rename_i fd h2
 split at h
 rename_i h3; injection h with h; subst h
 simp [Instr.fieldAt,run_underlying h1,h2,Instr.sureAddr,fieldPlace,L4 h3]
 simp at h
 simp at h
 simp at h
def lenV (P:Program) (t:Option TypeId) (x:Option Value):Option Value :=
  match t,x with
  | some t,some x =>
    (match P.underlying t,x with
     | some .string,.string s=>some (.int .i64 ((s.size:Nat):Int))
     | some (.slice _),.slice _ n _=>some (.int .i64 ((n:Nat):Int))
     | some (.array n _),_=>some (.int .i64 ((n:Nat):Int))
     | _,_=>none)
  | _,_=>none
theorem lenV_sound {P:Program} {ts:Array TypeId} {avs:Array Value} {t:TypeId} {v:Value} (h:lenV P ts[0]? avs[0]? = some v) (w:World):(Builtin.len_ ts t avs).run P w=.ok v w:=by
 unfold lenV at h
 split at h
 rename_i t' x h1 h2
 split at h
 rename_i h3; injection h with h; subst h; simp [Builtin.len_,h1,h2,run_underlying h3,goInt]
 rename_i h3; injection h with h; subst h; simp [Builtin.len_,h1,h2,run_underlying h3,goInt]
 rename_i h3; injection h with h; subst h; simp [Builtin.len_,h1,h2,run_underlying h3,goInt]
 simp at h
 simp at h
def capV (P:Program) (t:Option TypeId) (x:Option Value):Option Value :=
  match t,x with
  | some t,some x =>
    (match P.underlying t,x with
     | some (.slice _),.slice _ _ n=>some (.int .i64 ((n:Nat):Int))
     | _,_=>none)
  | _,_=>none
theorem capV_sound {P:Program} {ts:Array TypeId} {avs:Array Value} {t:TypeId} {v:Value} (h:capV P ts[0]? avs[0]? = some v) (w:World):(Builtin.cap_ ts t avs).run P w=.ok v w:=by
 unfold capV at h
 split at h
 rename_i t' x h1 h2
 split at h
 rename_i h3; injection h with h; subst h; simp [Builtin.cap_,h1,h2,run_underlying h3,goInt]
 simp at h
 simp at h
def maxV:List Value→Option Value
 | [.int k a,.int _ b]=>some (.int k (if b > a then b else a))
 | _=>none
theorem maxV_sound {P:Program} {ts:Array TypeId} {avs:List Value} {t:TypeId} {v:Value} (h:maxV avs=some v) (w:World):(Builtin.max_ ts t avs.toArray).run P w=.ok v w:=by
 unfold maxV at h
 split at h
 injection h with h; subst h; simp [Builtin.max_,Builtin.max2]
 simp at h
def minV:List Value→Option Value
 | [.int k a,.int _ b]=>some (.int k (if b<a then b else a))
 | _=>none
theorem minV_sound {P:Program} {ts:Array TypeId} {avs:List Value} {t:TypeId} {v:Value} (h:minV avs=some v) (w:World):(Builtin.min_ ts t avs.toArray).run P w=.ok v w:=by
 unfold minV at h
 split at h
 injection h with h; subst h; simp [Builtin.min_,Builtin.min2]
 simp at h
def evL (ρ:Operand→Option Value):List Operand→Option (List Value)
 | []=>some []
 | x::r=>(match ρ x with | some v=>(match evL ρ r with | some l=>some (v::l) | none=>none) | none=>none)
theorem evL_map {ρ:Operand→Option Value} {r:Operand→Value} (hρ:∀ x v,ρ x=some v→r x=v):∀ (xs:List Operand) {vs:List Value},evL ρ xs=some vs→xs.map r=vs
  | [],vs,h=>by simp [evL] at h; subst h; rfl
  | x::xs,vs,h=>by
    simp only [evL] at h
    split at h
    rename_i v hv
    split at h
    rename_i l hl; injection h with h; subst h
    simp [hρ _ _ hv,evL_map hρ xs hl]
    simp at h
    simp at h
def evP (ρ:Operand→Option Value):List (Nat × Operand)→Option (List (Nat × Value))
 | []=>some []
 | (i,x)::r=>(match ρ x with | some v=>(match evP ρ r with | some l=>some ((i,v)::l) | none=>none) | none=>none)
theorem evP_map {ρ:Operand→Option Value} {r:Operand→Value} (hρ:∀ x v,ρ x=some v→r x=v):∀ (xs:List (Nat × Operand)) {vs:List (Nat × Value)},evP ρ xs=some vs→xs.map (fun p=>(p.1,r p.2))=vs
  | [],vs,h=>by simp [evP] at h; subst h; rfl
  | (i,x)::xs,vs,h=>by
    simp only [evP] at h
    split at h
    rename_i v hv
    split at h
    rename_i l hl; injection h with h; subst h
    simp [hρ _ _ hv,evP_map hρ xs hl]
    simp at h
    simp at h
def placesV (P:Program):List Field→Option (List (Nat × Nat))
 | []=>some []
 | f::r=>(match T3 P f.type with | some n=>(match placesV P r with | some l=>some ((f.offset,n)::l) | none=>none) | none=>none)
def zeroV (P:Program) (t:TypeId):Option Value:=(P.info? t).bind (·.zero)
theorem W2 {P:Program} {t:TypeId} {v:Value} (h:zeroV P t=some v) (w:World):(zeroValue t).run P w=.ok v w:=by
 unfold zeroV at h
 cases hi:P.info? t with
 | none=>rw [hi] at h; simp at h
 | some i=>rw [hi] at h; simp at h; simp [zeroValue,typeInfo,hi,h]
def fpl (f:Field):Sem (Nat × Nat):=do pure (f.offset,← sizeOf f.type)
theorem run_fpl {P:Program} {f:Field} {n:Nat} (h:T3 P f.type=some n) (w:World):(fpl f).run P w=.ok (f.offset,n) w:=by
 simp [fpl,L4 h]
theorem places_run {P:Program} (w:World):∀ (fs:List Field) {l:List (Nat × Nat)},placesV P fs=some l→(fs.mapM fpl).run P w=.ok l w
  | [],l,h=>by simp [placesV] at h; subst h; simp
  | f::r,l,h=>by
    simp only [placesV] at h
    split at h
    rename_i n hn
    split at h
    rename_i l' hl; injection h with h; subst h
    have ih:=places_run (P:=P) w r hl
    simp only [List.mapM_cons,Sem.run_bind,run_fpl hn,Result.andThen_ok,ih]
    rfl
    simp at h
    simp at h
def buildV (P:Program) (t:TypeId) (parts:List (Nat × Value)):Option Value :=
  match zeroV P t,P.underlying t with
  | some z,some (.struct fs) =>
    (match placesV P fs.toList with
     | some pl=>(match Instr.fill (pl.toArray[·]?) z.cells parts with | some c=>some (.agg c) | none=>none)
     | none=>none)
  | some z,some (.array _ e) =>
    (match T3 P e with
     | some n=>(match Instr.fill (fun i=>some (i * n,n)) z.cells parts with | some c=>some (.agg c) | none=>none)
     | none=>none)
  | _,_=>none
theorem buildV_sound {P:Program} {t:TypeId} {parts:List (Nat × Value)} {v:Value} (h:buildV P t parts=some v) (w:World):(Instr.build t parts.toArray).run P w=.ok v w:=by
 unfold buildV at h
 split at h
 rename_i z fs hz hu
 split at h
 rename_i pl hp
 split at h
 rename_i c hc; injection h with h; subst h
 have e:=places_run (P:=P) w fs.toList hp
 have e2:(fs.mapM fpl).run P w=.ok pl.toArray w:=by
  rw [Array.mapM_eq_mapM_toList,Sem.run_map,e]
  rfl
 have e3:(fun f:Field=>(do let s ← sizeOf f.type; pure (f.offset,s):Sem (Nat × Nat)))=fpl:=rfl
 simp only [Instr.build,Sem.run_bind,W2 hz,Result.andThen_ok,run_underlying hu,e3,e2,hc]
 rfl
 simp at h
 simp at h
 rename_i z n e hz hu
 split at h
 rename_i k hk
 split at h
 rename_i c hc; injection h with h; subst h
 simp only [Instr.build,Sem.run_bind,W2 hz,Result.andThen_ok,run_underlying hu,L4 hk,hc]
 rfl
 simp at h
 simp at h
 simp at h
def callV (P:Program) (ρ:Operand→Option Value) (c:Call):Option Value :=
 match c.callee with
 | .builtin .len=>(match evL ρ c.args.toList with | some l=>lenV P c.argTypes[0]? l.toArray[0]? | none=>none)
 | .builtin .cap=>(match evL ρ c.args.toList with | some l=>capV P c.argTypes[0]? l.toArray[0]? | none=>none)
 | .builtin .max=>(match evL ρ c.args.toList with | some l=>maxV l | none=>none)
 | .builtin .min=>(match evL ρ c.args.toList with | some l=>minV l | none=>none)
 | _=>none
def nilV:Value→Option Value
 | .pointer (some a)=>some (.pointer (some a))
 | .func (.func f) x y=>some (.func (.func f) x y)
 | .iface t v=>some (.iface t v)
 | _=>none
def ifaceV (P:Program) (t:TypeId) (x:Value):Option Value :=
 match P.underlying t with
 | some (.interface _)=>none
 | some _=>some (.iface t x)
 | none=>none
def pev (P:Program) (ρ:Operand→Option Value):Go.Op→Option Value
 | .move x | .assign x=>ρ x
 | .binOp op t x y _=>(match ρ x,ρ y with | some a,some b=>binV P op t a b | _,_=>none)
 | .unOp op _ x=>(match ρ x with | some a=>unV op a | none=>none)
 | .convert s d x=>(match ρ x with | some a=>convV P s d a | none=>none)
 | .extract x i=>(match ρ x with | some (.tuple vs)=>vs[i]? | _=>none)
 | .field t x f=>(match ρ x with | some a=>fieldV P t a f | none=>none)
 | .fieldAddr t x f=>(match ρ x with | some a=>fieldAddrV P t a f | none=>none)
 | .nilCheck x=>(match ρ x with | some a=>nilV a | none=>none)
 | .makeFunc fn first captured=>(match evL ρ first.toList,evL ρ captured.toList with | some a,some b=>some (.func fn a.toArray b.toArray) | _,_=>none)
 | .makeInterface t x=>(match ρ x with | some a=>ifaceV P t a | none=>none)
 | .build t parts=>(match evP ρ parts.toList with | some l=>buildV P t l | none=>none)
 | .call c=>callV P ρ c
 | _=>none
theorem P0 {ρ:Operand→Option Value} {r:Operand→Value} (hρ:∀ x v,ρ x=some v→r x=v) {xs:Array Operand} {l:List Value} (h:evL ρ xs.toList=some l):xs.map r=l.toArray:=by
 rw [← evL_map hρ _ h]; apply Array.ext'; rw [Array.toList_map]
theorem pev_sound {P:Program} {ρ:Operand→Option Value} {r:Operand→Value} (hρ:∀ x v,ρ x=some v→r x=v) {o:Oper} {v:Value}
  (h:pev P ρ o.op=some v) (w:World):(execOp r o).run P w=.ok (.value v) w:=by
 unfold pev at h
 unfold execOp
 split at h <;> rename_i ho
 simp only [ho]; rw [hρ _ _ h]; rfl
 simp only [ho]; rw [hρ _ _ h]; rfl
 simp only [ho]
 split at h
 rename_i a b ha hb
 rw [hρ _ _ ha,hρ _ _ hb]
 have hg:∀ {op t v},binV P op t a b=some v→∀ (x y:Operand),(eqGuard op t x y a b).run P w=.ok () w:=by
  intro op t v hv x y
  unfold eqGuard
  cases a <;> cases b <;> (first | (simp [binV] at hv; done) | (split <;> rfl))
 simp [hg h,binV_sound h]
 simp at h
 simp only [ho]
 split at h
 rename_i a ha; rw [hρ _ _ ha]; simp [unV_sound h]
 simp at h
 simp only [ho]
 split at h
 rename_i a ha; rw [hρ _ _ ha]; simp [convV_sound h]
 simp at h
 simp only [ho]
 split at h
 rename_i vs ha; rw [hρ _ _ ha]; simp [Instr.extract,h]
 simp at h
 simp only [ho]
 split at h
 rename_i a ha; rw [hρ _ _ ha]; simp [fieldV_sound h]
 simp at h
 simp only [ho]
 split at h
 rename_i a ha; rw [hρ _ _ ha]; simp [fieldAddrV_sound h]
 simp at h
 simp only [ho]
 split at h
 rename_i a ha; rw [hρ _ _ ha]
 unfold nilV at h
 split at h <;> first | (injection h with h; subst h; rfl) | (simp at h)
 simp at h
 simp only [ho]
 split at h
 rename_i a b ha hb; injection h with h; subst h
 rw [P0 hρ ha,P0 hρ hb]; rfl
 simp at h
 simp only [ho]
 split at h
 rename_i a ha; rw [hρ _ _ ha]
 unfold ifaceV at h
 split at h
 simp at h
 rename_i d hn hu; injection h with h; subst h
 simp only [Instr.makeInterface,Sem.run_bind,run_underlying hu,Result.andThen_ok]
 cases d <;> first | rfl | exact (hn _ hu).elim | exact (hn _ rfl).elim
 simp at h
 simp at h
 simp only [ho]
 split at h
 rename_i l hl
 have e:(Array.map (fun x=>(x.fst,r x.snd)) ‹Array (Nat × Operand)›)=l.toArray:=by
  rw [← evP_map hρ _ hl]; apply Array.ext'; rw [Array.toList_map]
 simp [e,buildV_sound h]
 simp at h
 simp only [ho]
 unfold callV at h
 split at h <;> rename_i hc
 split at h
 rename_i l hl
 simp [resolve,hc,invoke,Go.builtin,P0 hρ hl,lenV_sound (avs:=l.toArray) h]
 simp at h
 split at h
 rename_i l hl
 simp [resolve,hc,invoke,Go.builtin,P0 hρ hl,capV_sound (avs:=l.toArray) h]
 simp at h
 split at h
 rename_i l hl
 simp [resolve,hc,invoke,Go.builtin,P0 hρ hl,maxV_sound h]
 simp at h
 split at h
 rename_i l hl
 simp [resolve,hc,invoke,Go.builtin,P0 hρ hl,minV_sound h]
 simp at h
 simp at h
 simp at h
end Go.Sw
namespace Go.Sw
abbrev F0:=Exit→Act→World→Prop
def GL (d:Bool) (P:Program) (ops:Array Oper) (i:Nat) (Q:F0) (n:Fr) (E:Env) (W0:World) (H:List Grp):Prop :=
 match d with
 | true=>∀ a,Ag n E a→wpQuiet P ops (Sat W0 H) (fun a'=>∀ w',Sat W0 H w'→Q .normal a' w') (ops.toList.drop i) a
 | false=>∀ a w,Ag n E a→Sat W0 H w→wpList P ops Q (ops.toList.drop i) a w
def G (P:Program) (c:Code) (Q:F0) (n:Fr) (E:Env) (W0:World) (H:List Grp):Prop :=
 ∀ a w,Ag n E a→Sat W0 H w→c.wp P Q a w
def N (Q:F0) (x:Exit) (n:Fr) (E:Env) (W0:World) (H:List Grp):Prop :=
 ∀ a w,Ag n E a→Sat W0 H w→Q x a w
theorem Sat.drew {W0:World} {H:List Grp} {w:World} (h:Sat W0 H w):Sat W0 H { w with drawn:=w.drawn+1 } :=
 ⟨h.below.trans ⟨rfl,rfl,rfl,Nat.le_refl _,fun _ _=>rfl⟩,h.nodup,h.has,h.high⟩
def chB (E:List Sl):List (Nat × Bool)→Prop
 | []=>True
 | (t,w)::r=>(match Env.find E t with | some s=>(match s.v with | .bool b=>b=w | _=>False) | none=>False)∧chB E r
theorem chB_of {E:Env} {β:Nat→Bool→Bool} (hβ:∀ s,s∈E→∀ w,β s.t w=(V0 s.v==some w)):∀ (ch:List (Nat × Bool)),
    (∀ p,p∈ch→∃ s,Env.find E p.1=some s)→chT β ch=true→chB E ch
  | [],_,_=>trivial
  | (t,w)::r,hf,h=>by
    simp only [chT,List.all_cons,Bool.and_eq_true] at h
    refine ⟨?_,chB_of hβ r (fun p hp=>hf p (List.mem_cons_of_mem _ hp)) h.2⟩
    obtain ⟨s,hs⟩:=hf (t,w) List.mem_cons_self
    simp only at hs
    rw [hs]
    obtain ⟨hm,ht⟩:=Env.find_mem hs
    subst ht
    have h1:=hβ s hm w
    rw [h.1] at h1
    simp only
    cases hv:s.v <;> rw [hv] at h1 <;> simp [V0] at h1 ⊢
    exact h1
def K5 (E:List Sl) (ch:List (Nat × Bool)):Bool:=ch.all fun p=>(Env.find E p.1).isSome
theorem J1 {d:Bool} {P:Program} {ops:Array Oper} {i:Nat} {Q:F0} {n:Fr} {E:Env} {W0:World} {H:List Grp} {o:Oper} {ch:List (Nat × Bool)} {v:Value}
    (ho:ops[i]? = some o) (hch:D7 ops E o.guard=some ch) (hd:G1 n ch o.dst=true) (hk:K5 E ch=true)
    (hq:∀ (r:Operand→Value),(∀ x v,evO E ch x=some v→r x=v)→chB E ch→∀ w,Sat W0 H w→Oper.quietUpon P (Sat W0 H) w v ((execOp r o).run P w))
    (k:GL d P ops (i+1) Q n (Env.put E o.dst ch v) W0 H):GL d P ops i Q n E W0 H:=by
  have hi:i<ops.toList.length:=by
    rcases Nat.lt_or_ge i ops.size with h | h
    simpa using h
    simp [Array.getElem?_eq_none h] at ho
  have hdrop:ops.toList.drop i=o::ops.toList.drop (i+1):=by
    rw [List.drop_eq_getElem_cons hi]
    congr 1
    have hi':i<ops.size:=by simpa using hi
    rw [Array.getElem?_eq_getElem hi'] at ho
    simpa using ho
  have hkn:∀ p,p∈ch→∃ s,Env.find E p.1=some s:=fun p hp=>by
    have:=List.all_eq_true.1 hk p hp
    exact Option.isSome_iff_exists.1 this
  cases d with
  | true =>
    intro a ha
    rw [hdrop]
    obtain ⟨β,hβ,hat⟩:=ha.at_
    have hw:=P3 hβ hat hch
    unfold wpQuiet
    have hput:=Ag.put ha hβ hat hd v
    by_cases hc:chT β ch=true
    rw [hw,if_pos hc]
    rw [if_pos hc] at hput
    refine ⟨v,fun w hs=>?_,k _ hput⟩
    exact hq _ (fun x v=>L0 hat hc) (chB_of hβ ch hkn hc) w hs
    rw [hw,if_neg hc]
    rw [if_neg hc] at hput
    exact k _ hput
  | false =>
    intro a w ha hs
    rw [hdrop]
    obtain ⟨β,hβ,hat⟩:=ha.at_
    have hw:=P3 hβ hat hch
    unfold wpList
    have hput:=Ag.put ha hβ hat hd v
    by_cases hc:chT β ch=true
    rw [hw,if_pos hc]
    rw [if_pos hc] at hput
    left
    refine Oper.wp_of_quiet (C:=Sat W0 H) (K:=fun a'=>a'=a.put o.dst v) hs (fun a' w' hw' he=>by rw [he]; exact k _ _ hput hw') ⟨v,fun w hs=>?_,rfl⟩
    exact hq _ (fun x v=>L0 hat hc) (chB_of hβ ch hkn hc) w hs
    rw [hw,if_neg hc]
    rw [if_neg hc] at hput
    exact k _ _ hput hs
def gOff (ops:Array Oper) (E:List Sl):Option (Nat × Bool)→Bool
  | none=>false
  | some (j,want) =>
    match (ops[j]?).bind Oper.dst with
    | some dj=>(match Env.find E dj with
      | some s=>(match s.v,want with | .bool false,true=>true | .bool true,false=>true | .tuple _,_=>true | _,_=>false)
      | none=>false)
    | none=>false
def selV (x:Bool):Value→Value→Option Value
 | .bool y,.bool z=>some (.bool (bif x then y else z))
 | .int k m,.int k' m'=>if k=k' then some (.int k (bif x then m else m')) else none
 | .string s,.string s'=>some (.string (bif x then s else s'))
 | _,_=>none
theorem selV_sound {x:Bool} {a b v:Value} (h:selV x a b=some v):v=if x then a else b:=by
 unfold selV at h
 split at h
 injection h with h; subst h; cases x <;> rfl
 split at h
 rename_i hk; injection h with h; subst h; subst hk; cases x <;> rfl
 simp at h
 injection h with h; subst h; cases x <;> rfl
 simp at h
def pickV (E:List Sl) (ch:List (Nat × Bool)) (mode:Nat) (c a b:Operand):Option Value :=
  match c with
  | .tmp t =>
    match evT E ch t with
    | some (.bool x) =>
      match mode with
      | 2=>(match x with | true=>evO E ((t,true)::ch) a | false=>none)
      | 3=>(match x with | false=>evO E ((t,false)::ch) b | true=>none)
      | 4=>(match evO E ((t,true)::ch) a,evO E ((t,false)::ch) b with | some va,some vb=>selV x va vb | _,_=>none)
      | 5=>(match a,evO E ((t,false)::ch) b with | .const (.bool true),some (.bool y)=>some (.bool (x||y)) | _,_=>none)
      | 6=>(match evO E ((t,true)::ch) a,b with | some (.bool y),.const (.bool false)=>some (.bool (x&&y)) | _,_=>none)
      | _=>none
    | _=>none
  | _=>none
def pstep (P:Program) (ops:Array Oper) (n:Fr) (mode:Nat) (o:Oper) (E:List Sl):Option (List Sl) :=
  match mode with
  | 0=>(match D7 ops E o.guard with
    | some ch=>(match G1 n ch o.dst,pev P (evO E ch) o.op with | true,some v=>some (Env.put E o.dst ch v) | _,_=>none)
    | none=>none)
  | 1=>(match gOff ops E o.guard,G1 n [] o.dst with | true,true=>some (Env.put E o.dst [] undef) | _,_=>none)
  | _=>(match D7 ops E o.guard,o.op with
    | some ch,.pick c a b=>(match G1 n ch o.dst,pickV E ch mode c a b with | true,some v=>some (Env.put E o.dst ch v) | _,_=>none)
    | _,_=>none)
theorem pstep_sound {P:Program} {ops:Array Oper} {n:Fr} {mode:Nat} {o:Oper} {E E':Env} (h:pstep P ops n mode o E=some E') {a:Act} (ha:Ag n E a) :
  (Region.wanted o (yielded ops a.tmps)=false∧Ag n E' (a.put o.dst undef)) ∨
  (Region.wanted o (yielded ops a.tmps)=true∧∃ v,(∀ w,(execOp a.eval o).run P w=.ok (.value v) w)∧Ag n E' (a.put o.dst v)):=by
 obtain ⟨β,hβ,hat⟩:=ha.at_
 unfold pstep at h
 split at h
 split at h
 rename_i ch hch
 split at h
 rename_i v hd hv
 injection h with h; subst h
 have hw:=P3 hβ hat hch
 have hput:=Ag.put ha hβ hat hd v
 by_cases hc:chT β ch=true
 rw [if_pos hc] at hput
 exact .inr ⟨by rw [hw,hc],v,fun w=>pev_sound (fun x v=>L0 hat hc) hv w,hput⟩
 rw [if_neg hc] at hput
 exact .inl ⟨by rw [hw]; simpa using hc,hput⟩
 simp at h
 simp at h
 split at h
 rename_i hg hd
 injection h with h; subst h
 have hput:=Ag.put ha hβ hat hd undef
 simp only [chT,List.all_nil,if_true] at hput
 refine .inl ⟨?_,hput⟩
 unfold gOff at hg
 unfold Region.wanted
 split at hg
 simp at hg
 rename_i j want hgu
 split at hg
 rename_i dj hdj
 split at hg
 rename_i s hs
 obtain ⟨hm,ht⟩:=Env.find_mem hs
 subst ht
 have h1:=hat s hm
 simp only [hgu,yielded,hdj,Option.bind_some,h1]
 cases hc:chT β s.ch
 simp [undef]
 simp only [if_true]
 split at hg <;> rename_i hv <;> simp_all
 simp at hg
 simp at hg
 simp at h
 split at h
 rename_i ch c x y hch ho
 split at h
 rename_i v hd hv
 injection h with h; subst h
 have hw:=P3 hβ hat hch
 have hput:=Ag.put ha hβ hat hd v
 by_cases hc:chT β ch=true
 rw [if_pos hc] at hput
 refine .inr ⟨by rw [hw,hc],v,fun w=>?_,hput⟩
 unfold pickV at hv
 split at hv
 rename_i t
 split at hv
 rename_i b hb
 have hcv:a.eval (.tmp t)=.bool b:=L0 hat hc (x:=.tmp t) hb
 -- what the slot's value says of longer chains
 have hlong:∀ w,b=w→chT β ((t,w)::ch)=true:=by
  intro w hw'
  unfold evT at hb
  split at hb
  rename_i s hs
  obtain ⟨hm,ht⟩:=Env.find_mem hs
  split at hb
  injection hb with hb
  have:=hβ s hm w
  rw [hb,ht] at this
  simp only [chT,List.all_cons,Bool.and_eq_true]
  refine ⟨?_,hc⟩
  rw [this,hw']; simp [V0]
  simp at hb
  simp at hb
 have hrun:(execOp a.eval o).run P w=.ok (.value (if b then a.eval x else a.eval y)) w:=by
  unfold execOp
  simp only [ho,hcv]
  simp [asBool]
 rw [hrun]
 congr 2
 split at hv
 split at hv
 simp only [if_true]; exact L0 hat (hlong true rfl) hv
 simp at hv
 split at hv
 simp only [Bool.false_eq_true,if_false]; exact L0 hat (hlong false rfl) hv
 simp at hv
 split at hv
 rename_i va vb hva hvb
 rw [selV_sound hv]
 cases b
 simp only [Bool.false_eq_true,if_false]; exact L0 hat (hlong false rfl) hvb
 simp only [if_true]; exact L0 hat (hlong true rfl) hva
 simp at hv
 split at hv
 rename_i z hz
 injection hv with hv; subst hv
 cases b
 simp only [Bool.false_eq_true,if_false,Bool.false_or]; exact L0 hat (hlong false rfl) hz
 simp only [if_true,Bool.true_or]; rfl
 simp at hv
 split at hv
 rename_i z hz
 injection hv with hv; subst hv
 cases b
 simp only [Bool.false_eq_true,if_false,Bool.false_and]; rfl
 simp only [if_true,Bool.true_and]; exact L0 hat (hlong true rfl) hz
 simp at hv
 simp at hv
 simp at hv
 simp at hv
 rw [if_neg hc] at hput
 exact .inl ⟨by rw [hw]; simpa using hc,hput⟩
 simp at h
 simp at h
def P6 (P:Program) (ops:Array Oper) (n:Fr):List Nat→Nat→List Sl→Option (List Sl)
  | [],_,E=>some E
  | m::ms,i,E=>(match ops[i]? with
    | some o=>(match pstep P ops n m o E with | some E'=>P6 P ops n ms (i+1) E' | none=>none)
    | none=>none)
theorem Z5 {d:Bool} {P:Program} {ops:Array Oper} {Q:F0} {n:Fr} {W0:World} {H:List Grp}:∀ (ms:List Nat) {i:Nat} {E E':Env},
    P6 P ops n ms i E=some E'→GL d P ops (i+ms.length) Q n E' W0 H→GL d P ops i Q n E W0 H
  | [],i,E,E',h,k=>by simp only [P6,Option.some.injEq] at h; subst h; exact k
  | m::ms,i,E,E',h,k=>by
    simp only [P6] at h
    split at h
    rename_i o ho
    split at h
    rename_i E1 h1
    have k':GL d P ops (i+1) Q n E1 W0 H:=Z5 ms h (by rw [show i+1+ms.length=i+(m::ms).length from by simp; omega]; exact k)
    have hi:i<ops.toList.length:=by
      rcases Nat.lt_or_ge i ops.size with h | h
      simpa using h
      simp [Array.getElem?_eq_none h] at ho
    have hdrop:ops.toList.drop i=o::ops.toList.drop (i+1):=by
      rw [List.drop_eq_getElem_cons hi]
      congr 1
      have hi':i<ops.size:=by simpa using hi
      rw [Array.getElem?_eq_getElem hi'] at ho
      simpa using ho
    cases d with
    | true =>
      intro a ha
      rw [hdrop]
      unfold wpQuiet
      rcases pstep_sound h1 ha with ⟨hw,h2⟩ | ⟨hw,v,hv,h2⟩
      rw [hw]; exact k' _ h2
      rw [hw]; exact ⟨v,fun w _=>by unfold Oper.quietAt; rw [hv]; exact ⟨rfl,rfl⟩,k' _ h2⟩
    | false =>
      intro a w ha hs
      rw [hdrop]
      unfold wpList
      rcases pstep_sound h1 ha with ⟨hw,h2⟩ | ⟨hw,v,hv,h2⟩
      rw [hw]; exact k' _ _ h2 hs
      rw [hw]; exact .inl (by unfold Oper.wp; rw [hv]; exact k' _ _ h2 hs)
    simp at h
    simp at h
def Env.keep:List Nat→List Sl→List Sl
  | [],_=>[]
  | t::ts,E=>(match Env.find E t with
    | some ⟨u,[],v⟩=>⟨u,[],v⟩::Env.keep ts E
    | _=>Env.keep ts E)
theorem Env.keep_mem:∀ (ts:List Nat) {E:Env} {s:Sl},s∈Env.keep ts E→s∈E
  | [],E,s,h=>by simp [Env.keep] at h
  | t::ts,E,s,h=>by
    simp only [Env.keep] at h
    split at h
    rename_i u v hf
    rcases List.mem_cons.1 h with rfl | h
    exact (Env.find_mem hf).1
    exact Env.keep_mem ts h
    exact Env.keep_mem ts h
theorem GL_end {d:Bool} {P:Program} {ops:Array Oper} {i:Nat} {Q:F0} {n:Fr} {E:Env} {W0:World} {H:List Grp}
  (hi:ops.size=i) (k:N Q .normal n E W0 H):GL d P ops i Q n E W0 H:=by
 have hdrop:ops.toList.drop i=[]:=by rw [List.drop_eq_nil_of_le]; simp [hi]
 cases d with
 | true=>intro a ha; rw [hdrop]; exact fun w' hs=>k _ _ ha hs
 | false=>intro a w ha hs; rw [hdrop]; exact k _ _ ha hs
theorem N_sub {Q:F0} {x:Exit} {n:Fr} {E E':Env} {W0:World} {H:List Grp} (ts:List Nat) (h:Env.keep ts E=E') (k:N Q x n E' W0 H):N Q x n E W0 H :=
 fun a w ha hs=>k a w (ha.sub (by subst h; intro s hs; exact Env.keep_mem _ hs)) hs
theorem A2 {P:Program} {id:Nat} {ops:Array Oper} {Q:F0} {n:Fr} {E:Env} {W0:World} {H:List Grp}
  (k:GL false P ops 0 Q n E W0 H):G P (.region id ops false) Q n E W0 H :=
 fun a w ha hs=>wp_region_list (by have:=k a w ha hs; simpa using this)
theorem H4 {P:Program} {id:Nat} {ops:Array Oper} {Q:F0} {n:Fr} {E:Env} {W0:World} {H:List Grp}
  (hm:P.follows .mixedOrders=true:=by kernel_rfl) (hB:Region.lexB .any ops=true:=by kernel_rfl) (k:GL true P ops 0 Q n E W0 H):G P (.region id ops true) Q n E W0 H :=
 fun a w ha hs=>wp_region_quiet (C:=Sat W0 H) hm hB hs.drew (by have:=k a ha; simpa using this)
theorem C3 {P:Program} {id:Nat} {ops:Array Oper} {Q:F0} {n:Fr} {E E':Env} {W0:World} {H:List Grp} (ms ts:List Nat)
    (hl:ops.size=ms.length:=by exact rfl) (h:(P6 P ops n ms 0 E).map (Env.keep ts)=some E':=by kernel_rfl) (k:N Q .normal n E' W0 H):G P (.region id ops false) Q n E W0 H:=by
  cases hp:P6 P ops n ms 0 E with
  | none=>rw [hp] at h; simp at h
  | some E1 =>
    rw [hp] at h; simp only [Option.map_some,Option.some.injEq] at h
    exact A2 (Z5 ms hp (GL_end (by omega) (N_sub ts h k)))
theorem G_pureD {P:Program} {id:Nat} {ops:Array Oper} {Q:F0} {n:Fr} {E E':Env} {W0:World} {H:List Grp} (ms ts:List Nat)
    (hm:P.follows .mixedOrders=true) (hB:Region.lexB .any ops=true)
    (hl:ops.size=ms.length) (h:(P6 P ops n ms 0 E).map (Env.keep ts)=some E') (k:N Q .normal n E' W0 H):G P (.region id ops true) Q n E W0 H:=by
  cases hp:P6 P ops n ms 0 E with
  | none=>rw [hp] at h; simp at h
  | some E1 =>
    rw [hp] at h; simp only [Option.map_some,Option.some.injEq] at h
    exact H4 hm hB (Z5 ms hp (GL_end (by omega) (N_sub ts h k)))
def Env.only (ts:List Nat) (E:List Sl):List Sl:=E.filter fun s=>ts.contains s.t
theorem GL_sub {d:Bool} {P:Program} {ops:Array Oper} {i:Nat} {Q:F0} {n:Fr} {E E':Env} {W0:World} {H:List Grp} (hs:∀ s,s∈E'→s∈E) (k:GL d P ops i Q n E' W0 H):GL d P ops i Q n E W0 H:=by
 cases d
 exact fun a w ha=>k a w (ha.sub hs)
 exact fun a ha=>k a (ha.sub hs)
theorem GL_pure {d:Bool} {P:Program} {ops:Array Oper} {i j:Nat} {Q:F0} {n:Fr} {E E':Env} {W0:World} {H:List Grp} (ms:List Nat)
    (h:(P6 P ops n ms i E).map (Env.only (E'.map Sl.t))=some E') (hj:i+ms.length=j) (k:GL d P ops j Q n E' W0 H):GL d P ops i Q n E W0 H:=by
  cases hp:P6 P ops n ms i E with
  | none=>rw [hp] at h; simp at h
  | some E1 =>
    rw [hp] at h; simp only [Option.map_some,Option.some.injEq] at h
    refine Z5 ms hp (GL_sub (E':=E') (fun s hs=>?_) (by rw [hj]; exact k))
    rw [← h] at hs
    exact (List.mem_filter.1 hs).1
theorem C0 {d:Bool} {P:Program} {ops:Array Oper} {i:Nat} {Q:F0} {n:Fr} {E E':Env} {W0:World} {H:List Grp} (ms ts:List Nat)
    (hl:ops.size=i+ms.length:=by exact rfl) (h:(P6 P ops n ms i E).map (Env.keep ts)=some E':=by kernel_rfl) (k:N Q .normal n E' W0 H):GL d P ops i Q n E W0 H:=by
  cases hp:P6 P ops n ms i E with
  | none=>rw [hp] at h; simp at h
  | some E1 =>
    rw [hp] at h; simp only [Option.map_some,Option.some.injEq] at h
    exact Z5 ms hp (GL_end hl (N_sub ts h k))
theorem A1 {P:Program} {x y:Code} {Q:F0} {n:Fr} {E:Env} {W0:World} {H:List Grp}
 (k:G P x (Exit.then (y.wp P Q) Q) n E W0 H):G P (.seq x y) Q n E W0 H:=fun a w ha hs=>wp_seq (k a w ha hs)
theorem A0 {P:Program} {y:Code} {Q:F0} {n:Fr} {E:Env} {W0:World} {H:List Grp} (k:G P y Q n E W0 H):N (Exit.then (y.wp P Q) Q) .normal n E W0 H:=k
theorem A6 {K:Act→World→Prop} {Q:F0} {id:Nat} {n:Fr} {E:Env} {W0:World} {H:List Grp} (k:N Q (.exit id) n E W0 H):N (Exit.then K Q) (.exit id) n E W0 H:=k
theorem A4 {K:Act→World→Prop} {Q:F0} {n:Fr} {E:Env} {W0:World} {H:List Grp} (k:N Q .ret n E W0 H):N (Exit.then K Q) .ret n E W0 H:=k
theorem B8 {Q:F0} {id:Nat} {n:Fr} {E:Env} {W0:World} {H:List Grp} (k:N Q .normal n E W0 H):N (Exit.inBlock id Q) .normal n E W0 H:=k
theorem B0 {Q:F0} {id:Nat} {n:Fr} {E:Env} {W0:World} {H:List Grp} (k:N Q .ret n E W0 H):N (Exit.inBlock id Q) .ret n E W0 H:=k
theorem B6 {Q:F0} {id:Nat} {n:Fr} {E:Env} {W0:World} {H:List Grp} (k:N Q .normal n E W0 H):N (Exit.inBlock id Q) (.exit id) n E W0 H :=
 fun a w ha hs=>by simp only [Exit.inBlock,if_true]; exact k a w ha hs
theorem R1 {Q:F0} {id id':Nat} {n:Fr} {E:Env} {W0:World} {H:List Grp} (h:(id'==id)=false:=by exact rfl) (k:N Q (.exit id') n E W0 H):N (Exit.inBlock id Q) (.exit id') n E W0 H :=
 fun a w ha hs=>by simp only [Exit.inBlock]; rw [if_neg (by simpa using h)]; exact k a w ha hs
theorem B3 {P:Program} {id:Nat} {c:Code} {Q:F0} {n:Fr} {E:Env} {W0:World} {H:List Grp} (k:G P c (Exit.inBlock id Q) n E W0 H):G P (.block id c) Q n E W0 H :=
 fun a w ha hs=>wp_block (k a w ha hs)
theorem A7 {P:Program} {Q:F0} {n:Fr} {E:Env} {W0:World} {H:List Grp} (k:N Q .normal n E W0 H):G P .skip Q n E W0 H:=fun a w ha hs=>wp_skip (k a w ha hs)
theorem E7 {P:Program} {id:Nat} {Q:F0} {n:Fr} {E:Env} {W0:World} {H:List Grp} (k:N Q (.exit id) n E W0 H):G P (.exit id) Q n E W0 H:=fun a w ha hs=>wp_exit (k a w ha hs)
theorem B4 {P:Program} {Q:F0} {n:Fr} {E:Env} {W0:World} {H:List Grp} (k:N Q .ret n E W0 H):G P .ret Q n E W0 H:=fun a w ha hs=>wp_ret (k a w ha hs)
theorem Ag.eval {n:Fr} {E:Env} {a:Act} (ha:Ag n E a) {x:Operand} {v:Value} (h:evO E [] x=some v):a.eval x=v:=by
 obtain ⟨β,_,hat⟩:=ha.at_
 exact L0 (ch:=[]) hat (by simp [chT]) h
theorem B1 {P:Program} {c:Operand} {x y:Code} {Q:F0} {n:Fr} {E:Env} {W0:World} {H:List Grp} {b:Bool}
  (hc:evO E [] c=some (.bool b):=by kernel_rfl) (ht:b=true→G P x Q n E W0 H) (hf:b=false→G P y Q n E W0 H):G P (.cond c x y) Q n E W0 H :=
 fun a w ha hs=>wp_cond_split (ha.eval hc) (fun h=>ht h a w ha hs) (fun h=>hf h a w ha hs)
theorem B9 {P:Program} {c:Operand} {x y:Code} {Q:F0} {n:Fr} {E:Env} {W0:World} {H:List Grp}
 (hc:evO E [] c=some (.bool true):=by kernel_rfl) (k:G P x Q n E W0 H):G P (.cond c x y) Q n E W0 H:=fun a w ha hs=>wp_cond_true (ha.eval hc) (k a w ha hs)
theorem C5 {P:Program} {c:Operand} {x y:Code} {Q:F0} {n:Fr} {E:Env} {W0:World} {H:List Grp}
 (hc:evO E [] c=some (.bool false):=by kernel_rfl) (k:G P y Q n E W0 H):G P (.cond c x y) Q n E W0 H:=fun a w ha hs=>wp_cond_false (ha.eval hc) (k a w ha hs)
theorem I5 {P:Program} {c:Code} {Q:F0} {n:Fr} {E:Env} {W0:World} {H:List Grp} {σ:Type} (EI:σ→Env) (HI:σ→List Grp) (Φ:σ→Prop) (μ:σ→Nat)
    (s0:σ) (ts:List Nat) (hE:Env.keep ts E=EI s0:=by kernel_rfl) (hH:H=HI s0:=by exact rfl) (h0:Φ s0)
    (round:∀ s,Φ s→G P c (Exit.then (fun a' w'=>∃ s',Φ s'∧μ s'<μ s∧Ag n (EI s') a'∧Sat W0 (HI s') w') Q) n (EI s) W0 (HI s)):G P (.loop c) Q n E W0 H:=by
  intro a w ha hs b k cs
  have ha':Ag n (EI s0) a:=ha.sub (by rw [← hE]; intro s hs; exact Env.keep_mem _ hs)
  have key:∀ m s,μ s=m→Φ s→∀ a w,Ag n (EI s) a→Sat W0 (HI s) w →
      ∃ e a' w',Q e a' w'∧Arrives P (lone (b.at a (.code c::.inLoop c::k)) cs w) b k cs e a' w':=by
    intro m
    induction m using Nat.strongRecOn with
    | _ m ih =>
      intro s hm hΦ a w ha hs
      obtain ⟨e,a₁,w₁,hq,harr⟩:=round s hΦ a w ha hs b (.inLoop c::k) cs
      cases e with
      | normal =>
        obtain ⟨s',hΦ',hlt,ha',hs'⟩:=hq
        obtain ⟨e₂,a₂,w₂,hq₂,harr₂⟩:=ih (μ s') (hm ▸ hlt) s' rfl hΦ' a₁ w₁ ha' hs'
        exact ⟨e₂,a₂,w₂,hq₂,.of_steps (Steps.trans harr (.one step_inLoop)) harr₂⟩
      | exit id=>exact ⟨_,a₁,w₁,hq,.pass (x:=.inLoop c) rfl (fun _ _=>.inl (by simp)) harr⟩
      | goto l=>exact ⟨_,a₁,w₁,hq,.pass (x:=.inLoop c) rfl (fun _ _=>.inl (by simp)) harr⟩
      | ret=>exact ⟨_,a₁,w₁,hq,.pass (x:=.inLoop c) rfl (fun _ _=>.inl (by simp)) harr⟩
      | panic ch=>exact ⟨_,a₁,w₁,hq,.pass (x:=.inLoop c) rfl (fun _ _=>.inl (by simp)) harr⟩
      | outgrown=>exact ⟨_,a₁,w₁,hq,.pass (x:=.inLoop c) rfl (fun _ _=>.inl (by simp)) harr⟩
  obtain ⟨e,a',w',hq,harr⟩:=key _ s0 rfl h0 a w ha' (hH ▸ hs)
  exact ⟨e,a',w',hq,.of_steps (.one step_loop) harr⟩
theorem D2 {Q:F0} {n:Fr} {E:Env} {W0:World} {H:List Grp} {σ:Type} {EI:σ→Env} {HI:σ→List Grp} {Φ:σ→Prop} {μ:σ→Nat} {s:σ}
  (s':σ) (ts:List Nat) (hE:Env.keep ts E=EI s':=by kernel_rfl) (hH:H=HI s':=by kernel_rfl) (hΦ:Φ s') (hμ:μ s'<μ s) :
  N (Exit.then (fun a' w'=>∃ s',Φ s'∧μ s'<μ s∧Ag n (EI s') a'∧Sat W0 (HI s') w') Q) .normal n E W0 H :=
 fun a w ha hs=>⟨s',hΦ,hμ,ha.sub (by rw [← hE]; intro s hs; exact Env.keep_mem _ hs),hH ▸ hs⟩
def GRd (P:Program) (c:Code) (Q:F0) (m:Nat) (n:Fr) (E:Env) (W0:World) (H:List Grp):Prop:=∀ a w,Ag n E a→Sat W0 H w→Code.rounds P c Q m a w
theorem O0 {P:Program} {c:Code} {Q:F0} {n:Fr} {E:Env} {W0:World} {H:List Grp} (m:Nat) (k:GRd P c Q m n E W0 H):G P (.loop c) Q n E W0 H :=
 fun a w ha hs=>wp_loop_rounds m (k a w ha hs)
theorem F5 {P:Program} {c:Code} {Q:F0} {n:Fr} {E:Env} {W0:World} {H:List Grp} {m:Nat} (k:G P c (Exit.then (Code.rounds P c Q m) Q) n E W0 H):GRd P c Q (m+1) n E W0 H:=k
theorem Z4 {P:Program} {c:Code} {Q:F0} {n:Fr} {E:Env} {W0:World} {H:List Grp} {m:Nat} (k:GRd P c Q m n E W0 H):N (Exit.then (Code.rounds P c Q m) Q) .normal n E W0 H:=k
def Tri (P:Program) (f:FuncId) (args:Array Value) (W0:World) (H:List Grp) (R:Value→List Grp→Prop):Prop :=
 ∀ w,Sat W0 H w→Calls P f args w fun e w'=>∃ v H',e=.returned v∧R v H'∧Sat W0 H' w'
theorem Tri.mono {P:Program} {f:FuncId} {args:Array Value} {W0:World} {H:List Grp} {R R':Value→List Grp→Prop} (h:Tri P f args W0 H R)
  (hr:∀ v H',R v H'→R' v H'):Tri P f args W0 H R' :=
 fun w hs=>(h w hs).mono fun _ _ ⟨v,H',he,hR,hs'⟩=>⟨v,H',he,hr _ _ hR,hs'⟩
def Body (P:Program) (fn:Func) (W0:World) (R:Value→List Grp→Prop):F0 :=
 bodyPost P fn fun e w'=>∃ v H',e=.returned v∧R v H'∧Sat W0 H' w'
def argEnv:Nat→List Value→List Sl
 | _,[]=>[]
 | i,v::r=>⟨i,[],v⟩::argEnv (i+1) r
theorem S3:∀ (vs:List Value) (i:Nat) (s:Sl),s∈argEnv i vs→s.ch=[]∧i≤s.t∧vs[s.t - i]? = some s.v
  | [],_,_,h=>by simp [argEnv] at h
  | v::r,i,s,h=>by
    simp only [argEnv,List.mem_cons] at h
    rcases h with rfl | h
    simp
    obtain ⟨h1,h2,h3⟩:=S3 r (i+1) s h
    refine ⟨h1,by omega,?_⟩
    have:s.t - i=(s.t - (i+1))+1:=by omega
    rw [this,List.getElem?_cons_succ]
    exact h3
theorem Tri_of {P:Program} {f:FuncId} {fn:Func} {c:Code} {args:List Value} {n:Fr} {W0:World} {H:List Grp} {R:Value→List Grp→Prop}
  (hf:P.funcs[f]? = some fn) (hb:fn.body=some c) (hn:fn.ntmps=n.k) (hle:args.length≤n.k)
  (k:G P c (Body P fn W0 R) n (argEnv 0 args) W0 H) (hz:n.dl=[]:=by rfl):Tri P f args.toArray W0 H R:=by
 intro w hs
 refine calls_of_wp hf hb (k _ w ?_ hs)
 refine ⟨by unfold Fr.ds; rw [hz],by simp [hn]; omega,fun u w=>match args[u]? with | some v=>V0 v==some w | none=>false,?_,?_⟩
 intro s hs w
 obtain ⟨h1,h2,h3⟩:=S3 args 0 s hs
 simp only [Nat.sub_zero] at h3
 simp only [h3]
 intro s hs
 obtain ⟨h1,h2,h3⟩:=S3 args 0 s hs
 simp only [Nat.sub_zero] at h3
 rw [h1]
 simp only [chT,List.all_nil,if_true]
 have hlt:s.t<args.length:=by
  rcases Nat.lt_or_ge s.t args.length with h | h
  exact h
  simp [List.getElem?_eq_none h] at h3
 rw [Array.getElem?_append_left (by simpa using hlt)]
 simpa using h3
theorem D5 {P:Program} {f:FuncId} {fn:Func} {c:Code} {A:Array Value} {W0:World} {H:List Grp} {R:Value→List Grp→Prop} (m:Nat)
  (hf:P.funcs[f]? = some fn) (k:G P c (Body P fn W0 R) ⟨m,[]⟩ (argEnv 0 A.toList) W0 H)
  (hb:fn.body=some c:=by exact rfl) (hn:fn.ntmps=m:=by exact rfl) (hle:Nat.ble A.toList.length m=true:=by kernel_rfl):Tri P f A W0 H R:=by
 have h:=Tri_of (args:=A.toList) (n:=⟨m,[]⟩) hf hb hn (Nat.le_of_ble_eq_true hle) k
 rwa [Array.toArray_toList] at h
def resV (E:List Sl):List ResultVar→Option (List Value)
 | []=>some []
 | .tmp t::r=>(match evT E [] t,resV E r with | some v,some l=>some (v::l) | _,_=>none)
 | _::_=>none
def packV:List Value→Value
 | [v]=>v
 | l=>.tuple l.toArray
def resOne (tmps:Array Value):ResultVar→Sem Value
 | .tmp t=>pure (tmps.getD t undef)
 | .cell a t=>do loadVar t (← asAddr (tmps.getD a undef))
theorem resList_of {P:Program} {n:Fr} {E:Env} {a:Act} (ha:Ag n E a) (w:World):∀ (rs:List ResultVar) {l:List Value},resV E rs=some l →
    (rs.mapM (resOne a.tmps)).run P w=.ok l w
  | [],l,h=>by simp only [resV,Option.some.injEq] at h; subst h; rfl
  | .tmp t::rs,l,h=>by
    simp only [resV] at h
    split at h
    rename_i v l' hv hl
    injection h with h; subst h
    have e:a.tmps.getD t undef=v:=ha.eval (x:=.tmp t) hv
    have ih:=resList_of (P:=P) ha w rs hl
    simp only [List.mapM_cons,Sem.run_bind,resOne,Sem.run_pure,Result.andThen_ok,e,ih]
    simp at h
  | .cell b t::rs,l,h=>by simp [resV] at h
theorem results_eq (fn:Func) (tmps:Array Value):results fn tmps=(fn.results.mapM (resOne tmps)) >>= fun vs=>(pure (if h:vs.size=1 then vs[0] else .tuple vs):Sem Value):=rfl
theorem results_of {P:Program} {fn:Func} {n:Fr} {E:Env} {a:Act} (ha:Ag n E a) {rs:List ResultVar} {l:List Value} (h:resV E rs=some l)
    (hr:fn.results=rs.toArray) (w:World):(results fn a.tmps).run P w=.ok (packV l) w:=by
  have e2:=resList_of (P:=P) ha w rs h
  have e3:((rs.toArray).mapM (resOne a.tmps)).run P w=.ok l.toArray w:=by
    rw [Array.mapM_eq_mapM_toList,Sem.run_map,e2]; rfl
  rw [results_eq,hr,Sem.run_bind,e3]
  simp only [Result.andThen_ok,Sem.run_pure]
  congr 1
  cases l with
  | nil=>rfl
  | cons v l=>cases l with
    | nil=>rfl
    | cons u l=>simp [packV]
theorem B7 {P:Program} {fn:Func} {n:Fr} {E:Env} {W0:World} {H:List Grp} {R:Value→List Grp→Prop} {x:Exit} (rs:List ResultVar) (l:List Value)
  (hr:fn.results=rs.toArray:=by exact rfl) (h:resV E rs=some l:=by kernel_rfl) (hx:(match x with | .normal=>true | .ret=>true | _=>false)=true:=by exact rfl) (k:R (packV l) H) (hz:n.dl=[]:=by rfl):N (Body P fn W0 R) x n E W0 H:=by
 intro a w ha hs
 cases x <;> simp at hx
 exact ⟨ha.defers.trans (by unfold Fr.ds; rw [hz]),_,results_of ha h hr w,_,H,rfl,k,hs⟩
 exact ⟨ha.defers.trans (by unfold Fr.ds; rw [hz]),_,results_of ha h hr w,_,H,rfl,k,hs⟩
theorem Q3 {P:Program} {ops:Array Oper} {i:Nat} {Q:F0} {n:Fr} {E:Env} {W0:World} {H:List Grp} {o:Oper} {ch:List (Nat × Bool)} {c:Call} {fo:Operand} {f:FuncId} {caps:Array Value} {fst:Array Value} {vs:List Value}
  {fn:Func} {R:Value→List Grp→Prop}
  (ho:ops[i]? = some o:=by exact rfl) (hop:o.op=.call c:=by exact rfl) (hce:c.callee=.value fo:=by exact rfl) (hfo:evO E ch fo=some (.func (.func f) fst caps):=by kernel_rfl) (hargs:evL (evO E ch) c.args.toList=some vs:=by kernel_rfl)
  (hf : P.funcs[f]? = some fn) (hrt : (fn.name == "runtime.NumGoroutine") = false := by exact rfl) (hbody : fn.body.isNone = false := by exact rfl)
  (hch:D7 ops E o.guard=some ch:=by kernel_rfl) (hd:G1 n ch o.dst=true:=by kernel_rfl) (hsure:∀ β:Nat→Bool→Bool,(∀ s,s∈E→∀ w,β s.t w=(V0 s.v==some w))→chT β ch=true)
  (hc:Tri P f (fst++vs.toArray++caps) W0 H R)
  (k:∀ v H',R v H'→GL false P ops (i+1) Q n (Env.put E o.dst ch v) W0 H'):GL false P ops i Q n E W0 H:=by
 have hi:i<ops.toList.length:=by
  rcases Nat.lt_or_ge i ops.size with h | h
  simpa using h
  simp [Array.getElem?_eq_none h] at ho
 have hdrop:ops.toList.drop i=o::ops.toList.drop (i+1):=by
  rw [List.drop_eq_getElem_cons hi]
  congr 1
  have hi':i<ops.size:=by simpa using hi
  rw [Array.getElem?_eq_getElem hi'] at ho
  simpa using ho
 intro a w ha hs
 rw [hdrop]
 obtain ⟨β,hβ,hat⟩:=ha.at_
 have hcT:=hsure β hβ
 have hw:=P3 hβ hat hch
 unfold wpList
 rw [hw,if_pos hcT]
 left
 have hrun:(execOp a.eval o).run P w=.ok (.enter f (fst++vs.toArray++caps)) w:=by
  unfold execOp
  simp only [hop]
  simp only [resolve,hce]
  rw [L0 hat hcT hfo,P0 (fun x v=>L0 hat hcT) hargs]
  simp only [Deferred.ofValue,Sem.run_bind,Sem.run_pure,Result.andThen_ok,invoke,callFunc,run_program,hf,hrt,hbody,Bool.false_eq_true,if_false]
 unfold Oper.wp
 rw [hrun]
 refine (hc w hs).mono ?_
 rintro e w' ⟨v,H',rfl,hR,hs'⟩
 have hput:=Ag.put ha hβ hat hd v
 rw [if_pos hcT] at hput
 exact k v H' hR _ _ hput hs'
theorem GL_callQ {d:Bool} {P:Program} {ops:Array Oper} {i:Nat} {Q:F0} {n:Fr} {E:Env} {W0:World} {H:List Grp} {o:Oper} {ch:List (Nat × Bool)} {c:Call} {fo:Operand} {f:FuncId} {caps:Array Value} {fst:Array Value} {vs:List Value}
  {fn:Func} {v:Value}
  (ho:ops[i]? = some o) (hop:o.op=.call c) (hce:c.callee=.value fo) (hfo:evO E ch fo=some (.func (.func f) fst caps)) (hargs:evL (evO E ch) c.args.toList=some vs)
  (hf : P.funcs[f]? = some fn) (hrt : (fn.name == "runtime.NumGoroutine") = false) (hbody : fn.body.isNone = false)
  (hch:D7 ops E o.guard=some ch) (hd:G1 n ch o.dst=true) (hk:K5 E ch=true)
  (hc:chB E ch→Tri P f (fst++vs.toArray++caps) W0 H (fun u H'=>u=v∧H'=H))
  (k:GL d P ops (i+1) Q n (Env.put E o.dst ch v) W0 H):GL d P ops i Q n E W0 H:=by
 refine J1 ho hch hd hk (fun r hr hcb w hs=>?_) k
 have hrun:(execOp r o).run P w=.ok (.enter f (fst++vs.toArray++caps)) w:=by
  unfold execOp
  simp only [hop]
  simp only [resolve,hce]
  rw [hr _ _ hfo,P0 hr hargs]
  simp only [Deferred.ofValue,Sem.run_bind,Sem.run_pure,Result.andThen_ok,invoke,callFunc,run_program,hf,hrt,hbody,Bool.false_eq_true,if_false]
 rw [hrun]
 refine ⟨rfl,(hc hcb w hs).mono ?_⟩
 rintro e w' ⟨u,H',rfl,⟨rfl,rfl⟩,hs'⟩
 exact ⟨rfl,hs'⟩
def M5 (E:List Sl) (ch:List (Nat × Bool)):Bool:=ch.all fun p=>match Env.find E p.1 with
 | some s=>(match s.v,p.2 with | .bool true,true=>true | .bool false,false=>true | _,_=>false)
 | none=>false
theorem M3 {E:Env} {ch:List (Nat × Bool)} (h:M5 E ch=true) (β:Nat→Bool→Bool) (hβ:∀ s,s∈E→∀ w,β s.t w=(V0 s.v==some w)):chT β ch=true:=by
 unfold chT
 rw [List.all_eq_true]
 intro p hp
 have:=List.all_eq_true.1 h p hp
 split at this
 rename_i s hs
 obtain ⟨hm,ht⟩:=Env.find_mem hs
 rw [← ht,hβ s hm]
 split at this <;> rename_i hv hw <;> simp_all [V0]
 simp at this
theorem w64 {x:Int} (h0:-9223372036854775808≤x) (h1:x≤9223372036854775807):IntKind.wrap .i64 x=x:=by
 simp only [IntKind.wrap,IntKind.bits,IntKind.signed]
 simp only [show (2:Int) ^ 64=18446744073709551616 from by decide,show (2:Int) ^ (64 - 1)=9223372036854775808 from by decide]
 split <;> rename_i h <;> simp at h <;> omega
theorem q64 {x y:Int} (h0:0≤x) (h1:x≤9223372036854775807) (hy:0<y):IntKind.wrap .i64 (Int.tdiv x y)=x / y:=by
 rw [Int.tdiv_eq_ediv_of_nonneg h0]
 have:=Int.ediv_nonneg h0 (Int.le_of_lt hy)
 have:=Int.ediv_le_self y h0
 exact w64 (by omega) (by omega)
theorem r64 {x y:Int} (h0:0≤x):Int.tmod x y=x % y:=Int.tmod_eq_emod_of_nonneg h0
def B2 (s:ByteArray) (i:Int):Int:=(((s.data.toList)[i.toNat]?.getD 0).toNat:Int)
theorem E5 (s:ByteArray) (i:Int):0≤B2 s i∧B2 s i<256:=by
 unfold B2
 have:=UInt8.toNat_lt ((s.data.toList)[i.toNat]?.getD 0)
 omega
theorem P5 {d:Bool} {P:Program} {ops:Array Oper} {i:Nat} {Q:F0} {n:Fr} {E:Env} {W0:World} {H:List Grp} {o:Oper} {ch:List (Nat × Bool)} {t:TypeId} {x ix:Operand} {s:ByteArray} {kd:IntKind} {j:Int}
  (ho:ops[i]? = some o:=by exact rfl) (hop:o.op=.index t x ix:=by exact rfl) (hx:evO E ch x=some (.string s):=by kernel_rfl) (hix:evO E ch ix=some (.int kd j):=by kernel_rfl) (hu:P.underlying t=some .string:=by kernel_rfl)
  (hch:D7 ops E o.guard=some ch:=by kernel_rfl) (hd:G1 n ch o.dst=true:=by kernel_rfl) (hk:K5 E ch=true:=by kernel_rfl)
  (hb:chB E ch→0≤j∧j<s.size)
  (k:GL d P ops (i+1) Q n (Env.put E o.dst ch (.int .u8 (B2 s j))) W0 H):GL d P ops i Q n E W0 H:=by
 refine J1 ho hch hd hk (fun r hr hcb w _=>?_) k
 obtain ⟨h0,h1⟩:=hb hcb
 have hlt:j.toNat<s.size:=by omega
 have e:s[j.toNat]? = some s[j.toNat]:=by simp [getElem?_pos,hlt]
 have e2:((s[j.toNat]:UInt8).toNat:Int)=B2 s j:=by
  unfold B2
  have:(s.data.toList)[j.toNat]? = some s[j.toNat]:=by
   rw [List.getElem?_eq_getElem (by simpa using hlt)]; rfl
  rw [this]; rfl
 unfold execOp
 simp only [hop]
 rw [hr _ _ hx,hr _ _ hix]
 simp only [Instr.index,asIntOf,Sem.run_bind,run_underlying hu,Sem.run_pure,Result.andThen_ok,if_pos h0,e,e2]
 exact ⟨rfl,rfl⟩
def loV:Option Value→Option Int
 | none=>some 0
 | some (.int _ n)=>some n
 | _=>none
def hiV (len:Int):Option Value→Option Int
 | none=>some len
 | some (.int _ n)=>some n
 | _=>none
def evOO (ρ:Operand→Option Value):Option Operand→Option (Option Value)
 | none=>some none
 | some x=>(match ρ x with | some v=>some (some v) | none=>none)
theorem run_sliceBound {P:Program} {x:Value} {y:Nat} {code:BoundsCode} {kd:IntKind} {n:Int} (hx:x=.int kd n) (h0:0≤n) (h1:n≤y) (w:World):(Instr.sliceBound x y code).run P w=.ok n.toNat w:=by
 subst hx
 simp [Instr.sliceBound,asIntOf,h0,h1]
theorem run_sliceBounds {P:Program} {isSlice:Bool} {len cap:Nat} {lo hi:Option Value} {l h:Int} (hl:loV lo=some l) (hh:hiV len hi=some h)
    (h0:0≤l) (h1:l≤h) (h2:h≤cap) (w:World):(Instr.sliceBounds isSlice len cap lo hi none).run P w=.ok (l.toNat,h.toNat,cap) w:=by
  have hhi:(match hi with | some v=>Instr.sliceBound v cap (if isSlice then .sliceAcap else .sliceAlen) | none=>(pure len:Sem Nat)).run P w=.ok h.toNat w:=by
    cases hi with
    | none=>simp only [hiV,Option.some.injEq] at hh; subst hh; rfl
    | some v =>
      cases v <;> simp only [hiV,Option.some.injEq,reduceCtorEq] at hh
      subst hh
      exact run_sliceBound rfl (by omega) h2 w
  have hlo:(match lo with | some v=>Instr.sliceBound v h.toNat .sliceB | none=>(pure 0:Sem Nat)).run P w=.ok l.toNat w:=by
    cases lo with
    | none=>simp only [loV,Option.some.injEq] at hl; subst hl; rfl
    | some v =>
      cases v <;> simp only [loV,Option.some.injEq,reduceCtorEq] at hl
      subst hl
      exact run_sliceBound rfl h0 (by omega) w
  unfold Instr.sliceBounds
  cases hi with
  | none =>
    simp only [Sem.run_bind,Sem.run_pure,Result.andThen_ok] at hhi ⊢
    injection hhi with hhi
    subst hhi
    cases lo with
    | none=>simp only [Sem.run_bind,Sem.run_pure,Result.andThen_ok] at hlo ⊢; injection hlo with hlo; rw [← hlo]
    | some v=>simp only [Option.isSome_none,Bool.false_eq_true,if_false,Sem.run_bind] at hlo ⊢; rw [hlo]; rfl
  | some u =>
    simp only [Sem.run_bind,Sem.run_pure,Result.andThen_ok] at hhi ⊢
    rw [hhi]
    simp only [Result.andThen_ok]
    cases lo with
    | none=>simp only [Sem.run_bind,Sem.run_pure,Result.andThen_ok] at hlo ⊢; injection hlo with hlo; rw [← hlo]
    | some v=>simp only [Option.isSome_none,Bool.false_eq_true,if_false,Sem.run_bind] at hlo ⊢; rw [hlo]; rfl
theorem X3 {d:Bool} {P:Program} {ops:Array Oper} {i:Nat} {Q:F0} {n:Fr} {E:Env} {W0:World} {H:List Grp} {o:Oper} {ch:List (Nat × Bool)} {t:TypeId} {x:Operand} {lo hi:Option Operand} {s:ByteArray} {vl vh:Option Value} {l h:Int}
    (ho:ops[i]? = some o:=by exact rfl) (hop:o.op=.slice t x lo hi none:=by exact rfl) (hx:evO E ch x=some (.string s):=by kernel_rfl) (hvl:evOO (evO E ch) lo=some vl:=by kernel_rfl) (hvh:evOO (evO E ch) hi=some vh:=by kernel_rfl) (hu:P.underlying t=some .string:=by kernel_rfl)
    (hl:loV vl=some l:=by kernel_rfl) (hh:hiV s.size vh=some h:=by kernel_rfl)
    (hch:D7 ops E o.guard=some ch:=by kernel_rfl) (hd:G1 n ch o.dst=true:=by kernel_rfl) (hk:K5 E ch=true:=by kernel_rfl)
    (hb:chB E ch→0≤l∧l≤h∧h≤s.size)
    (k:GL d P ops (i+1) Q n (Env.put E o.dst ch (.string (s.extract l.toNat h.toNat))) W0 H):GL d P ops i Q n E W0 H:=by
  refine J1 ho hch hd hk (fun r hr hcb w _=>?_) k
  obtain ⟨h0,h1,h2⟩:=hb hcb
  have hm:∀ {y:Option Operand} {v:Option Value},evOO (evO E ch) y=some v→y.map r=v:=by
    intro y v hv
    cases y with
    | none=>simp only [evOO,Option.some.injEq] at hv; subst hv; rfl
    | some y =>
      simp only [evOO] at hv
      split at hv
      rename_i u hu; injection hv with hv; subst hv; simp [hr _ _ hu]
      simp at hv
  unfold execOp
  simp only [hop]
  rw [hr _ _ hx,hm hvl,hm hvh]
  simp only [Instr.sliceAt,Instr.slice,Sem.run_bind,run_underlying hu,Result.andThen_ok,Option.map_none,Option.isSome_none,Bool.false_eq_true,if_false,
    run_sliceBounds (P:=P) (isSlice:=false) hl hh h0 h1 h2,Sem.run_pure]
  exact ⟨rfl,rfl⟩
theorem GL_concat {d:Bool} {P:Program} {ops:Array Oper} {i:Nat} {Q:F0} {n:Fr} {E:Env} {W0:World} {H:List Grp} {o:Oper} {ch:List (Nat × Bool)} {t t2:TypeId} {x y:Operand} {s u:ByteArray}
  (ho:ops[i]? = some o) (hop:o.op=.binOp .add t x y t2) (hx:evO E ch x=some (.string s)) (hy:evO E ch y=some (.string u))
  (hch:D7 ops E o.guard=some ch) (hd:G1 n ch o.dst=true) (hk:K5 E ch=true)
  (hb:chB E ch→s.size+u.size≤9223372036854775807)
  (k:GL d P ops (i+1) Q n (Env.put E o.dst ch (.string (s++u))) W0 H):GL d P ops i Q n E W0 H:=by
 refine J1 ho hch hd hk (fun r hr hcb w _=>?_) k
 have h0:=hb hcb
 have h1:¬ (((s.size+u.size:Nat):Int) > IntKind.i64.max):=by
  have:IntKind.i64.max=9223372036854775807:=by decide
  rw [this]; omega
 unfold execOp
 simp only [hop]
 rw [hr _ _ hx,hr _ _ hy]
 simp only [eqGuard,Sem.run_bind,binOp,Op.stringOp,if_neg h1]
 exact ⟨rfl,rfl⟩
end Go.Sw
namespace Go.Sw
open Go.RowKit
def At (W0:World) (H:List Grp) (b:Nat) (o:Obj):Prop:=(b<W0.heap.size∧W0.heap[b]? = some o)∨(b,o)∈H.flatten
theorem Sat.at {W0:World} {H:List Grp} {w:World} (h:Sat W0 H w) {b:Nat} {o:Obj} (ha:At W0 H b o):w.heap[b]? = some o:=by
 rcases ha with ⟨hb,h0⟩ | hm
 rw [h.below.block b hb]; exact h0
 exact h.has _ hm
theorem At.grp {W0:World} {H:List Grp} {g:Grp} {b:Nat} {o:Obj} (j i:Nat) (hj:H[j]? = some g) (hi:g[i]? = some (b,o)):At W0 H b o :=
 .inr (List.mem_flatten.2 ⟨g,List.mem_of_getElem? hj,List.mem_of_getElem? hi⟩)
theorem At.mem {W0:World} {H:List Grp} {g:Grp} {b:Nat} {o:Obj} (hg:g∈H) (hi:(b,o)∈g):At W0 H b o:=.inr (List.mem_flatten.2 ⟨g,hg,hi⟩)
structure Wr (b:Nat) (o:Obj) (w w':World):Prop where
 os:w'.os=w.os
 tape:w'.tape=w.tape
 output:w'.output=w.output
 size:w'.heap.size=w.heap.size
 at_:w'.heap[b]? = some o
 other:∀ k,k≠b→w'.heap[k]? = w.heap[k]?
theorem nodup_swap {H:List Grp} {g:Grp} {b:Nat} {o o':Obj} {j i:Nat} (hj:H[j]? = some g) (hi:g[i]? = some (b,o)) :
    ((H.set j (g.set i (b,o'))).flatten.map Prod.fst)=H.flatten.map Prod.fst:=by
  induction H generalizing j with
  | nil=>simp at hj
  | cons x H ih =>
    cases j with
    | zero =>
      simp only [List.getElem?_cons_zero,Option.some.injEq] at hj
      subst hj
      simp only [List.set_cons_zero,List.flatten_cons,List.map_append]
      congr 1
      clear ih
      induction x generalizing i with
      | nil=>simp at hi
      | cons p x ih =>
        cases i with
        | zero=>simp only [List.getElem?_cons_zero,Option.some.injEq] at hi; subst hi; simp
        | succ i=>simp only [List.getElem?_cons_succ] at hi; simp [ih hi]
    | succ j =>
      simp only [List.getElem?_cons_succ] at hj
      simp only [List.set_cons_succ,List.flatten_cons,List.map_append,ih hj]
theorem mem_swap {H:List Grp} {g:Grp} {b:Nat} {o o':Obj} {j i:Nat} (hj:H[j]? = some g) (hi:g[i]? = some (b,o)) (hn:(H.flatten.map Prod.fst).Nodup)
    {p:Nat × Obj} (hp:p∈(H.set j (g.set i (b,o'))).flatten):p=(b,o')∨(p∈H.flatten∧p.1≠b):=by
  induction H generalizing j with
  | nil=>simp at hj
  | cons x H ih =>
    simp only [List.flatten_cons,List.map_append,List.nodup_append] at hn
    obtain ⟨n1,n2,n3⟩:=hn
    cases j with
    | zero =>
      simp only [List.getElem?_cons_zero,Option.some.injEq] at hj
      subst hj
      simp only [List.set_cons_zero,List.flatten_cons,List.mem_append] at hp
      have hb:b∈x.map Prod.fst:=List.mem_map.2 ⟨_,List.mem_of_getElem? hi,rfl⟩
      rcases hp with hp | hp
      have:p=(b,o')∨(p∈x∧p.1≠b):=by
        clear ih n2 n3 hb
        induction x generalizing i with
        | nil=>simp at hi
        | cons q x ih =>
          simp only [List.map_cons,List.nodup_cons] at n1
          cases i with
          | zero =>
            simp only [List.getElem?_cons_zero,Option.some.injEq] at hi; subst hi
            simp only [List.set_cons_zero,List.mem_cons] at hp
            rcases hp with rfl | hp
            exact .inl rfl
            refine .inr ⟨List.mem_cons_of_mem _ hp,fun e=>n1.1 ?_⟩
            exact List.mem_map.2 ⟨p,hp,e⟩
          | succ i =>
            simp only [List.getElem?_cons_succ] at hi
            simp only [List.set_cons_succ,List.mem_cons] at hp
            rcases hp with rfl | hp
            refine .inr ⟨List.mem_cons_self,fun e=>n1.1 ?_⟩
            exact List.mem_map.2 ⟨_,List.mem_of_getElem? hi,e.symm⟩
            rcases ih n1.2 hi hp with h | ⟨h1,h2⟩
            exact .inl h
            exact .inr ⟨List.mem_cons_of_mem _ h1,h2⟩
      rcases this with h | ⟨h1,h2⟩
      exact .inl h
      exact .inr ⟨by simp [h1],h2⟩
      refine .inr ⟨by simp [hp],fun e=>?_⟩
      have:p.1∈H.flatten.map Prod.fst:=List.mem_map.2 ⟨p,hp,rfl⟩
      exact n3 _ hb _ this e.symm
    | succ j =>
      simp only [List.getElem?_cons_succ] at hj
      simp only [List.set_cons_succ,List.flatten_cons,List.mem_append] at hp
      have hbH:b∈H.flatten.map Prod.fst:=List.mem_map.2 ⟨(b,o),List.mem_flatten.2 ⟨g,List.mem_of_getElem? hj,List.mem_of_getElem? hi⟩,rfl⟩
      rcases hp with hp | hp
      refine .inr ⟨by simp [hp],fun e=>?_⟩
      have:p.1∈x.map Prod.fst:=List.mem_map.2 ⟨p,hp,rfl⟩
      exact n3 _ this _ hbH e
      rcases ih hj n2 hp with h | ⟨h1,h2⟩
      exact .inl h
      exact .inr ⟨by simp [h1],h2⟩
theorem Sat.wr {W0:World} {H:List Grp} {w w':World} (h:Sat W0 H w) {g:Grp} {b:Nat} {o o':Obj} {j i:Nat} (hj:H[j]? = some g) (hi:g[i]? = some (b,o))
  (hw:Wr b o' w w'):Sat W0 (H.set j (g.set i (b,o'))) w':=by
 have hm:(b,o)∈H.flatten:=List.mem_flatten.2 ⟨g,List.mem_of_getElem? hj,List.mem_of_getElem? hi⟩
 have hhigh:W0.heap.size≤b:=h.high (b,o) hm
 refine ⟨⟨hw.os.trans h.below.os,hw.tape.trans h.below.tape,hw.output.trans h.below.output,by rw [hw.size]; exact h.below.size,fun k hk=>?_⟩,?_,?_,?_⟩
 rw [hw.other k (by omega)]; exact h.below.block k hk
 rw [nodup_swap hj hi]; exact h.nodup
 intro p hp
 rcases mem_swap hj hi h.nodup hp with rfl | ⟨h1,h2⟩
 exact hw.at_
 rw [hw.other _ h2]; exact h.has p h1
 intro p hp
 rcases mem_swap hj hi h.nodup hp with rfl | ⟨h1,h2⟩
 exact hhigh
 exact h.high p h1
theorem Sat.new {W0:World} {H:List Grp} {w w':World} (h:Sat W0 H w) {o:Obj} (hos:w'.os=w.os) (htape:w'.tape=w.tape) (hout:w'.output=w.output)
  (hheap:w'.heap=w.heap.push o):Sat W0 ([(w.heap.size,o)]::H) w':=by
 have hlt:∀ p,p∈H.flatten→p.1<w.heap.size:=fun p hp=>by
  have:=h.has p hp
  rcases Nat.lt_or_ge p.1 w.heap.size with h' | h'
  exact h'
  simp [Array.getElem?_eq_none h'] at this
 have hold:∀ k,k<w.heap.size→w'.heap[k]? = w.heap[k]? := fun k hk=>by
  rw [hheap,Array.getElem?_push,if_neg (by omega)]
 refine ⟨⟨hos.trans h.below.os,htape.trans h.below.tape,hout.trans h.below.output,by rw [hheap]; simp; have:=h.below.size; omega,fun k hk=>?_⟩,?_,?_,?_⟩
 have:=h.below.size
 rw [hold k (by omega)]; exact h.below.block k hk
 simp only [List.flatten_cons,List.cons_append,List.nil_append,List.map_cons,List.nodup_cons]
 refine ⟨fun hm=>?_,h.nodup⟩
 obtain ⟨p,hp,he⟩:=List.mem_map.1 hm
 have:=hlt p hp
 omega
 intro p hp
 simp only [List.flatten_cons,List.cons_append,List.nil_append,List.mem_cons] at hp
 rcases hp with rfl | hp
 simp [hheap]
 rw [hold _ (hlt p hp)]; exact h.has p hp
 intro p hp
 simp only [List.flatten_cons,List.cons_append,List.nil_append,List.mem_cons] at hp
 rcases hp with rfl | hp
 exact h.below.size
 exact h.high p hp
theorem Sat.perm {W0:World} {H H':List Grp} {w:World} (h:Sat W0 H w) (hp:H.Perm H'):Sat W0 H' w:=by
 have hf:H.flatten.Perm H'.flatten:=hp.flatten
 exact ⟨h.below,(hf.map _).nodup_iff.1 h.nodup,fun p hm=>h.has p (hf.mem_iff.2 hm),fun p hm=>h.high p (hf.mem_iff.2 hm)⟩
theorem Sat.tail {W0:World} {H:List Grp} {g:Grp} {w:World} (h:Sat W0 (g::H) w):Sat W0 H w:=by
 have hn:=h.nodup
 simp only [List.flatten_cons,List.map_append,List.nodup_append] at hn
 exact ⟨h.below,hn.2.1,fun p hm=>h.has p (by simp [hm]),fun p hm=>h.high p (by simp [hm])⟩
theorem Sat.flat {W0:World} {H H':List Grp} {w:World} (h:Sat W0 H w) (hf:H.flatten.Perm H'.flatten):Sat W0 H' w :=
 ⟨h.below,(hf.map _).nodup_iff.1 h.nodup,fun p hm=>h.has p (hf.mem_iff.2 hm),fun p hm=>h.high p (hf.mem_iff.2 hm)⟩
theorem Sat.subl {W0:World} {H H':List Grp} {w:World} (h:Sat W0 H w) (hf:H'.flatten.Sublist H.flatten):Sat W0 H' w :=
 ⟨h.below,h.nodup.sublist (hf.map _),fun p hm=>h.has p (hf.subset hm),fun p hm=>h.high p (hf.subset hm)⟩
theorem GL_heap {d:Bool} {P:Program} {ops:Array Oper} {i:Nat} {Q:F0} {n:Fr} {E:Env} {W0:World} {H H':List Grp} (hd:d=false:=by exact rfl)
  (hs:∀ w,Sat W0 H w→Sat W0 H' w) (k:GL d P ops i Q n E W0 H'):GL d P ops i Q n E W0 H:=by
 subst hd; exact fun a w ha h=>k a w ha (hs w h)
theorem R2 {P:Program} {c:Code} {Q:F0} {n:Fr} {E:Env} {W0:World} {H H':List Grp}
 (hs:∀ w,Sat W0 H w→Sat W0 H' w) (k:G P c Q n E W0 H'):G P c Q n E W0 H:=fun a w ha h=>k a w ha (hs w h)
theorem F3 {Q:F0} {x:Exit} {n:Fr} {E:Env} {W0:World} {H H':List Grp}
 (hs:∀ w,Sat W0 H w→Sat W0 H' w) (k:N Q x n E W0 H'):N Q x n E W0 H:=fun a w ha h=>k a w ha (hs w h)
theorem Tri.heap {P:Program} {f:FuncId} {args:Array Value} {W0:World} {H H':List Grp} {R:Value→List Grp→Prop}
 (hs:∀ w,Sat W0 H w→Sat W0 H' w) (h:Tri P f args W0 H' R):Tri P f args W0 H R:=fun w h0=>h w (hs w h0)
theorem Tri.post {P:Program} {f:FuncId} {args:Array Value} {W0:World} {H:List Grp} {R R':Value→List Grp→Prop}
  (h:Tri P f args W0 H R) (hr:∀ v H1,R v H1→∃ H2,R' v H2∧∀ w,Sat W0 H1 w→Sat W0 H2 w):Tri P f args W0 H R' :=
 fun w hs=>(h w hs).mono fun _ _ ⟨v,H1,he,hR,hs'⟩=>let ⟨H2,h2,h3⟩:=hr v H1 hR; ⟨v,H2,he,h2,h3 _ hs'⟩
theorem GL_eff {P:Program} {ops:Array Oper} {i:Nat} {Q:F0} {n:Fr} {E:Env} {W0:World} {H:List Grp} {o:Oper} {ch:List (Nat × Bool)} {R:Value→List Grp→Prop}
  (ho:ops[i]? = some o) (hch:D7 ops E o.guard=some ch) (hd:G1 n ch o.dst=true) (hsure:M5 E ch=true)
  (hrun:∀ (r:Operand→Value),(∀ x v,evO E ch x=some v→r x=v)→∀ w,Sat W0 H w→∃ v w' H',R v H'∧Sat W0 H' w' ∧
   ((execOp r o).run P w=.ok (.value v) w'∨((execOp r o).run P w=.ok .skip w'∧v=undef)))
  (k:∀ v H',R v H'→GL false P ops (i+1) Q n (Env.put E o.dst ch v) W0 H'):GL false P ops i Q n E W0 H:=by
 have hi:i<ops.toList.length:=by
  rcases Nat.lt_or_ge i ops.size with h | h
  simpa using h
  simp [Array.getElem?_eq_none h] at ho
 have hdrop:ops.toList.drop i=o::ops.toList.drop (i+1):=by
  rw [List.drop_eq_getElem_cons hi]
  congr 1
  have hi':i<ops.size:=by simpa using hi
  rw [Array.getElem?_eq_getElem hi'] at ho
  simpa using ho
 intro a w ha hs
 rw [hdrop]
 obtain ⟨β,hβ,hat⟩:=ha.at_
 have hcT:=M3 hsure β hβ
 have hw:=P3 hβ hat hch
 unfold wpList
 rw [hw,if_pos hcT]
 left
 obtain ⟨v,w',H',hR,hs',hr⟩:=hrun a.eval (fun x v=>L0 hat hcT) w hs
 have hput:=Ag.put ha hβ hat hd v
 rw [if_pos hcT] at hput
 unfold Oper.wp
 rcases hr with hr | ⟨hr,rfl⟩
 rw [hr]; exact k v H' hR _ _ hput hs'
 rw [hr]; exact k _ H' hR _ _ hput hs'
theorem T5 {w:World} {b off:Nat} {c:Array Value} {e:TypeId} {fz:Nat × Nat} {v:Value} (h:w.heap[b]? = some (.cells c e fz)) (hv:c[off]? = some v):w.cell? ⟨b,off,none⟩=some v:=by
 simp [World.cell?,h,hv]
theorem O7 (b off i:Nat):(Addr.add ⟨b,off,none⟩ i)=⟨b,off+i,none⟩:=by
 unfold Addr.add
 split
 rename_i h; subst h; rfl
 rfl
theorem V5 {P:Program} {w:World} {b off:Nat} {c:Array Value} {e:TypeId} {fz:Nat × Nat} (h:w.heap[b]? = some (.cells c e fz)):∀ (l:List Value) (i:Nat) (acc:Array Value),
    (∀ k (hk:k<l.length),c[off+i+k]? = some l[k])→(loadCellsFrom ⟨b,off,none⟩ i l.length acc).run P w=.ok (acc++l.toArray) w
  | [],i,acc,_=>by simp [loadCellsFrom]
  | v::l,i,acc,hl=>by
    have h0:=hl 0 (by simp)
    simp only [List.getElem_cons_zero,Nat.add_zero] at h0
    have ih:=V5 (P:=P) (off:=off) h l (i+1) (acc.push v) (fun k hk=>by
      have:=hl (k+1) (by simp; omega)
      simp only [List.getElem_cons_succ] at this
      rw [show off+(i+1)+k=off+i+(k+1) from by omega]
      exact this)
    simp only [List.length_cons,loadCellsFrom,Sem.run_bind,O7,run_load,T5 h h0,Result.andThen_ok,ih]
    simp
theorem C2 {d:Bool} {P:Program} {ops:Array Oper} {i:Nat} {Q:F0} {n:Fr} {E:Env} {W0:World} {H:List Grp} {o:Oper} {ch:List (Nat × Bool)} {t:TypeId} {x:Operand}
  {b off:Nat} {c:Array Value} {e:TypeId} {fz:Nat × Nat} {v:Value}
  (ho:ops[i]? = some o:=by exact rfl) (hop:o.op=.load t x:=by exact rfl) (hx:evO E ch x=some (.pointer (some ⟨b,off,none⟩)):=by kernel_rfl) (ht:aggB P t=some false:=by kernel_rfl)
  (hch:D7 ops E o.guard=some ch:=by kernel_rfl) (hd:G1 n ch o.dst=true:=by kernel_rfl) (hk:K5 E ch=true:=by kernel_rfl)
  (hA:At W0 H b (.cells c e fz)) (hv:c[off]? = some v:=by exact rfl)
  (k:GL d P ops (i+1) Q n (Env.put E o.dst ch v) W0 H):GL d P ops i Q n E W0 H:=by
 refine J1 ho hch hd hk (fun r hr _ w hs=>?_) k
 unfold execOp
 simp only [hop]
 rw [hr _ _ hx]
 simp only [Instr.loadAt,Instr.sureAddr,loadVar,Sem.run_bind,Sem.run_pure,Result.andThen_ok,Q6 ht,Bool.false_eq_true,if_false,run_load,T5 (hs.at hA) hv]
 exact ⟨rfl,rfl⟩
theorem Q1 {d:Bool} {P:Program} {ops:Array Oper} {i:Nat} {Q:F0} {n:Fr} {E:Env} {W0:World} {H:List Grp} {o:Oper} {ch:List (Nat × Bool)} {t:TypeId} {x:Operand}
  {b off:Nat} {c:Array Value} {e:TypeId} {fz:Nat × Nat} {l:List Value}
  (ho:ops[i]? = some o:=by exact rfl) (hop:o.op=.load t x:=by exact rfl) (hx:evO E ch x=some (.pointer (some ⟨b,off,none⟩)):=by kernel_rfl) (ht:aggB P t=some true:=by kernel_rfl) (hsz:T3 P t=some l.length:=by kernel_rfl)
  (hch:D7 ops E o.guard=some ch:=by kernel_rfl) (hd:G1 n ch o.dst=true:=by kernel_rfl) (hk:K5 E ch=true:=by kernel_rfl)
  (hA:At W0 H b (.cells c e fz)) (hv':(c.toList.drop off).take l.length=l:=by kernel_rfl)
  (k:GL d P ops (i+1) Q n (Env.put E o.dst ch (.agg l.toArray)) W0 H):GL d P ops i Q n E W0 H:=by
 have hv:∀ k (hk:k<l.length),c[off+k]? = some l[k]:=by
  intro k hk
  have h1:((c.toList.drop off).take l.length)[k]? = some l[k]:=by rw [hv']; simp
  rw [List.getElem?_take,if_pos hk,List.getElem?_drop] at h1
  simpa using h1
 refine J1 ho hch hd hk (fun r hr _ w hs=>?_) k
 unfold execOp
 simp only [hop]
 rw [hr _ _ hx]
 simp only [Instr.loadAt,Instr.sureAddr,loadVar,Sem.run_bind,Sem.run_pure,Result.andThen_ok,Q6 ht,if_true,L4 hsz,loadCells,
  V5 (P:=P) (hs.at hA) l 0 #[] (by simpa using hv)]
 exact ⟨rfl,by simp⟩
def thawed (fz:Nat × Nat) (off:Nat):Bool:=!(decide (fz.1≤off)&&decide (off<fz.2))
theorem run_store1 {P:Program} {w:World} {b off:Nat} {c:Array Value} {e:TypeId} {fz:Nat × Nat} {v:Value} (h:w.heap[b]? = some (.cells c e fz)) (hoff:off<c.size)
  (hfz:thawed fz off=true) (hv:v.oneCell'=true):∃ w',(store ⟨b,off,none⟩ v).run P w=.ok () w'∧Wr b (.cells (c.setIfInBounds off v) e fz) w w':=by
 have hc:w.cell? ⟨b,off,none⟩=some c[off]:=T5 h (by simp [hoff])
 have hf:w.frozen? ⟨b,off,none⟩=false:=by
  simp only [World.frozen?,h]
  simp [thawed] at hfz
  simp
  omega
 refine ⟨w.setCell ⟨b,off,none⟩ v,?_,?_⟩
 rw [run_store P w _ v _ hv,hc]
 simp [hf]
 have hb:b<w.heap.size:=by
  rcases Nat.lt_or_ge b w.heap.size with h' | h'
  exact h'
  simp [Array.getElem?_eq_none h'] at h
 refine ⟨rfl,rfl,rfl,by simp,?_,fun k hk=>?_⟩
 simp only [World.setCell,Array.getElem?_modify,↓reduceIte,h,Option.map_some]
 simp
 simp only [World.setCell,Array.getElem?_modify]
 rw [if_neg (fun e=>hk e.symm)]
theorem Wr.trans {b:Nat} {o1 o2:Obj} {w w1 w2:World} (h1:Wr b o1 w w1) (h2:Wr b o2 w1 w2):Wr b o2 w w2 :=
 ⟨h2.os.trans h1.os,h2.tape.trans h1.tape,h2.output.trans h1.output,h2.size.trans h1.size,h2.at_,fun k hk=>(h2.other k hk).trans (h1.other k hk)⟩
def setRow (c:Array Value) (off:Nat):List Value→Array Value
 | []=>c
 | v::r=>setRow (c.setIfInBounds off v) (off+1) r
theorem Y3 {P:Program} {b:Nat} {e:TypeId} {fz:Nat × Nat}:∀ (l:List Value) {w:World} {off i:Nat} {c:Array Value},w.heap[b]? = some (.cells c e fz)→off+i+l.length≤c.size →
    (∀ k,k<l.length→thawed fz (off+i+k)=true)→(l.all Value.oneCell')=true →
    ∃ w',(storeCells ⟨b,off,none⟩ l i).run P w=.ok () w'∧(l=[]→w'=w)∧Wr b (.cells (setRow c (off+i) l) e fz) w w'
  | [],w,off,i,c,h,_,_,_=>⟨w,rfl,fun _=>rfl,rfl,rfl,rfl,rfl,h,fun _ _=>rfl⟩
  | v::l,w,off,i,c,h,hlen,hfz,hv=>by
    simp only [List.all_cons,Bool.and_eq_true] at hv
    simp only [List.length_cons] at hlen
    obtain ⟨w1,hr1,hw1⟩:=run_store1 (P:=P) h (off:=off+i) (by omega) (by simpa using hfz 0 (by simp)) hv.1
    obtain ⟨w2,hr2,_,hw2⟩:=Y3 (P:=P) l (w:=w1) (off:=off) (i:=i+1) hw1.at_ (by simp; omega)
      (fun k hk=>by have:=hfz (k+1) (by simp; omega); rw [show off+(i+1)+k=off+i+(k+1) from by omega]; exact this) hv.2
    refine ⟨w2,?_,fun h=>by simp at h,?_⟩
    simp only [storeCells,Sem.run_bind,O7,hr1,Result.andThen_ok,hr2]
    have:=hw1.trans hw2
    simpa [setRow,Nat.add_assoc] using this
theorem P1 {P:Program} {ops:Array Oper} {i:Nat} {Q:F0} {n:Fr} {E:Env} {W0:World} {H H':List Grp} {o:Oper} {ch:List (Nat × Bool)} {t:TypeId} {x y:Operand}
  {b off:Nat} {c c':Array Value} {e:TypeId} {fz:Nat × Nat} {v:Value} {g:Grp} {j m:Nat}
  (ho:ops[i]? = some o:=by exact rfl) (hop:o.op=.store t x y:=by exact rfl) (hx:evO E ch x=some (.pointer (some ⟨b,off,none⟩)):=by kernel_rfl) (hy:evO E ch y=some v:=by kernel_rfl)
  (hsz:T3 P t=some v.cells.size:=by kernel_rfl) (h1:(v.cells.toList.all Value.oneCell')=true:=by kernel_rfl)
  (hch:D7 ops E o.guard=some ch:=by kernel_rfl) (hd:G1 n ch o.dst=true:=by kernel_rfl) (hsure:M5 E ch=true:=by kernel_rfl)
  (hj:H[j]? = some g:=by exact rfl) (hi:g[m]? = some (b,.cells c e fz):=by exact rfl) (hoff:off+v.cells.size≤c.size) (hfz:∀ k,k<v.cells.size→thawed fz (off+k)=true)
  (hc':setRow c off v.cells.toList=c') (hH':H.set j (g.set m (b,.cells c' e fz))=H':=by exact rfl)
  (k:GL false P ops (i+1) Q n (Env.put E o.dst ch undef) W0 H'):GL false P ops i Q n E W0 H:=by
 refine GL_eff (R:=fun v H1=>v=undef∧H1=H') ho hch hd hsure (fun r hr w hs=>?_) (by rintro v H1 ⟨rfl,rfl⟩; exact k)
 have hblk:=hs.has _ (List.mem_flatten.2 ⟨g,List.mem_of_getElem? hj,List.mem_of_getElem? hi⟩)
 obtain ⟨w',hr',_,hw'⟩:=Y3 (P:=P) v.cells.toList (w:=w) (off:=off) (i:=0) hblk (by simpa using hoff) (by simpa using hfz) h1
 refine ⟨undef,w',H',⟨rfl,rfl⟩,?_,.inr ⟨?_,rfl⟩⟩
 have:=hs.wr hj hi (o':=.cells c' e fz) (by rw [← hc']; simpa using hw')
 rw [hH'] at this; exact this
 unfold execOp
 simp only [hop]
 rw [hr _ _ hx,hr _ _ hy]
 simp only [Instr.storeAt,Instr.sureAddr,storeVar,Sem.run_bind,Sem.run_pure,Result.andThen_ok,L4 hsz,ne_eq,not_true_eq_false,if_false,hr']
theorem thaw0 {x:Nat}:thawed (0,0) x=true:=by simp [thawed]
theorem GL_new {P:Program} {ops:Array Oper} {i:Nat} {Q:F0} {n:Fr} {E:Env} {W0:World} {H:List Grp} {o:Oper} {ch:List (Nat × Bool)} {ob:Obj} {f:Nat→Value}
  (ho:ops[i]? = some o) (hch:D7 ops E o.guard=some ch) (hd:G1 n ch o.dst=true) (hsure:M5 E ch=true)
  (hrun:∀ (r:Operand→Value),(∀ x v,evO E ch x=some v→r x=v)→∀ w,(execOp r o).run P w=.ok (.value (f w.heap.size)) (w.alloc ob))
  (k:∀ b,GL false P ops (i+1) Q n (Env.put E o.dst ch (f b)) W0 ([(b,ob)]::H)):GL false P ops i Q n E W0 H:=by
 refine GL_eff (R:=fun v H1=>∃ b,v=f b∧H1=[(b,ob)]::H) ho hch hd hsure (fun r hr w hs=>?_) (by rintro v H1 ⟨b,rfl,rfl⟩; exact k b)
 exact ⟨f w.heap.size,w.alloc ob,_,⟨_,rfl,rfl⟩,hs.new rfl rfl rfl rfl,.inl (hrun r hr w)⟩
theorem GL_alloc {P:Program} {ops:Array Oper} {i:Nat} {Q:F0} {n:Fr} {E:Env} {W0:World} {H:List Grp} {o:Oper} {ch:List (Nat × Bool)} {t:TypeId} {z:Value}
  (ho:ops[i]? = some o) (hop:o.op=.alloc t) (hz:zeroV P t=some z) (hch:D7 ops E o.guard=some ch) (hd:G1 n ch o.dst=true) (hsure:M5 E ch=true)
  (k:∀ b,GL false P ops (i+1) Q n (Env.put E o.dst ch (.pointer (some ⟨b,0,none⟩))) W0 ([(b,.cells z.cells t)]::H)):GL false P ops i Q n E W0 H :=
 GL_new (f:=fun b=>.pointer (some ⟨b,0,none⟩)) ho hch hd hsure (fun r hr w=>by
  unfold execOp; simp only [hop,Instr.alloc,Sem.run_bind,W2 hz,Result.andThen_ok]; rfl) k
theorem GL_box {P:Program} {ops:Array Oper} {i:Nat} {Q:F0} {n:Fr} {E:Env} {W0:World} {H:List Grp} {o:Oper} {ch:List (Nat × Bool)} {t:TypeId} {x:Operand} {v:Value}
  (ho:ops[i]? = some o) (hop:o.op=.box t x) (hx:evO E ch x=some v) (hch:D7 ops E o.guard=some ch) (hd:G1 n ch o.dst=true) (hsure:M5 E ch=true)
  (k:∀ b,GL false P ops (i+1) Q n (Env.put E o.dst ch (.pointer (some ⟨b,0,none⟩))) W0 ([(b,.cells v.cells t)]::H)):GL false P ops i Q n E W0 H :=
 GL_new (f:=fun b=>.pointer (some ⟨b,0,none⟩)) ho hch hd hsure (fun r hr w=>by
  unfold execOp; simp only [hop]; rw [hr _ _ hx]; rfl) k
theorem GL_makeMap {P:Program} {ops:Array Oper} {i:Nat} {Q:F0} {n:Fr} {E:Env} {W0:World} {H:List Grp} {o:Oper} {ch:List (Nat × Bool)} {t:TypeId}
  (ho:ops[i]? = some o) (hop:o.op=.makeMap t none) (hch:D7 ops E o.guard=some ch) (hd:G1 n ch o.dst=true) (hsure:M5 E ch=true)
  (k:∀ b,GL false P ops (i+1) Q n (Env.put E o.dst ch (.map (some b))) W0 ([(b,.map #[] 0)]::H)):GL false P ops i Q n E W0 H :=
 GL_new (f:=fun b=>.map (some b)) ho hch hd hsure (fun r hr w=>by
  unfold execOp; simp only [hop]; rfl) k
def buildSliceV (P:Program) (t:TypeId) (len:Nat) (parts:List (Nat × Value)):Option (Array Value × TypeId) :=
  match P.underlying t with
  | some (.slice e) =>
    (match T3 P e,zeroV P e with
     | some n,some z=>if len * n > 2 ^ 24 then none else
        (match Instr.fill (fun i=>some (i * n,n)) ((Array.range (len * n)).map (z.cells[· % z.cells.size]!)) parts with | some c=>some (c,e) | none=>none)
     | _,_=>none)
  | _=>none
theorem GL_buildSlice {P:Program} {ops:Array Oper} {i:Nat} {Q:F0} {n:Fr} {E:Env} {W0:World} {H:List Grp} {o:Oper} {ch:List (Nat × Bool)} {t e:TypeId} {len:Nat} {parts:Array (Nat × Operand)} {l:List (Nat × Value)} {c:List Value}
  (ho:ops[i]? = some o) (hop:o.op=.buildSlice t len parts) (hx:evP (evO E ch) parts.toList=some l) (hc:buildSliceV P t len l=some (c.toArray,e))
  (hch:D7 ops E o.guard=some ch) (hd:G1 n ch o.dst=true) (hsure:M5 E ch=true)
  (k:∀ b,GL false P ops (i+1) Q n (Env.put E o.dst ch (.slice (some ⟨b,0,none⟩) len len)) W0 ([(b,.cells c.toArray e)]::H)):GL false P ops i Q n E W0 H :=
 GL_new (f:=fun b=>.slice (some ⟨b,0,none⟩) len len) ho hch hd hsure (fun r hr w=>by
  unfold execOp; simp only [hop]
  have e1:(Array.map (fun x=>(x.fst,r x.snd)) parts)=l.toArray:=by
   rw [← evP_map hr _ hx]; apply Array.ext'; rw [Array.toList_map]
  rw [e1]
  unfold buildSliceV at hc
  split at hc
  rename_i el hu
  split at hc
  rename_i sz z hsz hz
  split at hc
  simp at hc
  rename_i hbig
  split at hc
  rename_i cc hf
  simp only [Option.some.injEq,Prod.mk.injEq] at hc
  obtain ⟨h1,rfl⟩:=hc
  have hm:len * sz=0→(Array.range (len * sz)).map (fun q=>(#[]:Array Value)[q % (#[]:Array Value).size]!)=(Array.range (len * sz)).map (z.cells[· % z.cells.size]!):=by
   intro h0
   rw [h0,show Array.range 0=#[] from rfl]
   simp
  simp only [Instr.buildSlice,Sem.run_bind,run_underlying hu,Result.andThen_ok,L4 hsz,if_neg hbig]
  by_cases h0:len * sz=0
  rw [if_pos h0]
  simp only [Sem.run_bind,Sem.run_pure,Result.andThen_ok,hm h0,hf,newRow,run_newObj,h1]
  rfl
  rw [if_neg h0]
  simp only [Sem.run_bind,Sem.run_pure,W2 hz,Result.andThen_ok,hf,newRow,run_newObj,h1]
  rfl
  simp at hc
  simp at hc
  simp at hc) k
def psv (P:Program) (ops:Array Oper) (n:Fr) (ms:List Nat) (i:Nat) (E:List Sl):List Sl:=(P6 P ops n ms i E).getD []
theorem psv_some {P:Program} {ops:Array Oper} {n:Fr} {ms:List Nat} {i:Nat} {E:List Sl} (h:(P6 P ops n ms i E).isSome=true):P6 P ops n ms i E=some (psv P ops n ms i E):=by
 unfold psv
 cases hp:P6 P ops n ms i E with
 | none=>rw [hp] at h; cases h
 | some E1=>rfl
theorem A3 {d:Bool} {P:Program} {ops:Array Oper} {i j:Nat} {Q:F0} {n:Fr} {E:Env} {W0:World} {H:List Grp} (ms:List Nat)
  (h:(P6 P ops n ms i E).isSome=true:=by kernel_rfl) (hj:i+ms.length=j:=by exact rfl) (k:GL d P ops j Q n (psv P ops n ms i E) W0 H):GL d P ops i Q n E W0 H :=
 Z5 ms (psv_some h) (by rw [hj]; exact k)
def setI (E:List Sl) (t:Nat) (y:Int):List Sl:=⟨t,[],.int .i64 y⟩::E.filter fun s=>!(s.t==t)
theorem setI_sub {E:Env} {t:Nat} {x y:Int} (hw:x=y) (h:Env.find E t=some ⟨t,[],.int .i64 x⟩):∀ s,s∈setI E t y→s∈E:=by
 subst hw
 intro s hs
 rcases List.mem_cons.1 hs with rfl | hs
 exact (Env.find_mem h).1
 exact (List.mem_filter.1 hs).1
theorem GL_w {d:Bool} {P:Program} {ops:Array Oper} {i:Nat} {Q:F0} {n:Fr} {E:Env} {W0:World} {H:List Grp} (t:Nat) {x y:Int} (hw:x=y)
 (h:Env.find E t=some ⟨t,[],.int .i64 x⟩:=by kernel_rfl) (k:GL d P ops i Q n (setI E t y) W0 H):GL d P ops i Q n E W0 H:=GL_sub (setI_sub hw h) k
theorem D1 {d:Bool} {P:Program} {ops:Array Oper} {i:Nat} {Q:F0} {n:Fr} {E:Env} {W0:World} {H:List Grp} (t:Nat) (x:Int) (h1:-9223372036854775808≤x) (h2:x≤9223372036854775807)
 (h:Env.find E t=some ⟨t,[],.int .i64 (IntKind.wrap .i64 x)⟩:=by kernel_rfl) (k:GL d P ops i Q n (setI E t x) W0 H):GL d P ops i Q n E W0 H:=GL_sub (setI_sub (w64 h1 h2) h) k
theorem GL_st {P:Program} {ops:Array Oper} {i:Nat} {Q:F0} {n:Fr} {E:Env} {W0:World} {H:List Grp} {o:Oper} {ch:List (Nat × Bool)} {t:TypeId} {x y:Operand}
  {b off:Nat} {c:Array Value} {e:TypeId} {fz:Nat × Nat} {v:Value} {g:Grp} {j:Nat} (H':List Grp)
  (ho:ops[i]? = some o:=by exact rfl) (hop:o.op=.store t x y:=by exact rfl) (hx:evO E ch x=some (.pointer (some ⟨b,off,none⟩)):=by kernel_rfl) (hy:evO E ch y=some v:=by kernel_rfl)
  (hsz:T3 P t=some v.cells.size:=by kernel_rfl) (h1:(v.cells.toList.all Value.oneCell')=true)
  (hch:D7 ops E o.guard=some ch:=by kernel_rfl) (hd:G1 n ch o.dst=true:=by kernel_rfl) (hsure:M5 E ch=true:=by kernel_rfl)
  (hj:H[j]? = some g:=by exact rfl) (hi:g[0]? = some (b,.cells c e fz):=by exact rfl) (hoff:off+v.cells.size≤c.size) (hfz:∀ k,k<v.cells.size→thawed fz (off+k)=true)
  (hH':H.set j (g.set 0 (b,.cells (setRow c off v.cells.toList) e fz))=H':=by kernel_rfl)
  (k:GL false P ops (i+1) Q n (Env.put E o.dst ch undef) W0 H'):GL false P ops i Q n E W0 H :=
 P1 (c':=setRow c off v.cells.toList) ho hop hx hy hsz h1 hch hd hsure hj hi hoff hfz rfl hH' k
theorem G_env {P:Program} {c:Code} {Q:F0} {n:Fr} {E E':Env} {W0:World} {H:List Grp} (h:E=E') (k:G P c Q n E' W0 H):G P c Q n E W0 H:=by subst h; exact k
theorem A5 {d:Bool} {P:Program} {ops:Array Oper} {i:Nat} {Q:F0} {n:Fr} {E:Env} {W0:World} {H:List Grp} (ms ts:List Nat)
  (hl:ops.size=i+ms.length:=by exact rfl) (h:(P6 P ops n ms i E).isSome=true:=by kernel_rfl) (k:N Q .normal n (Env.keep ts (psv P ops n ms i E)) W0 H):GL d P ops i Q n E W0 H :=
 C0 ms ts hl (by rw [psv_some h]; rfl) k
theorem G_p {P:Program} {id:Nat} {ops:Array Oper} {Q:F0} {n:Fr} {E:Env} {W0:World} {H:List Grp} (ms ts:List Nat)
  (hl:ops.size=ms.length:=by exact rfl) (h:(P6 P ops n ms 0 E).isSome=true:=by kernel_rfl) (k:N Q .normal n (Env.keep ts (psv P ops n ms 0 E)) W0 H):G P (.region id ops false) Q n E W0 H :=
 C3 ms ts hl (by rw [psv_some h]; rfl) k
theorem G_pD {P:Program} {id:Nat} {ops:Array Oper} {Q:F0} {n:Fr} {E:Env} {W0:World} {H:List Grp} (ms ts:List Nat)
  (hm:P.follows .mixedOrders=true) (hB:Region.lexB .any ops=true)
  (hl:ops.size=ms.length) (h:(P6 P ops n ms 0 E).isSome=true) (k:N Q .normal n (Env.keep ts (psv P ops n ms 0 E)) W0 H):G P (.region id ops true) Q n E W0 H :=
 G_pureD ms ts hm hB hl (by rw [psv_some h]; rfl) k
theorem D9 {P:Program} {ops:Array Oper} {i:Nat} {Q:F0} {n:Fr} {E:Env} {W0:World} {H:List Grp} {o:Oper} {c:Call} {fo:Operand} {f:FuncId} {vs:List Value} {fn:Func} {R:Value→List Grp→Prop}
  (hf:P.funcs[f]? = some fn) (hc:Tri P f vs.toArray W0 H R)
  (k:∀ v H',R v H'→GL false P ops (i+1) Q n (Env.put E o.dst [] v) W0 H')
  (ho:ops[i]? = some o:=by exact rfl) (hop:o.op=.call c:=by exact rfl) (hce:c.callee=.value fo:=by exact rfl) (hfo:evO E [] fo=some (.func (.func f) #[] #[]):=by kernel_rfl) (hargs:evL (evO E []) c.args.toList=some vs:=by kernel_rfl)
  (hrt : (fn.name == "runtime.NumGoroutine") = false := by exact rfl) (hbody : fn.body.isNone = false := by exact rfl)
  (hch:D7 ops E o.guard=some []:=by kernel_rfl) (hd:G1 n [] o.dst=true:=by kernel_rfl):GL false P ops i Q n E W0 H :=
 Q3 (fst:=#[]) (caps:=#[]) ho hop hce hfo hargs hf hrt hbody hch hd (fun _ _=>rfl) (by rw [show (#[]++vs.toArray++#[]:Array Value)=vs.toArray by simp]; exact hc) k
theorem H5 {d:Bool} {P:Program} {ops:Array Oper} {i:Nat} {Q:F0} {n:Fr} {E:Env} {W0:World} {H:List Grp} {o:Oper} {c:Call} {fo:Operand} {f:FuncId} {vs:List Value} {fn:Func} {v:Value}
  (hf:P.funcs[f]? = some fn) (hc:Tri P f vs.toArray W0 H (fun u H'=>u=v∧H'=H))
  (k:GL d P ops (i+1) Q n (Env.put E o.dst [] v) W0 H)
  (ho:ops[i]? = some o:=by exact rfl) (hop:o.op=.call c:=by exact rfl) (hce:c.callee=.value fo:=by exact rfl) (hfo:evO E [] fo=some (.func (.func f) #[] #[]):=by kernel_rfl) (hargs:evL (evO E []) c.args.toList=some vs:=by kernel_rfl)
  (hrt : (fn.name == "runtime.NumGoroutine") = false := by exact rfl) (hbody : fn.body.isNone = false := by exact rfl)
  (hch:D7 ops E o.guard=some []:=by kernel_rfl) (hd:G1 n [] o.dst=true:=by kernel_rfl):GL d P ops i Q n E W0 H :=
 GL_callQ (fst:=#[]) (caps:=#[]) ho hop hce hfo hargs hf hrt hbody hch hd rfl (fun _=>by rw [show (#[]++vs.toArray++#[]:Array Value)=vs.toArray by simp]; exact hc) k
theorem C9 {P:Program} {ops:Array Oper} {i:Nat} {Q:F0} {n:Fr} {E:Env} {W0:World} {H:List Grp} {o:Oper} {t:TypeId} {x y:Operand}
  {b:Nat} {c:Array Value} {e:TypeId} {fz:Nat × Nat} {g:Grp} (j off:Nat) (v:Value) (hj:H[j]? = some ((b,.cells c e fz)::g))
  (k:GL false P ops (i+1) Q n (Env.put E o.dst [] undef) W0 (H.set j ((b,.cells (setRow c off v.cells.toList) e fz)::g)))
  (ho:ops[i]? = some o:=by exact rfl) (hop:o.op=.store t x y:=by exact rfl) (hx:evO E [] x=some (.pointer (some ⟨b,off,none⟩)):=by kernel_rfl) (hy:evO E [] y=some v:=by kernel_rfl)
  (hsz:T3 P t=some v.cells.size:=by kernel_rfl) (h1:(v.cells.toList.all Value.oneCell')=true:=by kernel_rfl)
  (hch:D7 ops E o.guard=some []:=by kernel_rfl) (hd:G1 n [] o.dst=true:=by kernel_rfl)
  (hoff:Nat.ble (off+v.cells.size) c.size=true:=by kernel_rfl) (hfz:(List.range v.cells.size).all (fun k=>thawed fz (off+k))=true:=by kernel_rfl):GL false P ops i Q n E W0 H :=
 P1 (c':=setRow c off v.cells.toList) (m:=0) (j:=j) ho hop hx hy hsz h1 hch hd rfl hj rfl (Nat.le_of_ble_eq_true hoff)
  (fun k hk=>List.all_eq_true.1 hfz k (List.mem_range.2 hk)) rfl rfl k
theorem C1 {d:Bool} {P:Program} {ops:Array Oper} {i:Nat} {Q:F0} {n:Fr} {E:Env} {W0:World} {H:List Grp} {o:Oper} {t:TypeId} {x:Operand}
  {b:Nat} {c:Array Value} {e:TypeId} {fz:Nat × Nat} {g:Grp} {v:Value} (j off:Nat) (hj:H[j]? = some ((b,.cells c e fz)::g)) (hv:c[off]? = some v)
  (k:GL d P ops (i+1) Q n (Env.put E o.dst [] v) W0 H)
  (ho:ops[i]? = some o:=by exact rfl) (hop:o.op=.load t x:=by exact rfl) (hx:evO E [] x=some (.pointer (some ⟨b,off,none⟩)):=by kernel_rfl) (ht:aggB P t=some false:=by kernel_rfl)
  (hch:D7 ops E o.guard=some []:=by kernel_rfl) (hd:G1 n [] o.dst=true:=by kernel_rfl):GL d P ops i Q n E W0 H :=
 C2 ho hop hx ht hch hd rfl (At.grp j 0 hj rfl) hv k
def setV (E:List Sl) (t:Nat) (ch:List (Nat × Bool)) (v:Value):List Sl:=⟨t,ch,v⟩::E.filter fun s=>!(s.t==t)
theorem setV_sub {E:Env} {t:Nat} {ch:List (Nat × Bool)} {x y:Value} (hw:x=y) (h:Env.find E t=some ⟨t,ch,x⟩):∀ s,s∈setV E t ch y→s∈E:=by
 subst hw
 intro s hs
 rcases List.mem_cons.1 hs with rfl | hs
 exact (Env.find_mem h).1
 exact (List.mem_filter.1 hs).1
theorem N7 {d:Bool} {P:Program} {ops:Array Oper} {i:Nat} {Q:F0} {n:Fr} {E:Env} {W0:World} {H:List Grp} (t:Nat) (ch:List (Nat × Bool)) {x y:Value} (hw:x=y)
 (k:GL d P ops i Q n (setV E t ch y) W0 H) (h:Env.find E t=some ⟨t,ch,x⟩:=by kernel_rfl):GL d P ops i Q n E W0 H:=GL_sub (setV_sub hw h) k
theorem E3 {d:Bool} {P:Program} {ops:Array Oper} {i:Nat} {Q:F0} {n:Fr} {E:Env} {W0:World} {H:List Grp} (t:Nat) {x y:Value} (hw:x=y)
 (k:GL d P ops i Q n (setV E t [] y) W0 H) (h:Env.find E t=some ⟨t,[],x⟩:=by kernel_rfl):GL d P ops i Q n E W0 H:=N7 t [] hw k h
theorem M8 {d:Bool} {P:Program} {ops:Array Oper} {i:Nat} {Q:F0} {n:Fr} {E:Env} {W0:World} {H:List Grp} {o:Oper} {t:TypeId} {x:Operand}
  {b:Nat} {c:Array Value} {e:TypeId} {fz:Nat × Nat} {g:Grp} (j off m:Nat) (hj:H[j]? = some ((b,.cells c e fz)::g))
  (k:GL d P ops (i+1) Q n (Env.put E o.dst [] (.agg ((c.toList.drop off).take m).toArray)) W0 H)
  (ho:ops[i]? = some o:=by exact rfl) (hop:o.op=.load t x:=by exact rfl) (hx:evO E [] x=some (.pointer (some ⟨b,off,none⟩)):=by kernel_rfl) (ht:aggB P t=some true:=by kernel_rfl) (hz:T3 P t=some m:=by kernel_rfl)
  (hch:D7 ops E o.guard=some []:=by kernel_rfl) (hd:G1 n [] o.dst=true:=by kernel_rfl) (hl:Nat.ble (off+m) c.size=true:=by kernel_rfl):GL d P ops i Q n E W0 H:=by
 have hm:((c.toList.drop off).take m).length=m:=by
  have:=Nat.le_of_ble_eq_true hl
  rw [List.length_take,List.length_drop,Array.length_toList]; omega
 exact Q1 (l:=(c.toList.drop off).take m) ho hop hx ht (by rw [hm]; exact hz) hch hd rfl (At.grp j 0 hj rfl) (by rw [hm]) k
theorem X2 {P:Program} {ops:Array Oper} {i:Nat} {Q:F0} {n:Fr} {E:Env} {W0:World} {H:List Grp} {o:Oper} {t:TypeId} {x y:Operand}
  {b:Nat} {c:Array Value} {e:TypeId} {fz:Nat × Nat} {g:Grp} (j off:Nat) (v:Value) (c':Array Value) (hj:H[j]? = some ((b,.cells c e fz)::g))
  (k:GL false P ops (i+1) Q n (Env.put E o.dst [] undef) W0 (H.set j ((b,.cells c' e fz)::g)))
  (ho:ops[i]? = some o:=by exact rfl) (hop:o.op=.store t x y:=by exact rfl) (hx:evO E [] x=some (.pointer (some ⟨b,off,none⟩)):=by kernel_rfl) (hy:evO E [] y=some v:=by kernel_rfl)
  (hsz:T3 P t=some v.cells.size:=by kernel_rfl) (h1:(v.cells.toList.all Value.oneCell')=true:=by kernel_rfl)
  (hch:D7 ops E o.guard=some []:=by kernel_rfl) (hd:G1 n [] o.dst=true:=by kernel_rfl)
  (hoff:Nat.ble (off+v.cells.size) c.size=true:=by kernel_rfl) (hfz:(List.range v.cells.size).all (fun k=>thawed fz (off+k))=true:=by kernel_rfl)
  (hc':setRow c off v.cells.toList=c':=by kernel_rfl):GL false P ops i Q n E W0 H :=
 P1 (c':=c') (m:=0) (j:=j) ho hop hx hy hsz h1 hch hd rfl hj rfl (Nat.le_of_ble_eq_true hoff)
  (fun k hk=>List.all_eq_true.1 hfz k (List.mem_range.2 hk)) hc' rfl k
theorem J0 {P:Program} {ops:Array Oper} {i:Nat} {Q:F0} {n:Fr} {E:Env} {W0:World} {H:List Grp} {o:Oper} {t:TypeId} (z:Value)
  (k:∀ b,GL false P ops (i+1) Q n (Env.put E o.dst [] (.pointer (some ⟨b,0,none⟩))) W0 ([(b,.cells z.cells t)]::H))
  (ho:ops[i]? = some o:=by exact rfl) (hop:o.op=.alloc t:=by exact rfl) (hz:zeroV P t=some z:=by kernel_rfl) (hch:D7 ops E o.guard=some []:=by kernel_rfl) (hd:G1 n [] o.dst=true:=by kernel_rfl):GL false P ops i Q n E W0 H :=
 GL_alloc ho hop hz hch hd rfl k
theorem V3 {P:Program} {ops:Array Oper} {i:Nat} {Q:F0} {n:Fr} {E:Env} {W0:World} {H:List Grp} {o:Oper} {t:TypeId} {x:Operand} (v:Value)
  (k:∀ b,GL false P ops (i+1) Q n (Env.put E o.dst [] (.pointer (some ⟨b,0,none⟩))) W0 ([(b,.cells v.cells t)]::H))
  (ho:ops[i]? = some o:=by exact rfl) (hop:o.op=.box t x:=by exact rfl) (hx:evO E [] x=some v:=by kernel_rfl) (hch:D7 ops E o.guard=some []:=by kernel_rfl) (hd:G1 n [] o.dst=true:=by kernel_rfl):GL false P ops i Q n E W0 H :=
 GL_box ho hop hx hch hd rfl k
theorem P9 {d:Bool} {P:Program} {ops:Array Oper} {i:Nat} {Q:F0} {n:Fr} {E:Env} {W0:World} {H:List Grp} {o:Oper} {c:Call} {fo:Operand} {f:FuncId} {vs:List Value} {fn:Func} {v:Value} (ch:List (Nat × Bool))
  (hf:P.funcs[f]? = some fn) (hc:chB E ch→Tri P f vs.toArray W0 H (fun u H'=>u=v∧H'=H))
  (k:GL d P ops (i+1) Q n (Env.put E o.dst ch v) W0 H)
  (ho:ops[i]? = some o:=by exact rfl) (hop:o.op=.call c:=by exact rfl) (hce:c.callee=.value fo:=by exact rfl) (hfo:evO E ch fo=some (.func (.func f) #[] #[]):=by kernel_rfl) (hargs:evL (evO E ch) c.args.toList=some vs:=by kernel_rfl)
  (hrt : (fn.name == "runtime.NumGoroutine") = false := by exact rfl) (hbody : fn.body.isNone = false := by exact rfl)
  (hch:D7 ops E o.guard=some ch:=by kernel_rfl) (hd:G1 n ch o.dst=true:=by kernel_rfl) (hk:K5 E ch=true:=by kernel_rfl):GL d P ops i Q n E W0 H :=
 GL_callQ (fst:=#[]) (caps:=#[]) ho hop hce hfo hargs hf hrt hbody hch hd hk (fun h=>by rw [show (#[]++vs.toArray++#[]:Array Value)=vs.toArray by simp]; exact hc h) k
def intW:Value→Option Int | .int _ j=>some j | _=>none
theorem intW_ex {x:Option Value} {j:Int} (h:x.bind intW=some j):∃ kd,x=some (.int kd j):=by
  cases x with
  | none=>cases h
  | some v =>
    cases v <;> first | (cases h; done) | skip
    rename_i kd a
    simp only [Option.bind_some,intW,Option.some.injEq] at h
    subst h
    exact ⟨kd,rfl⟩
theorem G3 {d:Bool} {P:Program} {ops:Array Oper} {i:Nat} {Q:F0} {n:Fr} {E:Env} {W0:World} {H:List Grp} {o:Oper} {t:TypeId} {x ix:Operand} (s:ByteArray) (j:Int)
  (hb:chB E []→0≤j∧j<s.size)
  (k:GL d P ops (i+1) Q n (Env.put E o.dst [] (.int .u8 (B2 s j))) W0 H)
  (ho:ops[i]? = some o:=by exact rfl) (hop:o.op=.index t x ix:=by exact rfl) (hx:evO E [] x=some (.string s):=by kernel_rfl) (hix:(evO E [] ix).bind intW=some j:=by kernel_rfl) (hu:P.underlying t=some .string:=by kernel_rfl)
  (hch:D7 ops E o.guard=some []:=by kernel_rfl) (hd:G1 n [] o.dst=true:=by kernel_rfl):GL d P ops i Q n E W0 H :=
 let ⟨_,h⟩:=intW_ex hix
 P5 ho hop hx h hu hch hd rfl hb k
theorem bind_ex {α β:Type} {x:Option α} {f:α→Option β} {y:β} (h:x.bind f=some y):∃ a,x=some a∧f a=some y:=by
 cases x with
 | none=>cases h
 | some a=>exact ⟨a,rfl,h⟩
theorem M6 {d:Bool} {P:Program} {ops:Array Oper} {i:Nat} {Q:F0} {n:Fr} {E:Env} {W0:World} {H:List Grp} {o:Oper} {t:TypeId} {x:Operand} {lo hi:Option Operand} (s:ByteArray) (l h:Int)
  (hb:chB E []→0≤l∧l≤h∧h≤s.size)
  (k:GL d P ops (i+1) Q n (Env.put E o.dst [] (.string (s.extract l.toNat h.toNat))) W0 H)
  (ho:ops[i]? = some o:=by exact rfl) (hop:o.op=.slice t x lo hi none:=by exact rfl) (hx:evO E [] x=some (.string s):=by kernel_rfl) (hl:(evOO (evO E []) lo).bind loV=some l:=by kernel_rfl) (hh:(evOO (evO E []) hi).bind (hiV s.size)=some h:=by kernel_rfl) (hu:P.underlying t=some .string:=by kernel_rfl)
  (hch:D7 ops E o.guard=some []:=by kernel_rfl) (hd:G1 n [] o.dst=true:=by kernel_rfl):GL d P ops i Q n E W0 H :=
 let ⟨_,h1,h2⟩:=bind_ex hl
 let ⟨_,h3,h4⟩:=bind_ex hh
 X3 ho hop hx h1 h3 hu h2 h4 hch hd rfl hb k
theorem GL_ccq {d:Bool} {P:Program} {ops:Array Oper} {i:Nat} {Q:F0} {n:Fr} {E:Env} {W0:World} {H:List Grp} {o:Oper} {t t2:TypeId} {x y:Operand} (s u:ByteArray)
  (hb:chB E []→s.size+u.size≤9223372036854775807)
  (k:GL d P ops (i+1) Q n (Env.put E o.dst [] (.string (s++u))) W0 H)
  (ho:ops[i]? = some o:=by exact rfl) (hop:o.op=.binOp .add t x y t2:=by exact rfl) (hx:evO E [] x=some (.string s):=by kernel_rfl) (hy:evO E [] y=some (.string u):=by kernel_rfl)
  (hch:D7 ops E o.guard=some []:=by kernel_rfl) (hd:G1 n [] o.dst=true:=by kernel_rfl):GL d P ops i Q n E W0 H :=
 GL_concat ho hop hx hy hch hd rfl hb k
end Go.Sw
namespace Go.Sw
open Go.RowKit
def Rd (S:Nat→Obj→Prop) (a:Option Addr) (cs:List Value):Prop :=
 cs=[]∨∃ b off c e fz,a=some ⟨b,off,none⟩∧S b (.cells c e fz)∧∀ (j:Nat) (u:Value),cs[j]? = some u→c[off+j]? = some u
def inG (g:Grp):Nat→Obj→Prop:=fun b o=>(b,o)∈g
def inB (W0:World):Nat→Obj→Prop:=fun b o=>b<W0.heap.size∧W0.heap[b]? = some o
theorem E0 {W0:World} {H:List Grp} {g:Grp} (j:Nat) (hj:H[j]? = some g):∀ b o,inG g b o→At W0 H b o:=fun _ _ h=>At.mem (List.mem_of_getElem? hj) h
theorem at_inB {W0:World} {H:List Grp}:∀ b o,inB W0 b o→At W0 H b o:=fun _ _ h=>.inl h
theorem Rd.mono {S S':Nat→Obj→Prop} {a:Option Addr} {cs:List Value} (h:Rd S a cs) (hs:∀ b o,S b o→S' b o):Rd S' a cs:=by
 rcases h with h | ⟨b,off,c,e,fz,h1,h2,h3⟩
 exact .inl h
 exact .inr ⟨b,off,c,e,fz,h1,hs _ _ h2,h3⟩
theorem Rd.lit {b:Nat} {c:List Value} {e:TypeId} {fz:Nat × Nat}:Rd (inG [(b,.cells c.toArray e fz)]) (some ⟨b,0,none⟩) c :=
 .inr ⟨b,0,_,_,_,rfl,List.mem_singleton.2 rfl,fun j u h=>by rw [Nat.zero_add]; simpa using h⟩
def strs (ws:List ByteArray):List Value:=ws.map Value.string
def eltA (a:Option Addr) (k:Nat):Addr:=(a.getD default).add k
theorem Rd.elt {S:Nat→Obj→Prop} {a:Option Addr} {cs:List Value} (h:Rd S a cs) {k:Nat} {v:Value} (hv:cs[k]? = some v) :
  ∃ b off c e fz,a=some ⟨b,off,none⟩∧S b (.cells c e fz)∧eltA a k=⟨b,off+k,none⟩∧c[off+k]? = some v:=by
 rcases h with h | ⟨b,off,c,e,fz,h1,h2,h3⟩
 subst h; simp at hv
 exact ⟨b,off,c,e,fz,h1,h2,by rw [h1]; exact O7 b off k,h3 k v hv⟩
theorem J9 {d:Bool} {P:Program} {ops:Array Oper} {i:Nat} {Q:F0} {n:Fr} {E:Env} {W0:World} {H:List Grp} {o:Oper} {ch:List (Nat × Bool)} {t e:TypeId} {x ix:Operand} {a:Option Addr} {len cap sz:Nat} {kd:IntKind} {j:Int} {S:Nat→Obj→Prop} {cs:List Value}
  (ho:ops[i]? = some o:=by exact rfl) (hop:o.op=.indexAddr t x ix:=by exact rfl) (hx:evO E ch x=some (.slice a len cap):=by kernel_rfl) (hix:evO E ch ix=some (.int kd j):=by kernel_rfl) (hu:P.underlying t=some (.slice e):=by kernel_rfl) (hsz:T3 P e=some sz:=by kernel_rfl)
  (hch:D7 ops E o.guard=some ch:=by kernel_rfl) (hd:G1 n ch o.dst=true:=by kernel_rfl) (hk:K5 E ch=true:=by kernel_rfl)
  (hrd:Rd S a cs) (hb:chB E ch→0≤j∧j<len∧cs≠[])
  (k:GL d P ops (i+1) Q n (Env.put E o.dst ch (.pointer (some (eltA a (j.toNat * sz))))) W0 H):GL d P ops i Q n E W0 H:=by
 refine J1 ho hch hd hk (fun r hr hcb w _=>?_) k
 obtain ⟨h0,h1,h2⟩:=hb hcb
 have ha:∃ b,a=some b:=by
  rcases hrd with h | ⟨b,off,_,_,_,h,_⟩
  exact absurd h h2
  exact ⟨_,h⟩
 obtain ⟨b,rfl⟩:=ha
 unfold execOp
 simp only [hop]
 rw [hr _ _ hx,hr _ _ hix]
 simp only [Instr.indexAt,asIntOf,Sem.run_bind,Sem.run_pure,Result.andThen_ok,run_underlying hu,Bool.and_false,if_pos (⟨h0,h1⟩:0≤j∧j<(len:Int)),L4 hsz]
 exact ⟨rfl,rfl⟩
theorem GL_loadS {d:Bool} {P:Program} {ops:Array Oper} {i:Nat} {Q:F0} {n:Fr} {E:Env} {W0:World} {H:List Grp} {o:Oper} {ch:List (Nat × Bool)} {t:TypeId} {x:Operand} {a:Option Addr} {q:Nat} {S:Nat→Obj→Prop} {cs:List Value} {v:Value}
  (ho:ops[i]? = some o) (hop:o.op=.load t x) (hx:evO E ch x=some (.pointer (some (eltA a q)))) (ht:aggB P t=some false)
  (hch:D7 ops E o.guard=some ch) (hd:G1 n ch o.dst=true) (hk:K5 E ch=true)
  (hrd:Rd S a cs) (hS:∀ b o,S b o→At W0 H b o) (hv:chB E ch→cs[q]? = some v)
  (k:GL d P ops (i+1) Q n (Env.put E o.dst ch v) W0 H):GL d P ops i Q n E W0 H:=by
 refine J1 ho hch hd hk (fun r hr hcb w hs=>?_) k
 obtain ⟨b,off,c,e,fz,h1,h2,h3,h4⟩:=hrd.elt (hv hcb)
 unfold execOp
 simp only [hop]
 rw [hr _ _ hx,h3]
 simp only [Instr.loadAt,Instr.sureAddr,loadVar,Sem.run_bind,Sem.run_pure,Result.andThen_ok,Q6 ht,Bool.false_eq_true,if_false,run_load,T5 (hs.at (hS _ _ h2)) h4]
 exact ⟨rfl,rfl⟩
theorem J8 {d:Bool} {P:Program} {ops:Array Oper} {i:Nat} {Q:F0} {n:Fr} {E:Env} {W0:World} {H:List Grp} {o:Oper} {ch:List (Nat × Bool)} {t:TypeId} {x:Operand} {a:Option Addr} {q:Nat} {S:Nat→Obj→Prop} {cs l:List Value}
  (ho:ops[i]? = some o:=by exact rfl) (hop:o.op=.load t x:=by exact rfl) (hx:evO E ch x=some (.pointer (some (eltA a q))):=by kernel_rfl) (ht:aggB P t=some true:=by kernel_rfl) (hsz:T3 P t=some l.length:=by kernel_rfl)
  (hch:D7 ops E o.guard=some ch:=by kernel_rfl) (hd:G1 n ch o.dst=true:=by kernel_rfl) (hk:K5 E ch=true:=by kernel_rfl)
  (hrd:Rd S a cs) (hS:∀ b o,S b o→At W0 H b o) (hl:l≠[]) (hv:chB E ch→∀ m (hm:m<l.length),cs[q+m]? = some l[m])
  (k:GL d P ops (i+1) Q n (Env.put E o.dst ch (.agg l.toArray)) W0 H):GL d P ops i Q n E W0 H:=by
 refine J1 ho hch hd hk (fun r hr hcb w hs=>?_) k
 have hv':=hv hcb
 have hpos:0<l.length:=by cases l with | nil=>exact absurd rfl hl | cons _ _=>simp
 obtain ⟨b,off,c,e,fz,h1,h2,h3,h4⟩:=hrd.elt (k:=q) (v:=l[0]) (by have:=hv' 0 hpos; simpa using this)
 rcases hrd with hn | ⟨b',off',c',e',fz',h1',h2',h3'⟩
 have:=hv' 0 hpos; rw [hn] at this; simp at this
 rw [h1'] at h1
 injection h1 with h1
 injection h1 with hb ho'
 subst hb; subst ho'
 unfold execOp
 simp only [hop]
 rw [hr _ _ hx,h3]
 simp only [Instr.loadAt,Instr.sureAddr,loadVar,Sem.run_bind,Sem.run_pure,Result.andThen_ok,Q6 ht,if_true,L4 hsz,loadCells,
  V5 (P:=P) (off:=off'+q) (hs.at (hS _ _ h2')) l 0 #[] (fun m hm=>by
   have:=h3' _ _ (hv' m hm)
   rw [Nat.add_zero,Nat.add_assoc]; exact this)]
 exact ⟨rfl,by simp⟩
def cutA (a:Option Addr) (cap l sz:Nat):Option Addr:=if cap=l then a else a.map (·.add (l * sz))
theorem Rd.cut {S:Nat→Obj→Prop} {a:Option Addr} {cs:List Value} (h:Rd S a cs) {cap l sz m:Nat} (hl:cap=l→m=0):Rd S (cutA a cap l sz) ((cs.drop (l * sz)).take m):=by
 rcases h with h | ⟨b,off,c,e,fz,h1,h2,h3⟩
 exact .inl (by simp [h])
 by_cases hc:cap=l
 exact .inl (by rw [hl hc]; simp)
 refine .inr ⟨b,off+l * sz,c,e,fz,?_,h2,?_⟩
 rw [cutA,if_neg hc,h1]; simp [O7]
 intro j u hj
 rw [List.getElem?_take] at hj
 split at hj
 rw [List.getElem?_drop] at hj
 rw [Nat.add_assoc]; exact h3 _ _ hj
 simp at hj
theorem GL_sliceL {d:Bool} {P:Program} {ops:Array Oper} {i:Nat} {Q:F0} {n:Fr} {E:Env} {W0:World} {H:List Grp} {o:Oper} {ch:List (Nat × Bool)} {t e:TypeId} {x:Operand} {lo hi:Option Operand} {a:Option Addr} {len cap sz:Nat} {vl vh:Option Value} {l h:Int}
    (ho:ops[i]? = some o:=by exact rfl) (hop:o.op=.slice t x lo hi none:=by exact rfl) (hx:evO E ch x=some (.slice a len cap):=by kernel_rfl) (hvl:evOO (evO E ch) lo=some vl:=by kernel_rfl) (hvh:evOO (evO E ch) hi=some vh:=by kernel_rfl) (hu:P.underlying t=some (.slice e):=by kernel_rfl) (hsz:T3 P e=some sz:=by kernel_rfl)
    (hl:loV vl=some l:=by kernel_rfl) (hh:hiV len vh=some h:=by kernel_rfl)
    (hch:D7 ops E o.guard=some ch:=by kernel_rfl) (hd:G1 n ch o.dst=true:=by kernel_rfl) (hk:K5 E ch=true:=by kernel_rfl)
    (hb:chB E ch→0≤l∧l≤h∧h≤cap)
    (k:GL d P ops (i+1) Q n (Env.put E o.dst ch (.slice (cutA a cap l.toNat sz) (h.toNat - l.toNat) (cap - l.toNat))) W0 H):GL d P ops i Q n E W0 H:=by
  refine J1 ho hch hd hk (fun r hr hcb w _=>?_) k
  obtain ⟨h0,h1,h2⟩:=hb hcb
  have hm:∀ {y:Option Operand} {v:Option Value},evOO (evO E ch) y=some v→y.map r=v:=by
    intro y v hv
    cases y with
    | none=>simp only [evOO,Option.some.injEq] at hv; subst hv; rfl
    | some y =>
      simp only [evOO] at hv
      split at hv
      rename_i u hu; injection hv with hv; subst hv; simp [hr _ _ hu]
      simp at hv
  unfold execOp
  simp only [hop]
  rw [hr _ _ hx,hm hvl,hm hvh]
  simp only [Instr.sliceAt,Instr.slice,Sem.run_bind,run_underlying hu,Result.andThen_ok,Option.map_none,
    run_sliceBounds (P:=P) (isSlice:=true) hl hh h0 h1 h2,L4 hsz,Sem.run_pure]
  exact ⟨rfl,rfl⟩
def Own (et:TypeId) (sz:Nat) (v:Value) (g:Grp) (n:Nat) (cs:List Value):Prop :=
 cs.length=n * sz∧((v=.slice none 0 0∧g=[]∧n=0)∨∃ b cap junk,v=.slice (some ⟨b,0,none⟩) n cap∧g=[(b,.cells (cs++junk).toArray et (0,0))]∧n≤cap∧(cs++junk).length=cap * sz)
theorem Own.nil {et:TypeId} {sz:Nat}:Own et sz (.slice none 0 0) [] 0 []:=⟨by simp,.inl ⟨rfl,rfl,rfl⟩⟩
theorem Own.lit {et:TypeId} {sz b n:Nat} {cs:List Value} (h:cs.length=n * sz):Own et sz (.slice (some ⟨b,0,none⟩) n n) [(b,.cells cs.toArray et (0,0))] n cs :=
 ⟨h,.inr ⟨b,n,[],rfl,by simp,Nat.le_refl _,by simpa using h⟩⟩
theorem Own.shape {et:TypeId} {sz:Nat} {v:Value} {g:Grp} {n:Nat} {cs:List Value} (h:Own et sz v g n cs):∃ a cap,v=.slice a n cap∧n≤cap∧Rd (inG g) a cs:=by
 obtain ⟨hl,⟨rfl,rfl,rfl⟩ | ⟨b,cap,junk,rfl,rfl,hc,hj⟩⟩:=h
 exact ⟨none,0,rfl,Nat.le_refl _,.inl (by cases cs with | nil=>rfl | cons _ _=>simp at hl)⟩
 refine ⟨_,_,rfl,hc,.inr ⟨b,0,_,_,_,rfl,List.mem_singleton.2 rfl,fun j u hu=>?_⟩⟩
 have:j<cs.length:=by
  rcases Nat.lt_or_ge j cs.length with h | h
  exact h
  rw [List.getElem?_eq_none h] at hu; simp at hu
 rw [List.getElem?_toArray,Nat.zero_add,List.getElem?_append_left this]
 exact hu
inductive SrcOf (S:Nat→Obj→Prop):Value→Nat→List Value→Prop
 | slice (a:Option Addr) (m cap:Nat) (cs:List Value) (h:Rd S a cs) (h0:a=none→m=0):SrcOf S (.slice a m cap) m cs
 | str (s:ByteArray):SrcOf S (.string s) s.size (byteCells s)
theorem Y7:∀ (l:List Value) (pre post:List Value) (old:List Value),old.length=l.length→setRow (pre++old++post).toArray pre.length l=(pre++l++post).toArray
  | [],pre,post,old,h=>by
    have:old=[]:=by cases old with | nil=>rfl | cons _ _=>simp at h
    subst this; simp [setRow]
  | v::l,pre,post,old,h=>by
    cases old with
    | nil=>simp at h
    | cons x old =>
      simp only [setRow]
      have e1:((pre++x::old++post).toArray.setIfInBounds pre.length v)=((pre++[v])++old++post).toArray:=by
        simp
      rw [e1]
      have:=Y7 l (pre++[v]) post old (by simpa using h)
      simp only [List.length_append,List.length_cons,List.length_nil,Nat.zero_add] at this
      rw [this]
      simp
theorem srcOf_run {P:Program} {S:Nat→Obj→Prop} {x:Value} {m sz:Nat} {cs:List Value} {tx:TypeId} (h:SrcOf S x m cs) (hk:(∃ e',P.underlying tx=some (.slice e'))∨(P.underlying tx=some .string∧sz=1))
    (hks:(∃ s,x=.string s)→sz=1∧P.underlying tx=some .string) (hkl:(∃ a n c,x=.slice a n c)→∃ e',P.underlying tx=some (.slice e')) (hl:cs.length=m * sz) (h1:∀ u∈cs,u.oneCell'=true) {w:World} (hS:∀ b o,S b o→w.heap[b]? = some o):Src P sz tx x m cs w:=by
  cases h with
  | slice a m cap cs hrd h0 =>
    obtain ⟨e',he⟩:=hkl ⟨_,_,_,rfl⟩
    rcases hrd with hn | ⟨b,off,c,e,fz,h2,h3,h4⟩
    subst hn
    cases a with
    | none =>
      have:=h0 rfl; subst this
      exact Src.ofNil w he cap
    | some a=>exact Src.ofSlice w he a m cap [] hl (fun j u hu=>by simp at hu) (fun u hu=>by simp at hu)
    subst h2
    refine Src.ofSlice w he _ m cap cs hl (fun j u hu=>?_) h1
    rw [O7]
    exact T5 (hS _ _ h3) (h4 j u hu)
  | str s =>
    obtain ⟨rfl,hs⟩:=hks ⟨s,rfl⟩
    exact Src.ofString w hs s
theorem set_perm:∀ {H:List Grp} {j:Nat} {g:Grp} (g':Grp),H[j]? = some g→(H.set j g').Perm (g'::H.eraseIdx j)
  | [],j,g,g',h=>by simp at h
  | x::H,0,g,g',h=>by simp
  | x::H,j+1,g,g',h=>by
    simp only [List.set_cons_succ,List.eraseIdx_cons_succ]
    exact (List.Perm.cons x (set_perm g' (by simpa using h))).trans (List.Perm.swap _ _ _)
theorem sublist_flatten {α:Type} {A B:List (List α)} (h:A.Sublist B):A.flatten.Sublist B.flatten:=by
 induction h with
 | slnil=>exact List.Sublist.refl _
 | cons a _ ih=>simp only [List.flatten_cons]; exact ih.trans (List.sublist_append_right _ _)
 | cons_cons a _ ih=>simp only [List.flatten_cons]; exact List.Sublist.append (List.Sublist.refl _) ih
theorem Sat.replace {W0:World} {H:List Grp} {g g':Grp} {j:Nat} {w:World} (h:Sat W0 (g'::H) w) (hj:H[j]? = some g):Sat W0 (H.set j g') w:=by
 refine Sat.perm ?_ (set_perm g' hj).symm
 refine h.subl ?_
 simp only [List.flatten_cons]
 exact List.Sublist.append (List.Sublist.refl _) (sublist_flatten (List.eraseIdx_sublist _ _))
theorem At.cons {W0:World} {H:List Grp} {g:Grp} {b:Nat} {o:Obj} (h:At W0 H b o):At W0 (g::H) b o:=by
 rcases h with h | h
 exact .inl h
 exact .inr (by simp only [List.flatten_cons,List.mem_append]; exact .inr h)
theorem Sat.erase {W0:World} {H:List Grp} {w:World} (h:Sat W0 H w) (j:Nat):Sat W0 (H.eraseIdx j) w:=h.subl (sublist_flatten (List.eraseIdx_sublist _ _))
theorem erase_perm:∀ {H:List Grp} {j:Nat} {g:Grp},H[j]? = some g→H.Perm (g::H.eraseIdx j)
  | [],j,g,h=>by simp at h
  | x::H,0,g,h=>by simp at h; simp [h]
  | x::H,j+1,g,h=>by
    simp only [List.eraseIdx_cons_succ]
    exact (List.Perm.cons x (erase_perm (by simpa using h))).trans (List.Perm.swap _ _ _)
def pk (m:Nat):List Nat→List Grp→List Grp
 | [],H=>H.drop m
 | j::js,H=>H.getD j []::pk m js (H.eraseIdx j)
theorem pick1 (H:List Grp) (j:Nat):H.flatten.Perm (H.getD j []::H.eraseIdx j).flatten:=by
  cases h:H[j]? with
  | none =>
    have hj:H.length≤j:=List.getElem?_eq_none_iff.1 h
    rw [List.getD_eq_getElem?_getD,h,List.eraseIdx_of_length_le hj]; exact List.Perm.refl _
  | some g=>rw [List.getD_eq_getElem?_getD,h]; exact (erase_perm h).flatten
theorem Sat.pk {W0:World} {w:World} (m:Nat) (js:List Nat):∀ {H:List Grp},Sat W0 H w→Sat W0 (pk m js H) w:=by
  have key:∀ (js:List Nat) (H:List Grp),∃ X:Grp,H.flatten.Perm (X++(Go.Sw.pk m js H).flatten):=by
    intro js
    induction js with
    | nil=>intro H; exact ⟨(H.take m).flatten,by rw [Go.Sw.pk,← List.flatten_append,List.take_append_drop]⟩
    | cons j js ih =>
      intro H
      obtain ⟨X,hX⟩:=ih (H.eraseIdx j)
      refine ⟨X,(pick1 H j).trans ?_⟩
      rw [Go.Sw.pk,List.flatten_cons,List.flatten_cons]
      refine (hX.append_left _).trans ?_
      rw [← List.append_assoc,← List.append_assoc]
      exact List.perm_append_comm.append_right _
  intro H h
  obtain ⟨X,hX⟩:=key js H
  exact Sat.tail (g:=X) (h.flat (by rw [List.flatten_cons]; exact hX))
theorem M1 {d:Bool} {P:Program} {ops:Array Oper} {i:Nat} {Q:F0} {n:Fr} {E:Env} {W0:World} {H:List Grp} (m:Nat) (js:List Nat) (k:GL d P ops i Q n E W0 (pk m js H)) (hd:d=false:=by exact rfl):GL d P ops i Q n E W0 H:=by
 subst hd; exact fun a w ha h=>k a w ha (h.pk m js)
theorem F8 {Q:F0} {x:Exit} {n:Fr} {E:Env} {W0:World} {H:List Grp} (m:Nat) (js:List Nat) (k:N Q x n E W0 (pk m js H)):N Q x n E W0 H:=fun a w ha h=>k a w ha (h.pk m js)
theorem G_pk {P:Program} {c:Code} {Q:F0} {n:Fr} {E:Env} {W0:World} {H:List Grp} (m:Nat) (js:List Nat) (k:G P c Q n E W0 (pk m js H)):G P c Q n E W0 H:=fun a w ha h=>k a w ha (h.pk m js)
theorem P2 {Q:F0} {x:Exit} {n:Fr} {E:Env} {W0:World} {H:List Grp} (m:Nat) (js:List Nat) (H':List Grp) (k:N Q x n E W0 H') (h:pk m js H=H':=by kernel_rfl):N Q x n E W0 H:=F8 m js (by rw [h]; exact k)
theorem G_pkT {P:Program} {c:Code} {Q:F0} {n:Fr} {E:Env} {W0:World} {H:List Grp} (m:Nat) (js:List Nat) (H':List Grp) (k:G P c Q n E W0 H') (h:pk m js H=H':=by kernel_rfl):G P c Q n E W0 H:=G_pk m js (by rw [h]; exact k)
theorem Sat.pkT {W0:World} {w:World} (m:Nat) (js:List Nat) {H H':List Grp} (h:Sat W0 H w) (he:Go.Sw.pk m js H=H':=by kernel_rfl):Sat W0 H' w:=he ▸ h.pk m js
theorem Tri_below {P:Program} {f:FuncId} {args:Array Value} {W0:World} {H:List Grp} {v:Value}
  (h:∀ w,Sat W0 H w→Calls P f args w fun e w'=>e=.returned v∧Below w.heap.size w w'):Tri P f args W0 H (fun u H'=>u=v∧H'=H) :=
 fun w hs=>(h w hs).mono fun e w' ⟨he,hb⟩=>⟨v,H,he,⟨rfl,rfl⟩,by
  have hlt:∀ p,p∈H.flatten→p.1<w.heap.size:=fun p hp=>by
   have:=hs.has p hp
   rcases Nat.lt_or_ge p.1 w.heap.size with h' | h'
   exact h'
   simp [Array.getElem?_eq_none h'] at this
  exact ⟨hs.below.trans (hb.mono hs.below.size),hs.nodup,fun p hp=>by rw [hb.block _ (hlt p hp)]; exact hs.has p hp,hs.high⟩⟩
theorem run_append_room {P:Program} {w:World} {t tx ty e:TypeId} {inf:TypeInfo} (ht:P.underlying t=some (.slice e)) (hi:P.info? e=some inf) {b sLen sCap:Nat} {x:Value} {m:Nat} {news:List Value} (hs:Src P inf.size tx x m news w)
  (hroom:sLen+m≤sCap) {w':World} (hst:(storeCells ⟨b,sLen * inf.size,none⟩ news 0).run P w=.ok () w') :
  (Builtin.append_ #[t,tx] ty #[.slice (some ⟨b,0,none⟩) sLen sCap,x]).run P w=.ok (.slice (some ⟨b,0,none⟩) (sLen+m) sCap) w':=by
 have ha:(⟨b,0,none⟩:Addr).add (sLen * inf.size)=⟨b,sLen * inf.size,none⟩:=by rw [O7,Nat.zero_add]
 rcases hs.kind with ⟨e',hk⟩ | hk <;> simp [Builtin.append_,run_underlying ht,run_underlying hk,sizeOf,typeInfo,hi,hs.len,hroom,hs.cells,ha,hst]
theorem zeroCells_len (z:Array Value) (m:Nat):(Builtin.zeroCells z m).size=m * z.size:=by simp [Builtin.zeroCells]
theorem X4 {P:Program} {ops:Array Oper} {i:Nat} {Q:F0} {q:Fr} {E:Env} {W0:World} {H:List Grp} {o:Oper} {ch:List (Nat × Bool)} {c:Call} {t tx e:TypeId} {inf:TypeInfo} {z s x:Value} {n m j:Nat} {cs news:List Value} {g:Grp} {S:Nat→Obj→Prop}
  (ho:ops[i]? = some o:=by exact rfl) (hop:o.op=.call c:=by exact rfl) (hce:c.callee=.builtin .append:=by exact rfl) (hat:c.argTypes=#[t,tx]:=by exact rfl) (hargs:evL (evO E ch) c.args.toList=some [s,x]:=by kernel_rfl)
  (ht:P.underlying t=some (.slice e):=by kernel_rfl) (hi:P.info? e=some inf:=by kernel_rfl) (hz:inf.zero=some z:=by exact rfl) (hzs:z.cells.size=inf.size:=by exact rfl)
  (hkind:(∃ e',P.underlying tx=some (.slice e'))∨(P.underlying tx=some .string∧inf.size=1))
  (hks:(∃ s,x=.string s)→inf.size=1∧P.underlying tx=some .string) (hkl:(∃ a n c,x=.slice a n c)→∃ e',P.underlying tx=some (.slice e'))
  (hch:D7 ops E o.guard=some ch:=by kernel_rfl) (hd:G1 q ch o.dst=true:=by kernel_rfl) (hsure:M5 E ch=true:=by kernel_rfl)
  (hj:H[j]? = some g:=by exact rfl) (hown:Own e inf.size s g n cs) (hsrc:SrcOf S x m news) (hS:∀ b o,S b o→At W0 H b o) (hl:news.length=m * inf.size) (h1:∀ u∈news,u.oneCell'=true)
  (hmax:n+m≤9223372036854775807) (hbytes:(n+m) * inf.bytes≤140737488355328)
  (k:∀ v g',Own e inf.size v g' (n+m) (cs++news)→GL false P ops (i+1) Q q (Env.put E o.dst ch v) W0 (H.set j g')):GL false P ops i Q q E W0 H:=by
 refine GL_eff (R:=fun v H1=>∃ g',Own e inf.size v g' (n+m) (cs++news)∧H1=H.set j g') ho hch hd hsure (fun r hr w hs=>?_) (by rintro v H1 ⟨g',ho',rfl⟩; exact k v g' ho')
 have hS':∀ b o,S b o→w.heap[b]? = some o:=fun b o h=>hs.at (hS b o h)
 have hsrc':Src P inf.size tx x m news w:=srcOf_run hsrc hkind hks hkl hl h1 hS'
 have hexec:∀ {v:Value} {w':World},(Builtin.append_ #[t,tx] o.type #[s,x]).run P w=.ok v w'→(execOp r o).run P w=.ok (.value v) w':=by
  intro v w' h
  unfold execOp
  simp only [hop,resolve,hce,hat,P0 hr hargs,Sem.run_bind,Sem.run_pure,Result.andThen_ok,invoke,Go.builtin,h]
 have hlen2:(cs++news).length=(n+m) * inf.size:=by
  rw [List.length_append,hown.1,hl,Nat.add_mul]
 have hsame:H.set j g=H:=by
  apply List.ext_getElem?
  intro q
  rw [List.getElem?_set]
  split
  rename_i e1; subst e1; split
  exact hj.symm
  rename_i hlt; rw [List.getElem?_eq_none (by omega)]
  rfl
 obtain ⟨hlc,⟨rfl,rfl,rfl⟩ | ⟨b,cap,junk,rfl,rfl,hcap,hjunk⟩⟩:=hown
 have hcs:cs=[]:=by cases cs with | nil=>rfl | cons _ _=>simp at hlc
 subst hcs
 by_cases hm:m=0
 subst hm
 have hn:news=[]:=by cases news with | nil=>rfl | cons _ _=>simp at hl
 subst hn
 refine ⟨.slice none 0 0,w,H,⟨[],Own.nil,hsame.symm⟩,hs,.inl (hexec ?_)⟩
 rcases hsrc'.kind with ⟨e',hk⟩ | hk <;> simp [Builtin.append_,run_underlying ht,run_underlying hk,sizeOf,typeInfo,hi,hsrc'.len,hsrc'.cells]
 have hg:=run_append_grow_src (P:=P) w t tx o.type e inf z ht hi hz none 0 0 [] (run_firstCells_none w.drew _ 0 0 0) x m news hsrc' (by omega) (by omega) (growslice_fits (by omega) hbytes)
 simp only [Nat.zero_add,List.nil_append] at hg
 refine ⟨_,_,H.set j [(w.heap.size,.cells (news++(Builtin.zeroCells z.cells (grownCap w m 0 e - m)).toList).toArray e (0,0))],⟨_,⟨by simpa using hl,.inr ⟨w.heap.size,grownCap w m 0 e,(Builtin.zeroCells z.cells (grownCap w m 0 e - m)).toList,by rw [Nat.zero_add],by simp,by rw [Nat.zero_add]; exact grownCap_ge w m 0 e,?_⟩⟩,rfl⟩,?_,.inl (hexec hg)⟩
 have:=grownCap_ge w m 0 e
 simp only [List.nil_append,List.length_append,hl,Array.length_toList,zeroCells_len,hzs,← Nat.add_mul]
 congr 1; omega
 have h2:=(hs.drew).new (w':=w.drew.alloc (.cells (news.toArray++Builtin.zeroCells z.cells (grownCap w m 0 e - m)) e)) (o:=.cells (news.toArray++Builtin.zeroCells z.cells (grownCap w m 0 e - m)) e) rfl rfl rfl rfl
 have h3:=h2.replace hj
 have e1:(news++(Builtin.zeroCells z.cells (grownCap w m 0 e - m)).toList).toArray=news.toArray++Builtin.zeroCells z.cells (grownCap w m 0 e - m):=by apply Array.ext'; simp
 rw [e1]; exact h3
 by_cases hroom:n+m≤cap
 have hblk:w.heap[b]? = some (.cells (cs++junk).toArray e (0,0)):=hs.has (b,_) (List.mem_flatten.2 ⟨_,List.mem_of_getElem? hj,List.mem_singleton.2 rfl⟩)
 have hjl:junk.length=(cap - n) * inf.size:=by
  rw [List.length_append,hlc] at hjunk
  rw [Nat.sub_mul]; omega
 have hfit:n * inf.size+news.length≤(cs++junk).length:=by
  rw [hjunk,hl,← Nat.add_mul]; exact Nat.mul_le_mul_right _ hroom
 obtain ⟨w',hr',_,hw'⟩:=Y3 (P:=P) news (w:=w) (off:=n * inf.size) (i:=0) hblk (by simpa using hfit) (fun k _=>by simp [thawed]) (List.all_eq_true.2 h1)
 have hrow:setRow (cs++junk).toArray (n * inf.size+0) news=((cs++news)++junk.drop news.length).toArray:=by
  have hnl:news.length≤junk.length:=by
   rw [hl,hjl]; exact Nat.mul_le_mul_right _ (by omega)
  have:=Y7 news cs (junk.drop news.length) (junk.take news.length) (by simp [hnl])
  rw [List.append_assoc,List.take_append_drop,hlc] at this
  exact this
 rw [hrow] at hw'
 refine ⟨.slice (some ⟨b,0,none⟩) (n+m) cap,w',H.set j ([(b,.cells ((cs++news)++junk.drop news.length).toArray e (0,0))]),⟨_,⟨hlen2,.inr ⟨b,cap,junk.drop news.length,rfl,rfl,hroom,?_⟩⟩,rfl⟩,?_,.inl (hexec (run_append_room ht hi hsrc' hroom hr'))⟩
 rw [List.length_append,List.length_append,List.length_drop,hjl,hl,hlc]
 have h2:(cap - n) * inf.size=(cap - n - m) * inf.size+m * inf.size:=by rw [← Nat.add_mul]; congr 1; omega
 have h3:cap * inf.size=n * inf.size+m * inf.size+(cap - n - m) * inf.size:=by rw [← Nat.add_mul,← Nat.add_mul]; congr 1; omega
 omega
 exact hs.wr hj (i:=0) rfl hw'
 have hblk:w.heap[b]? = some (.cells (cs++junk).toArray e (0,0)):=hs.has (b,_) (List.mem_flatten.2 ⟨_,List.mem_of_getElem? hj,List.mem_singleton.2 rfl⟩)
 have hold:(Builtin.firstCells inf.size n (.slice (some ⟨b,0,none⟩) n cap)).run P w.drew=.ok cs.toArray w.drew:=by
  refine run_firstCells_some (P:=P) w.drew inf.size n ⟨b,0,none⟩ n cap cs hlc (fun j v hv=>?_)
  rw [O7,Nat.zero_add]
  have hlt:j<cs.length:=by
   rcases Nat.lt_or_ge j cs.length with h | h
   exact h
   rw [List.getElem?_eq_none h] at hv; simp at hv
  exact T5 (w:=w.drew) hblk (by rw [List.getElem?_toArray,List.getElem?_append_left hlt]; exact hv)
 have hg:=run_append_grow_src (P:=P) w t tx o.type e inf z ht hi hz (some ⟨b,0,none⟩) n cap cs hold x m news hsrc' (by omega) (by omega) (growslice_fits (by omega) hbytes)
 have hge:=grownCap_ge w (n+m) cap e
 refine ⟨_,_,H.set j [(w.heap.size,.cells ((cs++news)++(Builtin.zeroCells z.cells (grownCap w (n+m) cap e - (n+m))).toList).toArray e (0,0))],⟨_,⟨hlen2,.inr ⟨w.heap.size,grownCap w (n+m) cap e,(Builtin.zeroCells z.cells (grownCap w (n+m) cap e - (n+m))).toList,rfl,rfl,hge,?_⟩⟩,rfl⟩,?_,.inl (hexec hg)⟩
 rw [List.length_append,hlen2,Array.length_toList,zeroCells_len,hzs,← Nat.add_mul]
 congr 1; omega
 have h2:=(hs.drew).new (w':=w.drew.alloc (.cells ((cs++news).toArray++Builtin.zeroCells z.cells (grownCap w (n+m) cap e - (n+m))) e)) (o:=.cells ((cs++news).toArray++Builtin.zeroCells z.cells (grownCap w (n+m) cap e - (n+m))) e) rfl rfl rfl rfl
 have h3:=h2.replace hj
 have e1:((cs++news)++(Builtin.zeroCells z.cells (grownCap w (n+m) cap e - (n+m))).toList).toArray=(cs++news).toArray++Builtin.zeroCells z.cells (grownCap w (n+m) cap e - (n+m)):=by apply Array.ext'; simp
 rw [e1]; exact h3
theorem E8 {t:TypeId} {k:Nat} {a:Option Addr} {n c:Nat} {g:Grp} {cs:List Value} (h:Own t k (.slice a n c) g n cs):Rd (inG g) a cs:=by
 obtain ⟨a',c',he,_,hr⟩:=h.shape
 injection he with e1 e2 e3
 subst e1; exact hr
theorem own_cap {t:TypeId} {k:Nat} {a:Option Addr} {n c:Nat} {g:Grp} {cs:List Value} (h:Own t k (.slice a n c) g n cs):n≤c:=by
 obtain ⟨a',c',he,hc,_⟩:=h.shape
 injection he with e1 e2 e3
 subst e3; exact hc
theorem A0f (a:Option Addr) (k j:Nat):Addr.add (eltA a k) j=eltA a (k+j):=by
 unfold eltA Addr.add
 by_cases hk:k=0
 subst hk; simp
 by_cases hj:j=0
 subst hj; simp
 rw [if_neg hj,if_neg hk,if_neg (by omega:¬ k+j=0)]
 simp only [Nat.add_assoc]
def srcKind (P:Program) (tx:TypeId):Bool:=match P.underlying tx with | some (.slice _)=>true | _=>false
theorem srcKind_ex {P:Program} {tx:TypeId} (h:srcKind P tx=true):∃ e',P.underlying tx=some (.slice e'):=by
 unfold srcKind at h
 split at h
 rename_i e h2; exact ⟨e,h2⟩
 cases h
theorem L8 {P:Program} {ops:Array Oper} {i:Nat} {Q:F0} {q:Fr} {E:Env} {W0:World} {H:List Grp} {o:Oper} {c:Call} {t tx e e2:TypeId} {inf:TypeInfo} {z s:Value} {n b:Nat} {cs news:List Value} {g:Grp} {fz:Nat × Nat} (m js j:Nat)
  (hj:H[j]? = some g) (hs:H[js]? = some [(b,.cells news.toArray e2 fz)]) (hown:Own e inf.size s g n cs) (hmax:n+m≤9223372036854775807) (hbytes:(n+m) * inf.bytes≤140737488355328)
  (k:∀ v g',Own e inf.size v g' (n+m) (cs++news)→GL false P ops (i+1) Q q (Env.put E o.dst [] v) W0 (H.set j g'))
  (ho:ops[i]? = some o:=by exact rfl) (hop:o.op=.call c:=by exact rfl) (hce:c.callee=.builtin .append:=by exact rfl) (hat:c.argTypes=#[t,tx]:=by exact rfl) (hargs:evL (evO E []) c.args.toList=some [s,.slice (some ⟨b,0,none⟩) m m]:=by kernel_rfl)
  (ht:P.underlying t=some (.slice e):=by kernel_rfl) (hi:P.info? e=some inf:=by kernel_rfl) (hz:inf.zero=some z:=by exact rfl) (hzs:z.cells.size=inf.size:=by exact rfl)
  (hk:srcKind P tx=true:=by kernel_rfl)
  (hch:D7 ops E o.guard=some []:=by kernel_rfl) (hd:G1 q [] o.dst=true:=by kernel_rfl)
  (hl:news.length=m * inf.size:=by kernel_rfl) (h1:(news.all fun u=>u.oneCell')=true:=by kernel_rfl):GL false P ops i Q q E W0 H :=
 X4 ho hop hce hat hargs ht hi hz hzs (.inl (srcKind_ex hk)) (fun ⟨_,h⟩=>by cases h) (fun _=>srcKind_ex hk) hch hd rfl hj hown
  (SrcOf.slice _ _ _ _ Rd.lit (fun h=>by cases h)) (E0 js hs) hl (List.all_eq_true.1 h1) hmax hbytes k
def szOf (P:Program) (t:TypeId):Option Nat:=match P.underlying t with | some (.slice e)=>T3 P e | _=>none
theorem szOf_ex {P:Program} {t:TypeId} {sz:Nat} (h:szOf P t=some sz):∃ e,P.underlying t=some (.slice e)∧T3 P e=some sz:=by
 unfold szOf at h
 split at h
 rename_i e h2; exact ⟨e,h2,h⟩
 cases h
def slOf:Value→Option (Option Addr × Nat) | .slice a n _=>some (a,n) | _=>none
theorem slOf_ex {x:Option Value} {a:Option Addr} {n:Nat} (h:x.bind slOf=some (a,n)):∃ c,x=some (.slice a n c):=by
  cases x with
  | none=>cases h
  | some v =>
    cases v <;> first | (cases h; done) | skip
    rename_i a' n' c
    simp only [Option.bind_some,slOf,Option.some.injEq,Prod.mk.injEq] at h
    obtain ⟨rfl,rfl⟩:=h
    exact ⟨c,rfl⟩
theorem E4 {d:Bool} {P:Program} {ops:Array Oper} {i:Nat} {Q:F0} {n:Fr} {E:Env} {W0:World} {H:List Grp} {o:Oper} {t:TypeId} {x ix:Operand} {a:Option Addr} {S:Nat→Obj→Prop} {cs:List Value} (len:Nat) (j:Int) (sz:Nat)
  (hrd:Rd S a cs) (hb:0≤j∧j<len∧cs≠[])
  (k:GL d P ops (i+1) Q n (Env.put E o.dst [] (.pointer (some (eltA a (j.toNat * sz))))) W0 H)
  (ho:ops[i]? = some o:=by exact rfl) (hop:o.op=.indexAddr t x ix:=by exact rfl) (hx:(evO E [] x).bind slOf=some (a,len):=by kernel_rfl) (hix:evO E [] ix=some (.int .i64 j):=by kernel_rfl) (hu:szOf P t=some sz:=by kernel_rfl)
  (hch:D7 ops E o.guard=some []:=by kernel_rfl) (hd:G1 n [] o.dst=true:=by kernel_rfl):GL d P ops i Q n E W0 H :=
 let ⟨_,h1⟩:=slOf_ex hx
 let ⟨_,h2,h3⟩:=szOf_ex hu
 J9 ho hop h1 hix h2 h3 hch hd rfl hrd (fun _=>hb) k
theorem G8 {P:Program} {ops:Array Oper} {i:Nat} {Q:F0} {n:Fr} {E:Env} {W0:World} {H:List Grp} {o:Oper} {t:TypeId} {parts:Array (Nat × Operand)} (e:TypeId) (len:Nat) (c:List Value)
  (k:∀ b,GL false P ops (i+1) Q n (Env.put E o.dst [] (.slice (some ⟨b,0,none⟩) len len)) W0 ([(b,.cells c.toArray e)]::H))
  (ho:ops[i]? = some o:=by exact rfl) (hop:o.op=.buildSlice t len parts:=by exact rfl) (hc:(evP (evO E []) parts.toList).bind (buildSliceV P t len)=some (c.toArray,e):=by kernel_rfl)
  (hch:D7 ops E o.guard=some []:=by kernel_rfl) (hd:G1 n [] o.dst=true:=by kernel_rfl):GL false P ops i Q n E W0 H:=by
 cases h:evP (evO E []) parts.toList with
 | none=>rw [h] at hc; cases hc
 | some l=>exact GL_buildSlice ho hop h (by rw [h] at hc; exact hc) hch hd rfl k
theorem H7 {d:Bool} {P:Program} {ops:Array Oper} {i:Nat} {Q:F0} {n:Fr} {E:Env} {W0:World} {H:List Grp} {o:Oper} {t:TypeId} {x:Operand} {a:Option Addr} {S:Nat→Obj→Prop} {cs:List Value} (q:Nat) (v:Value)
  (hrd:Rd S a cs) (hS:∀ b o,S b o→At W0 H b o) (hv:chB E []→cs[q]? = some v)
  (k:GL d P ops (i+1) Q n (Env.put E o.dst [] v) W0 H)
  (ho:ops[i]? = some o:=by exact rfl) (hop:o.op=.load t x:=by exact rfl) (hx:evO E [] x=some (.pointer (some (eltA a q))):=by kernel_rfl) (ht:aggB P t=some false:=by kernel_rfl)
  (hch:D7 ops E o.guard=some []:=by kernel_rfl) (hd:G1 n [] o.dst=true:=by kernel_rfl):GL d P ops i Q n E W0 H :=
 GL_loadS ho hop hx ht hch hd rfl hrd hS hv k
end Go.Sw
namespace Go.Sw
theorem R0 {E:List Sl} {t:Nat} {w b:Bool} {r c:List (Nat × Bool)} (h:chB E ((t,w)::r)) (hf:Env.find E t=some ⟨t,c,.bool b⟩):b=w:=by
 have h1:=h.1
 rw [hf] at h1
 exact h1
theorem chB_tl {E:List Sl} {p:Nat × Bool} {r:List (Nat × Bool)} (h:chB E (p::r)):chB E r:=h.2
def Qn (K:Act→World→Prop):F0:=fun x a w=>x=.normal∧K a w
theorem wp_swap {P:Program} {o:Oper} {a:Act} {w:World} {K1 K A B:Act→World→Prop} (h:∀ a w,K1 a w→K a w)
    (hh:o.wp P a w K1 (Qn A)):o.wp P a w K (Qn B):=by
  unfold Oper.wp at *
  generalize (execOp a.eval o).run P w=r at *
  cases r with
  | ok n w' =>
    cases n <;> simp only [Oper.upon] at hh ⊢ <;>
      first
        | exact h _ _ hh
        | exact Calls.mono hh (fun e w'' he=>by
            cases e
            exact h _ _ he
            exact absurd he.1 (by intro h; cases h)
            obtain ⟨_,_,h1,_⟩:=he; cases h1)
        | exact Rows.mono hh (fun _ _ he=>h _ _ he)
  | halt x w'=>cases x <;> simp only [Oper.upon] at hh ⊢ <;> first | exact hh | exact absurd hh.1 (by intro h; cases h)
def Q5 (ops:Array Oper) (i:Nat):Array Oper:=(ops.toList.take (i+1)).toArray
def L5 (ops:Array Oper) (i:Nat):Bool:=match ops[i]? with | some o=>(match o.guard with | some (j,_)=>decide (j≤i) | none=>true) | none=>false
theorem cutOps_get {ops:Array Oper} {i j:Nat} (h:j≤i):(Q5 ops i)[j]? = ops[j]? := by
 rw [Q5,List.getElem?_toArray,List.getElem?_take,if_pos (by omega),Array.getElem?_toList]
theorem cut_drop {ops:Array Oper} {i:Nat} {o:Oper} (h:ops[i]? = some o):(Q5 ops i).toList.drop i=[o]:=by
 have hi:i<ops.toList.length:=by
  rcases Nat.lt_or_ge i ops.size with h' | h'
  simpa using h'
  simp [Array.getElem?_eq_none h'] at h
 have e:ops.toList[i]? = some o:=by rw [Array.getElem?_toList]; exact h
 rw [List.getElem?_eq_getElem hi] at e
 injection e with e
 unfold Q5
 rw [List.toList_toArray,List.take_succ_eq_append_getElem hi,e,List.drop_append_of_le_length (by rw [List.length_take]; omega),List.drop_eq_nil_of_le (by rw [List.length_take]; omega)]
 rfl
theorem cut_wanted {ops:Array Oper} {i:Nat} {o:Oper} (h:ops[i]? = some o) (hg:L5 ops i=true) (tmps:Array Value) :
    Region.wanted o (yielded (Q5 ops i) tmps)=Region.wanted o (yielded ops tmps):=by
  unfold L5 at hg
  rw [h] at hg
  unfold Region.wanted
  cases hgd:o.guard with
  | none=>rfl
  | some p =>
    obtain ⟨j,b⟩:=p
    simp only [hgd,decide_eq_true_eq] at hg
    simp only [yielded,cutOps_get hg]
def noCall (o:Oper):Bool:=match o.op with
 | .move _ | .assign _ | .pick .. | .load .. | .binOp .. | .unOp .. | .convert .. | .makeInterface .. | .makeFunc .. | .slice .. | .fieldAddr .. | .field .. | .indexAddr .. | .index .. | .lookup .. | .extract .. | .build ..=>true
 | _=>false
def GH (P:Program) (ops:Array Oper) (L:List Grp) (fuel:Nat) (listed:Array Bool) (Q:F0) (n:Fr) (E:Env) (W0:World) (H:List Grp):Prop :=
 ∀ a w,Ag n E a→Sat W0 H w→wpAnyH P .any ops (Qn (Q .normal)) (Sat W0 L) fuel listed a w
theorem H3 {P:Program} {id:Nat} {ops:Array Oper} {Q:F0} {n:Fr} {E:Env} {W0:World} {H:List Grp} (L:List Grp)
  (hm:P.follows .mixedOrders=true:=by kernel_rfl) (k:GH P ops L ops.size (Array.replicate ops.size false) Q n E W0 H):G P (.region id ops true) Q n E W0 H:=by
 intro a w ha hs
 refine Code.wp_mono (Q:=Qn (Q .normal)) (fun e a w h=>?_) (wp_region_held hm (k a _ ha hs.drew))
 obtain ⟨rfl,h⟩:=h
 exact h
theorem M2 {P:Program} {ops:Array Oper} {L:List Grp} (L':List Grp) {fuel:Nat} {listed:Array Bool} {Q:F0} {n:Fr} {E:Env} {W0:World} {H:List Grp}
  (hL:∀ w,Sat W0 L' w→Sat W0 L w) (k:GH P ops L' fuel listed Q n E W0 H):GH P ops L fuel listed Q n E W0 H:=by
 have mono:∀ fuel listed a w,wpAnyH P .any ops (Qn (Q .normal)) (Sat W0 L') fuel listed a w→wpAnyH P .any ops (Qn (Q .normal)) (Sat W0 L) fuel listed a w:=by
  intro fuel
  induction fuel with
  | zero=>exact fun _ _ _ h=>h
  | succ fuel ih=>exact fun listed a w h=>⟨h.1,fun i hi=>wpOp_mono (fun a' w' h'=>⟨hL _ h'.1,ih _ _ _ h'.2⟩) (h.2 i hi)⟩
 exact fun a w ha hs=>mono _ _ _ _ (k a w ha hs)
theorem D8 {P:Program} {ops:Array Oper} {L:List Grp} {fuel:Nat} {listed:Array Bool} {Q:F0} {n:Fr} {E E':Env} {W0:World} {H:List Grp} (ts:List Nat)
  (hr:Region.ready .any ops listed=[]:=by kernel_rfl) (hk:Env.keep ts E=E':=by kernel_rfl) (k:N Q .normal n E' W0 H):GH P ops L fuel listed Q n E W0 H :=
 fun a w ha hs=>wpAnyH_done hr ⟨rfl,N_sub ts hk k a w ha hs⟩ fuel
theorem GH_wpOp {P:Program} {ops:Array Oper} {L:List Grp} {fuel:Nat} {listed:Array Bool} {Q:F0} {n:Fr} {E:Env} {W0:World} {H:List Grp} (i:Nat)
  (hi:(ops[i]?).isSome=true) (hg:L5 ops i=true)
  (k:GL false P (Q5 ops i) i (Qn fun a w=>Sat W0 L w∧wpAnyH P .any ops (Qn (Q .normal)) (Sat W0 L) fuel (listed.setIfInBounds i true) a w) n E W0 H) {a:Act} {w:World} (ha:Ag n E a) (hs:Sat W0 H w) :
  wpOp P ops (Qn (Q .normal)) i (fun a w=>Sat W0 L w∧wpAnyH P .any ops (Qn (Q .normal)) (Sat W0 L) fuel (listed.setIfInBounds i true) a w) a w:=by
 obtain ⟨o,ho⟩:=Option.isSome_iff_exists.1 hi
 have h1:=k a w ha hs
 rw [cut_drop ho] at h1
 unfold wpOp
 simp only [ho]
 unfold wpList at h1
 rw [cut_wanted ho hg] at h1
 split
 rename_i hw
 rw [if_pos hw] at h1
 rcases h1 with h1 | ⟨_,_,_,h1,_⟩
 exact .inl (wp_swap (fun a w h=>h.2) h1)
 cases h1
 rename_i hw
 rw [if_neg hw] at h1
 exact h1.2
theorem C6 {P:Program} {ops:Array Oper} {L:List Grp} {fuel:Nat} {listed:Array Bool} {Q:F0} {n:Fr} {E:Env} {W0:World} {H:List Grp} (i:Nat)
  (hr:Region.ready .any ops listed=[i]:=by kernel_rfl) (hi:(ops[i]?).isSome=true:=by kernel_rfl) (hg:L5 ops i=true:=by kernel_rfl)
  (k:GL false P (Q5 ops i) i (Qn fun a w=>Sat W0 L w∧wpAnyH P .any ops (Qn (Q .normal)) (Sat W0 L) fuel (listed.setIfInBounds i true) a w) n E W0 H) :
  GH P ops L (fuel+1) listed Q n E W0 H:=by
 intro a w ha hs
 refine wpAnyH_all hr (by simp) (fun j hj=>?_)
 have hji:j=i:=by simpa using hj
 subst hji
 exact GH_wpOp j hi hg k ha hs
theorem H6 {P:Program} {ops:Array Oper} {L:List Grp} {fuel:Nat} {listed:Array Bool} {Q:F0} {n:Fr} {E:Env} {W0:World} {H:List Grp} (i i':Nat)
  (hr:Region.ready .any ops listed=[i,i']:=by kernel_rfl) (hi:(ops[i]?).isSome=true:=by kernel_rfl) (hg:L5 ops i=true:=by kernel_rfl) (hi':(ops[i']?).isSome=true:=by kernel_rfl) (hg':L5 ops i'=true:=by kernel_rfl)
  (k:GL false P (Q5 ops i) i (Qn fun a w=>Sat W0 L w∧wpAnyH P .any ops (Qn (Q .normal)) (Sat W0 L) fuel (listed.setIfInBounds i true) a w) n E W0 H)
  (k':GL false P (Q5 ops i') i' (Qn fun a w=>Sat W0 L w∧wpAnyH P .any ops (Qn (Q .normal)) (Sat W0 L) fuel (listed.setIfInBounds i' true) a w) n E W0 H) :
  GH P ops L (fuel+1) listed Q n E W0 H:=by
 intro a w ha hs
 refine wpAnyH_all hr (by simp) (fun j hj=>?_)
 have hji:j=i∨j=i':=by simpa using hj
 rcases hji with rfl | rfl
 exact GH_wpOp j hi hg k ha hs
 exact GH_wpOp j hi' hg' k' ha hs
theorem GH_eff3 {P:Program} {ops:Array Oper} {L:List Grp} {fuel:Nat} {listed:Array Bool} {Q:F0} {n:Fr} {E:Env} {W0:World} {H:List Grp} (i i' i2:Nat)
  (hr:Region.ready .any ops listed=[i,i',i2]) (hi:(ops[i]?).isSome=true) (hg:L5 ops i=true) (hi':(ops[i']?).isSome=true) (hg':L5 ops i'=true) (hi2:(ops[i2]?).isSome=true) (hg2:L5 ops i2=true)
  (k:GL false P (Q5 ops i) i (Qn fun a w=>Sat W0 L w∧wpAnyH P .any ops (Qn (Q .normal)) (Sat W0 L) fuel (listed.setIfInBounds i true) a w) n E W0 H)
  (k':GL false P (Q5 ops i') i' (Qn fun a w=>Sat W0 L w∧wpAnyH P .any ops (Qn (Q .normal)) (Sat W0 L) fuel (listed.setIfInBounds i' true) a w) n E W0 H)
  (k2:GL false P (Q5 ops i2) i2 (Qn fun a w=>Sat W0 L w∧wpAnyH P .any ops (Qn (Q .normal)) (Sat W0 L) fuel (listed.setIfInBounds i2 true) a w) n E W0 H) :
  GH P ops L (fuel+1) listed Q n E W0 H:=by
 intro a w ha hs
 refine wpAnyH_all hr (by simp) (fun j hj=>?_)
 have hji:j=i∨j=i'∨j=i2:=by simpa using hj
 rcases hji with rfl | rfl | rfl
 exact GH_wpOp j hi hg k ha hs
 exact GH_wpOp j hi' hg' k' ha hs
 exact GH_wpOp j hi2 hg2 k2 ha hs
theorem A9 {P:Program} {ops:Array Oper} {L:List Grp} {fuel:Nat} {listed:Array Bool} {Q:F0} {n:Fr} {E:Env} {W0:World} {H:List Grp} {i j:Nat}
  (hi:(Q5 ops i).size=j:=by kernel_rfl) (hL:∀ w,Sat W0 H w→Sat W0 L w) (k:GH P ops L fuel listed Q n E W0 H) :
  GL false P (Q5 ops i) j (Qn fun a w=>Sat W0 L w∧wpAnyH P .any ops (Qn (Q .normal)) (Sat W0 L) fuel listed a w) n E W0 H :=
 GL_end hi (fun a w ha hs=>⟨rfl,hL w hs,k a w ha hs⟩)
def valueM (m:Sem Value):Sem Next:=m >>= fun v=>pure (.value v)
theorem valueM_run {P:Program} {m:Sem Value} {w w':World} {x:Next} (h:(valueM m).run P w=.ok x w'):∃ v,x=.value v:=by
 unfold valueM at h
 rw [Sem.run_bind] at h
 generalize m.run P w=r at h
 cases r with
 | ok v w1=>simp only [Result.andThen_ok,Sem.run_pure] at h; injection h with h; exact ⟨v,h.symm⟩
 | halt x w1=>simp [Result.andThen] at h
theorem bindV_run {P:Program} {α:Type} {m:Sem α} {f:α→Value} {w w':World} {x:Next} (h:(m >>= fun b=>pure (Next.value (f b))).run P w=.ok x w'):∃ v,x=.value v:=by
 rw [Sem.run_bind] at h
 generalize m.run P w=r at h
 cases r with
 | ok v w1=>simp only [Result.andThen_ok,Sem.run_pure] at h; injection h with h; exact ⟨_,h.symm⟩
 | halt x w1=>simp [Result.andThen] at h
theorem noCall_value {P:Program} {o:Oper} (hn:noCall o=true) {r:Operand→Value} {C:World→Prop} {w:World} {v:Value}
    (h:Oper.quietUpon P C w v ((execOp r o).run P w)):(execOp r o).run P w=.ok (.value v) w:=by
  have key:∀ x w',(execOp r o).run P w=.ok x w'→∃ v,x=.value v:=by
    intro x w' he
    unfold noCall at hn
    cases hop:o.op <;> rw [hop] at hn <;> simp only [Bool.false_eq_true] at hn
    all_goals (unfold execOp at he; simp only [hop] at he)
    all_goals first
      | exact valueM_run (m:=_) he
      | (simp only [Sem.run_pure] at he; injection he with he; exact ⟨_,he.symm⟩)
      | exact bindV_run he
  generalize hr:(execOp r o).run P w=res at h ⊢
  cases res with
  | ok x w' =>
    obtain ⟨u,rfl⟩:=key x w' hr
    simp only [Oper.quietUpon] at h
    obtain ⟨rfl,rfl⟩:=h
    rfl
  | halt x w'=>simp [Oper.quietUpon] at h
theorem GH_take {P:Program} {ops:Array Oper} {L:List Grp} {fuel:Nat} {listed:Array Bool} {Q:F0} {n:Fr} {E E':Env} {W0:World} {H:List Grp} (i:Nat)
    (hi:(match ops[i]? with | some o=>noCall o | none=>false)=true) (hg:L5 ops i=true) (hs:Region.noSelect ops=true) (hf:Region.free .any ops listed i=true)
    (hr:(Region.ready .any ops listed).contains i=true) (hL:∀ w,Sat W0 H w→Sat W0 L w)
    (hy:GL true P (Q5 ops i) i (fun _ a _=>Ag n E' a) n E W0 L)
    (k:GH P ops L fuel (listed.setIfInBounds i true) Q n E' W0 H):GH P ops L (fuel+1) listed Q n E W0 H:=by
  intro a w ha hsat
  cases ho:ops[i]? with
  | none=>rw [ho] at hi; simp at hi
  | some o =>
    rw [ho] at hi
    have hSw:=hL w hsat
    have h1:=hy a ha
    rw [cut_drop ho] at h1
    unfold wpQuiet at h1
    rw [cut_wanted ho hg] at h1
    by_cases hw:Region.wanted o (yielded ops a.tmps)=true
    rw [if_pos hw] at h1
    obtain ⟨v,h2,h3⟩:=h1
    exact wpAnyH_take (v:=v) ho hs hf hr (fun c a w h=>absurd h.1 (by intro h; cases h)) (.inl ⟨hw,fun w' hw'=>noCall_value hi (h2 w' hw')⟩) hSw (k _ w (h3 w hSw) hsat)
    rw [if_neg hw] at h1
    exact wpAnyH_take (v:=undef) ho hs hf hr (fun c a w h=>absurd h.1 (by intro h; cases h)) (.inr ⟨by simpa using hw,rfl⟩) hSw (k _ w (h1 w hSw) hsat)
theorem J3 {P:Program} {ops:Array Oper} {L:List Grp} {fuel:Nat} {listed:Array Bool} {Q:F0} {n:Fr} {E:Env} {W0:World} {H:List Grp} {o:Oper} {x:Operand} {ad:Addr} (i:Nat)
  (ho:ops[i]? = some o:=by exact rfl) (hop:o.op=.nilCheck x:=by exact rfl) (hgd:o.guard=none:=by exact rfl) (hx:evO E [] x=some (.pointer (some ad)):=by kernel_rfl) (hd:G1 n [] o.dst=true:=by kernel_rfl)
  (hs:Region.noSelect ops=true:=by kernel_rfl) (hf:Region.free .any ops listed i=true:=by kernel_rfl)
  (hr:(Region.ready .any ops listed).contains i=true:=by kernel_rfl) (hL:∀ w,Sat W0 H w→Sat W0 L w)
  (k:GH P ops L fuel (listed.setIfInBounds i true) Q n (Env.put E o.dst [] (.pointer (some ad))) W0 H):GH P ops L (fuel+1) listed Q n E W0 H:=by
 intro a w ha hsat
 obtain ⟨β,hβ,hat⟩:=ha.at_
 have hv:a.eval x=.pointer (some ad):=L0 hat rfl hx
 have hw:Region.wanted o (yielded ops a.tmps)=true:=by unfold Region.wanted; rw [hgd]
 have hput:Ag n (Env.put E o.dst [] (.pointer (some ad))) (a.put o.dst (.pointer (some ad))):=by
  have:=ha.put hβ hat hd (.pointer (some ad))
  simpa [chT] using this
 refine wpAnyH_take (v:=.pointer (some ad)) ho hs hf hr (fun c a w h=>absurd h.1 (by intro h; cases h)) (.inl ⟨hw,fun w' _=>?_⟩) (hL w hsat) (k _ w hput hsat)
 unfold execOp
 simp only [hop,hv]
 rfl
theorem GH_nilG {P:Program} {ops:Array Oper} {L:List Grp} {fuel:Nat} {listed:Array Bool} {Q:F0} {n:Fr} {E:Env} {W0:World} {H:List Grp} {o:Oper} {x:Operand} {ad:Addr} (i:Nat) (ch:List (Nat × Bool))
  (ho:ops[i]? = some o) (hop:o.op=.nilCheck x) (hch:D7 ops E o.guard=some ch) (hsure:M5 E ch=true) (hx:evO E ch x=some (.pointer (some ad))) (hd:G1 n ch o.dst=true)
  (hs:Region.noSelect ops=true) (hf:Region.free .any ops listed i=true)
  (hr:(Region.ready .any ops listed).contains i=true) (hL:∀ w,Sat W0 H w→Sat W0 L w)
  (k:GH P ops L fuel (listed.setIfInBounds i true) Q n (Env.put E o.dst ch (.pointer (some ad))) W0 H):GH P ops L (fuel+1) listed Q n E W0 H:=by
 intro a w ha hsat
 obtain ⟨β,hβ,hat⟩:=ha.at_
 have hcT:=M3 hsure β hβ
 have hv:a.eval x=.pointer (some ad):=L0 hat hcT hx
 have hw:Region.wanted o (yielded ops a.tmps)=true:=by rw [P3 hβ hat hch]; exact hcT
 have hput:Ag n (Env.put E o.dst ch (.pointer (some ad))) (a.put o.dst (.pointer (some ad))):=by
  have:=ha.put hβ hat hd (.pointer (some ad))
  rwa [if_pos hcT] at this
 refine wpAnyH_take (v:=.pointer (some ad)) ho hs hf hr (fun c a w h=>absurd h.1 (by intro h; cases h)) (.inl ⟨hw,fun w' _=>?_⟩) (hL w hsat) (k _ w hput hsat)
 unfold execOp
 simp only [hop,hv]
 rfl
theorem Q0 {P:Program} {ops:Array Oper} {L:List Grp} {fuel:Nat} {listed:Array Bool} {Q:F0} {n:Fr} {E:Env} {W0:World} {H:List Grp} {o:Oper} {v:Value} (i:Nat)
  (ho:ops[i]? = some o:=by exact rfl) (hgd:o.guard=none:=by exact rfl) (hp:pev P (evO E []) o.op=some v:=by kernel_rfl) (hd:G1 n [] o.dst=true:=by kernel_rfl)
  (hs:Region.noSelect ops=true:=by kernel_rfl) (hf:Region.free .any ops listed i=true:=by kernel_rfl)
  (hr:(Region.ready .any ops listed).contains i=true:=by kernel_rfl) (hL:∀ w,Sat W0 H w→Sat W0 L w)
  (k:GH P ops L fuel (listed.setIfInBounds i true) Q n (Env.put E o.dst [] v) W0 H):GH P ops L (fuel+1) listed Q n E W0 H:=by
 intro a w ha hsat
 obtain ⟨β,hβ,hat⟩:=ha.at_
 have hw:Region.wanted o (yielded ops a.tmps)=true:=by unfold Region.wanted; rw [hgd]
 have hput:Ag n (Env.put E o.dst [] v) (a.put o.dst v):=by
  have:=ha.put hβ hat hd v
  simpa [chT] using this
 exact wpAnyH_take (v:=v) ho hs hf hr (fun c a w h=>absurd h.1 (by intro h; cases h)) (.inl ⟨hw,fun w' _=>pev_sound (fun x v h=>L0 hat rfl h) hp w'⟩) (hL w hsat) (k _ w hput hsat)
theorem G5 {P:Program} {ops:Array Oper} {i:Nat} {n:Fr} {E E':Env} {W0:World} {L:List Grp} (hi:ops.size=i:=by kernel_rfl) (he:E=E':=by kernel_rfl):GL true P ops i (fun _ a _=>Ag n E' a) n E W0 L :=
 GL_end hi (by subst he; exact fun a w ha _=>ha)
theorem cut_size {ops:Array Oper} {i:Nat} {o:Oper} (h:ops[i]? = some o):(Q5 ops i).size=i+[0].length:=by
 have hi:i<ops.size:=(Array.getElem?_eq_some_iff.1 h).1
 unfold Q5
 rw [List.size_toArray,List.length_take,Array.length_toList]; show min (i+1) ops.size=i+1; omega
theorem GH_pure {P:Program} {ops:Array Oper} {L:List Grp} {fuel:Nat} {listed:Array Bool} {Q:F0} {n:Fr} {E E':Env} {W0:World} {H:List Grp} (i m:Nat)
  (hc:((match ops[i]? with | some o=>noCall o | none=>false)&&(L5 ops i&&(Region.noSelect ops&&(Region.free .any ops listed i&&(Region.ready .any ops listed).contains i))))=true:=by kernel_rfl) (hL:∀ w,Sat W0 H w→Sat W0 L w)
  (h:(P6 P (Q5 ops i) n [m] i E).map (Env.only (E'.map Sl.t))=some E':=by kernel_rfl)
  (k:GH P ops L fuel (listed.setIfInBounds i true) Q n E' W0 H):GH P ops L (fuel+1) listed Q n E W0 H:=by
 simp only [Bool.and_eq_true] at hc
 obtain ⟨h1,h2,h3,h4,h5⟩:=hc
 refine GH_take (E':=E') i h1 h2 h3 h4 h5 hL (GL_pure (j:=i+[m].length) [m] h rfl (G5 ?_ rfl)) k
 cases ho:ops[i]? with
 | none=>rw [ho] at h1; cases h1
 | some o=>exact cut_size ho
theorem F6 {P:Program} {ops:Array Oper} {L:List Grp} {fuel:Nat} {listed:Array Bool} {Q:F0} {n:Fr} {E E':Env} {W0:World} {H:List Grp} (i:Nat)
  (hc:((match ops[i]? with | some o=>noCall o | none=>false)&&(L5 ops i&&(Region.noSelect ops&&(Region.free .any ops listed i&&(Region.ready .any ops listed).contains i))))=true:=by kernel_rfl) (hL:∀ w,Sat W0 H w→Sat W0 L w)
  (hy:GL true P (Q5 ops i) i (fun _ a _=>Ag n E' a) n E W0 L)
  (k:GH P ops L fuel (listed.setIfInBounds i true) Q n E' W0 H):GH P ops L (fuel+1) listed Q n E W0 H:=by
 simp only [Bool.and_eq_true] at hc
 obtain ⟨h1,h2,h3,h4,h5⟩:=hc
 exact GH_take i h1 h2 h3 h4 h5 hL hy k
theorem GH_env {P:Program} {ops:Array Oper} {L:List Grp} {fuel:Nat} {listed:Array Bool} {Q:F0} {n:Fr} {E E':Env} {W0:World} {H:List Grp} (h:E=E') (k:GH P ops L fuel listed Q n E' W0 H):GH P ops L fuel listed Q n E W0 H:=by subst h; exact k
theorem R5 {Q:F0} {x:Exit} {n:Fr} {E:Env} {W0:World} {H H':List Grp} (h:H=H') (k:N Q x n E W0 H'):N Q x n E W0 H:=by subst h; exact k
theorem L7 {Q:F0} {x:Exit} {n:Fr} {E E':Env} {W0:World} {H:List Grp} (h:E=E':=by kernel_rfl) (k:N Q x n E' W0 H):N Q x n E W0 H:=by subst h; exact k
def JQ {T:Type} (n:Fr) (W0:World) (EJ:T→Env) (HJ:T→List Grp) (Φ:T→Prop):F0:=fun x a w=>x=.normal∧∃ v,Φ v∧Ag n (EJ v) a∧Sat W0 (HJ v) w
theorem P7 {P:Program} {c:Code} {Q:F0} {n:Fr} {E:Env} {W0:World} {H:List Grp} {T:Type} (EJ:T→Env) (HJ:T→List Grp) (Φ:T→Prop)
  (h:G P c (JQ n W0 EJ HJ Φ) n E W0 H) (k:∀ v,Φ v→N Q .normal n (EJ v) W0 (HJ v)):G P c Q n E W0 H :=
 fun a w ha hs=>Code.wp_mono (fun x a w ⟨hx,v,h1,h2,h3⟩=>by subst hx; exact k v h1 a w h2 h3) (h a w ha hs)
theorem E6 {n:Fr} {E:Env} {W0:World} {H:List Grp} {T:Type} {EJ:T→Env} {HJ:T→List Grp} {Φ:T→Prop} (v:T) (ts:List Nat) (h:Env.keep ts E=EJ v:=by kernel_rfl)
  (hH:∀ w,Sat W0 H w→Sat W0 (HJ v) w) (hp:Φ v):N (JQ n W0 EJ HJ Φ) .normal n E W0 H :=
 fun _ w ha hs=>⟨rfl,v,hp,ha.sub (by rw [← h]; intro s hs; exact Env.keep_mem _ hs),hH w hs⟩
def JQR (Q:F0) {T:Type} (n:Fr) (W0:World) (EJ:T→Env) (HJ:T→List Grp) (Φ:T→Prop):F0:=fun x a w=>(x=.normal∧∃ v,Φ v∧Ag n (EJ v) a∧Sat W0 (HJ v) w)∨(x=.ret∧Q .ret a w)
theorem G_joinR {P:Program} {c:Code} {Q:F0} {n:Fr} {E:Env} {W0:World} {H:List Grp} {T:Type} (EJ:T→Env) (HJ:T→List Grp) (Φ:T→Prop)
  (h:G P c (JQR Q n W0 EJ HJ Φ) n E W0 H) (k:∀ v,Φ v→N Q .normal n (EJ v) W0 (HJ v)):G P c Q n E W0 H :=
 fun a w ha hs=>Code.wp_mono (fun x a w hx=>by
  rcases hx with ⟨hx,v,h1,h2,h3⟩ | ⟨hx,h1⟩
  subst hx; exact k v h1 a w h2 h3
  subst hx; exact h1) (h a w ha hs)
theorem N_joinR {Q:F0} {n:Fr} {E:Env} {W0:World} {H:List Grp} {T:Type} {EJ:T→Env} {HJ:T→List Grp} {Φ:T→Prop} (v:T) (ts:List Nat) (h:Env.keep ts E=EJ v)
  (hH:∀ w,Sat W0 H w→Sat W0 (HJ v) w) (hp:Φ v):N (JQR Q n W0 EJ HJ Φ) .normal n E W0 H :=
 fun _ w ha hs=>.inl ⟨rfl,v,hp,ha.sub (by rw [← h]; intro s hs; exact Env.keep_mem _ hs),hH w hs⟩
theorem N_joinRet {Q:F0} {n:Fr} {E:Env} {W0:World} {H:List Grp} {T:Type} {EJ:T→Env} {HJ:T→List Grp} {Φ:T→Prop} (k:N Q .ret n E W0 H):N (JQR Q n W0 EJ HJ Φ) .ret n E W0 H :=
 fun a w ha hs=>.inr ⟨rfl,k a w ha hs⟩
theorem GL_env {d:Bool} {P:Program} {ops:Array Oper} {i:Nat} {Q:F0} {n:Fr} {E E':Env} {W0:World} {H:List Grp} (h:E=E':=by kernel_rfl) (k:GL d P ops i Q n E' W0 H):GL d P ops i Q n E W0 H:=by subst h; exact k
inductive RV (P:Program) (E:List Sl) (W0:World) (H:List Grp):ResultVar→Value→Prop
 | tmp {t:Nat} {v:Value} (h:evT E [] t=some v):RV P E W0 H (.tmp t) v
 | agg {a t b off:Nat} {c:Array Value} {e:TypeId} {fz:Nat × Nat} {l:List Value} (h:evT E [] a=some (.pointer (some ⟨b,off,none⟩))) (ht:aggB P t=some true) (hz:T3 P t=some l.length)
  (hA:At W0 H b (.cells c e fz)) (hv:(c.toList.drop off).take l.length=l):RV P E W0 H (.cell a t) (.agg l.toArray)
 | one {a t b off:Nat} {c:Array Value} {e:TypeId} {fz:Nat × Nat} {v:Value} (h:evT E [] a=some (.pointer (some ⟨b,off,none⟩))) (ht:aggB P t=some false)
  (hA:At W0 H b (.cells c e fz)) (hv:c[off]? = some v):RV P E W0 H (.cell a t) v
theorem RV.aq {P:Program} {E:List Sl} {W0:World} {H:List Grp} {a t b:Nat} {c:Array Value} {e:TypeId} {fz:Nat × Nat} {g:Grp} {l:List Value} (j off:Nat) (hj:H[j]? = some ((b,.cells c e fz)::g))
 (h:evT E [] a=some (.pointer (some ⟨b,off,none⟩)):=by kernel_rfl) (ht:aggB P t=some true:=by kernel_rfl) (hz:T3 P t=some l.length:=by kernel_rfl)
 (hv:(c.toList.drop off).take l.length=l:=by kernel_rfl):RV P E W0 H (.cell a t) (.agg l.toArray):=.agg h ht hz (At.grp j 0 hj rfl) hv
theorem RV.tq {P:Program} {E:List Sl} {W0:World} {H:List Grp} {t:Nat} {v:Value} (h:evT E [] t=some v:=by kernel_rfl):RV P E W0 H (.tmp t) v:=.tmp h
inductive RVs (P:Program) (E:List Sl) (W0:World) (H:List Grp):List ResultVar→List Value→Prop
 | nil:RVs P E W0 H [] []
 | cons {r:ResultVar} {v:Value} {rs:List ResultVar} {l:List Value} (h:RV P E W0 H r v) (k:RVs P E W0 H rs l):RVs P E W0 H (r::rs) (v::l)
theorem RV.run {P:Program} {n:Fr} {E:Env} {W0:World} {H:List Grp} {a:Act} (ha:Ag n E a) {w:World} (hs:Sat W0 H w) {r:ResultVar} {v:Value} (h:RV P E W0 H r v) :
    (resOne a.tmps r).run P w=.ok v w:=by
  cases h with
  | tmp h =>
    have e:=ha.eval (x:=.tmp _) h
    simp only [resOne,Sem.run_pure]
    rw [show a.tmps.getD _ undef=v from e]
  | @agg x t b off c e fz l h ht hz hA hv' =>
    have ee:a.tmps.getD x undef=_:=ha.eval (x:=.tmp x) h
    have hv:∀ k (hk:k<l.length),c[off+k]? = some l[k]:=by
      intro k hk
      have h1:((c.toList.drop off).take l.length)[k]? = some l[k]:=by rw [hv']; simp
      rw [List.getElem?_take,if_pos hk,List.getElem?_drop] at h1
      simpa using h1
    simp only [resOne,ee,asAddr,loadVar,Sem.run_bind,Sem.run_pure,Result.andThen_ok,Q6 ht,if_true,L4 hz,loadCells,
      V5 (P:=P) (hs.at hA) l 0 #[] (by simpa using hv)]
    simp
  | @one x t b off c e fz v h ht hA hv =>
    have ee:a.tmps.getD x undef=_:=ha.eval (x:=.tmp x) h
    simp only [resOne,ee,asAddr,loadVar,Sem.run_bind,Sem.run_pure,Result.andThen_ok,Q6 ht,Bool.false_eq_true,if_false,run_load,T5 (hs.at hA) hv]
theorem RVs.run {P:Program} {n:Fr} {E:Env} {W0:World} {H:List Grp} {a:Act} (ha:Ag n E a) {w:World} (hs:Sat W0 H w) {rs:List ResultVar} {l:List Value} (h:RVs P E W0 H rs l) :
  (rs.mapM (resOne a.tmps)).run P w=.ok l w:=by
 induction h with
 | nil=>rfl
 | cons h _ ih=>simp only [List.mapM_cons,Sem.run_bind,h.run ha hs,Sem.run_pure,Result.andThen_ok,ih]
theorem J6 {P:Program} {fn:Func} {n:Fr} {E:Env} {W0:World} {H:List Grp} {R:Value→List Grp→Prop} {x:Exit} (rs:List ResultVar) (l:List Value)
    (hr:fn.results=rs.toArray:=by exact rfl) (h:RVs P E W0 H rs l) (hx:(match x with | .normal=>true | .ret=>true | _=>false)=true:=by exact rfl) (k:∃ H',R (packV l) H'∧∀ w,Sat W0 H w→Sat W0 H' w) (hz:n.dl=[]:=by rfl):N (Body P fn W0 R) x n E W0 H:=by
  intro a w ha hs
  obtain ⟨H',hR,hH⟩:=k
  have e:(results fn a.tmps).run P w=.ok (packV l) w:=by
    have e2:=h.run (P:=P) ha hs
    have e3:((rs.toArray).mapM (resOne a.tmps)).run P w=.ok l.toArray w:=by
      rw [Array.mapM_eq_mapM_toList,Sem.run_map,e2]; rfl
    rw [results_eq,hr,Sem.run_bind,e3]
    simp only [Result.andThen_ok,Sem.run_pure]
    congr 1
    cases l with
    | nil=>rfl
    | cons v l=>cases l with
      | nil=>rfl
      | cons u l=>simp [packV]
  cases x <;> simp at hx
  exact ⟨ha.defers.trans (by unfold Fr.ds; rw [hz]),packV l,e,packV l,H',rfl,hR,hH w hs⟩
  exact ⟨ha.defers.trans (by unfold Fr.ds; rw [hz]),packV l,e,packV l,H',rfl,hR,hH w hs⟩
theorem GH_sub {P:Program} {ops:Array Oper} {L:List Grp} {fuel:Nat} {listed:Array Bool} {Q:F0} {n:Fr} {E E':Env} {W0:World} {H:List Grp} (hs:∀ s,s∈E'→s∈E) (k:GH P ops L fuel listed Q n E' W0 H):GH P ops L fuel listed Q n E W0 H :=
 fun a w ha=>k a w (ha.sub hs)
theorem GH_wi {P:Program} {ops:Array Oper} {L:List Grp} {fuel:Nat} {listed:Array Bool} {Q:F0} {n:Fr} {E:Env} {W0:World} {H:List Grp} (t:Nat) (x:Int) (h1:-9223372036854775808≤x) (h2:x≤9223372036854775807)
 (h:Env.find E t=some ⟨t,[],.int .i64 (IntKind.wrap .i64 x)⟩:=by kernel_rfl) (k:GH P ops L fuel listed Q n (setI E t x) W0 H):GH P ops L fuel listed Q n E W0 H:=GH_sub (setI_sub (w64 h1 h2) h) k
def hpo (P:Program) (ops:Array Oper) (n:Fr) (m i:Nat) (l:Array Bool) (E:List Sl):Option (List Sl) :=
 if (match ops[i]? with | some o=>noCall o | none=>false)&&(L5 ops i&&(Region.noSelect ops&&(Region.free .any ops l i&&(Region.ready .any ops l).contains i))) then P6 P (Q5 ops i) n [m] i E else none
def hps (P:Program) (ops:Array Oper) (n:Fr):List (Nat × Nat)→Array Bool→List Sl→Option (List Sl)
  | [],_,E=>some E
  | (i,m)::r,l,E=>match hpo P ops n m i l E with
    | some E1=>hps P ops n r (l.setIfInBounds i true) E1
    | none=>none
def hls:List (Nat × Nat)→Array Bool→Array Bool
 | [],l=>l
 | (i,_)::r,l=>hls r (l.setIfInBounds i true)
def hpv (P:Program) (ops:Array Oper) (n:Fr) (ms:List (Nat × Nat)) (l:Array Bool) (E:List Sl):List Sl:=(hps P ops n ms l E).getD []
theorem GH_hps {P:Program} {ops:Array Oper} {L:List Grp} {Q:F0} {n:Fr} {W0:World} {H:List Grp} (hL:∀ w,Sat W0 H w→Sat W0 L w):∀ (ms:List (Nat × Nat)) {fuel:Nat} {listed:Array Bool} {E E':Env},
    hps P ops n ms listed E=some E'→GH P ops L fuel (hls ms listed) Q n E' W0 H→GH P ops L (fuel+ms.length) listed Q n E W0 H
  | [],fuel,listed,E,E',h,k=>by
    rw [hps,Option.some.injEq] at h; subst h; exact k
  | (i,m)::r,fuel,listed,E,E',h,k=>by
    rw [hps] at h
    cases h1:hpo P ops n m i listed E with
    | none=>rw [h1] at h; cases h
    | some E1 =>
      rw [h1] at h
      have k1:GH P ops L (fuel+r.length) (listed.setIfInBounds i true) Q n E1 W0 H:=GH_hps hL r h k
      unfold hpo at h1
      rw [Option.ite_none_right_eq_some] at h1
      obtain ⟨hc,h1⟩:=h1
      refine GH_pure (E':=E1) i m hc hL ?_ k1
      rw [h1]
      show some (Env.only (E1.map Sl.t) E1)=some E1
      congr 1
      exact List.filter_eq_self.2 fun s hs=>by
        rw [List.contains_iff_mem]; exact List.mem_map.2 ⟨s,hs,rfl⟩
theorem G0 {P:Program} {ops:Array Oper} {L:List Grp} {fuel fuel':Nat} {listed:Array Bool} {Q:F0} {n:Fr} {E:Env} {W0:World} {H:List Grp} (ms:List (Nat × Nat)) (hL:∀ w,Sat W0 H w→Sat W0 L w)
  (h:(hps P ops n ms listed E).isSome=true:=by kernel_rfl) (hf:fuel'=fuel+ms.length:=by exact rfl) (k:GH P ops L fuel (hls ms listed) Q n (hpv P ops n ms listed E) W0 H):GH P ops L fuel' listed Q n E W0 H:=by
 subst hf
 refine GH_hps hL ms ?_ k
 unfold hpv
 cases hp:hps P ops n ms listed E with
 | none=>rw [hp] at h; cases h
 | some E1=>rfl
end Go.Sw
namespace Go.Sw
def u8s (l:List UInt8):List Value:=l.map fun b=>Value.int .u8 (b.toNat:Int)
theorem N5 {d:Bool} {P:Program} {ops:Array Oper} {i:Nat} {Q:F0} {n:Fr} {E:Env} {W0:World} {H:List Grp} {o:Oper} {ch:List (Nat × Bool)} {src dst e:TypeId} {x:Operand} {a:Addr} {cap:Nat} {S:Nat→Obj→Prop} (l:List UInt8)
  (ho:ops[i]? = some o:=by exact rfl) (hop:o.op=.convert src dst x:=by exact rfl) (hx:evO E ch x=some (.slice (some a) l.length cap):=by kernel_rfl) (hs:P.underlying src=some (.slice e):=by kernel_rfl) (he:P.underlying e=some (.int .u8):=by kernel_rfl) (hds:P.underlying dst=some .string:=by kernel_rfl)
  (hch:D7 ops E o.guard=some ch:=by kernel_rfl) (hd:G1 n ch o.dst=true:=by kernel_rfl) (hk:K5 E ch=true:=by kernel_rfl)
  (hrd:Rd S (some a) (u8s l)) (hS:∀ b o,S b o→At W0 H b o)
  (k:GL d P ops (i+1) Q n (Env.put E o.dst ch (.string ⟨l.toArray⟩)) W0 H):GL d P ops i Q n E W0 H:=by
 refine J1 ho hch hd hk (fun r hr _ w hsat=>?_) k
 unfold execOp
 simp only [hop]
 rw [hr _ _ hx]
 have:=Go.run_convert_bytes_back (P:=P) w src dst e a cap l hs he hds (fun j hj=>by
  have hv:(u8s l)[j]? = some (.int .u8 (l[j].toNat:Int)):=by simp [u8s,hj]
  obtain ⟨b,off,c,t,fz,h1,h2,h3,h4⟩:=hrd.elt hv
  have ha:a.add j=⟨b,off+j,none⟩:=h3
  rw [ha]
  exact T5 (hsat.at (hS _ _ h2)) h4)
 simp only [Sem.run_bind,Sem.run_pure,this,Result.andThen_ok]
 exact ⟨rfl,rfl⟩
theorem E9 {d:Bool} {P:Program} {ops:Array Oper} {i:Nat} {Q:F0} {n:Fr} {E:Env} {W0:World} {H:List Grp} {o:Oper} {ch:List (Nat × Bool)} {t e:TypeId} {x ix:Operand} {b off len sz:Nat} {kd:IntKind} {j:Int}
  (ho:ops[i]? = some o:=by exact rfl) (hop:o.op=.indexAddr t x ix:=by exact rfl) (hx:evO E ch x=some (.pointer (some ⟨b,off,none⟩)):=by kernel_rfl) (hix:evO E ch ix=some (.int kd j):=by kernel_rfl) (hu:P.underlying t=some (.array len e):=by kernel_rfl) (hsz:T3 P e=some sz:=by kernel_rfl)
  (hch:D7 ops E o.guard=some ch:=by kernel_rfl) (hd:G1 n ch o.dst=true:=by kernel_rfl) (hk:K5 E ch=true:=by kernel_rfl)
  (hb:chB E ch→0≤j∧j<len)
  (k:GL d P ops (i+1) Q n (Env.put E o.dst ch (.pointer (some ⟨b,off+j.toNat * sz,none⟩))) W0 H):GL d P ops i Q n E W0 H:=by
 refine J1 ho hch hd hk (fun r hr hcb w _=>?_) k
 obtain ⟨h0,h1⟩:=hb hcb
 unfold execOp
 simp only [hop]
 rw [hr _ _ hx,hr _ _ hix]
 simp only [Instr.indexAt,asIntOf,Instr.sureAddr,Sem.run_bind,Sem.run_pure,Result.andThen_ok,run_underlying hu,if_pos (⟨h0,h1⟩:0≤j∧j<(len:Int)),L4 hsz,O7]
 exact ⟨rfl,rfl⟩
end Go.Sw
namespace Go.Esc
open Go.Lib
abbrev bk (l:List UInt8):ByteArray:=⟨l.toArray⟩
theorem D0 (l:List UInt8):(bk l).size=l.length:=by simp [ByteArray.size]
def isR (p:Int):Prop:=0≤p∧p≤1114111∧(p<55296∨57343<p)
def runesF:Nat→List UInt8→List Int
 | 0,_=>[]
 | n+1,l=>if l=[] then [] else ((decodeL l).1:Int)::runesF n (l.drop (decodeL l).2)
def K6 (l:List UInt8):List Int:=runesF l.length l
def badL (l:List UInt8):Prop:=(decodeL l).1=65533∧(decodeL l).2=1
instance (l:List UInt8):Decidable (badL l):=by unfold badL; exact inferInstance
def ptsF:Nat→List UInt8→List Int
 | 0,_=>[]
 | n+1,l=>if l=[] then [] else (if badL l then -1 else ((decodeL l).1:Int))::ptsF n (l.drop (decodeL l).2)
def pts (l:List UInt8):List Int:=ptsF l.length l
theorem V7:∀ n,runesF n []=[]
 | 0=>rfl
 | _+1=>by simp [runesF]
theorem ptsF_nil:∀ n,ptsF n []=[]
 | 0=>rfl
 | _+1=>by simp [ptsF]
theorem runesF_fuel:∀ (n m:Nat) (l:List UInt8),l.length≤n→l.length≤m→runesF n l=runesF m l
  | 0,m,l,hn,_=>by
    have:l=[]:=List.eq_nil_of_length_eq_zero (by omega)
    subst this; rw [V7,V7]
  | n+1,0,l,_,hm=>by
    have:l=[]:=List.eq_nil_of_length_eq_zero (by omega)
    subst this; rw [V7,V7]
  | n+1,m+1,l,hn,hm=>by
    by_cases hne:l=[]
    subst hne; rw [V7,V7]
    have hw:=decodeL_width l
    have hl:0<l.length:=List.length_pos_iff.2 hne
    simp only [runesF,if_neg hne]
    rw [runesF_fuel n m _ (by rw [List.length_drop]; omega) (by rw [List.length_drop]; omega)]
theorem ptsF_fuel:∀ (n m:Nat) (l:List UInt8),l.length≤n→l.length≤m→ptsF n l=ptsF m l
  | 0,m,l,hn,_=>by
    have:l=[]:=List.eq_nil_of_length_eq_zero (by omega)
    subst this; rw [ptsF_nil,ptsF_nil]
  | n+1,0,l,_,hm=>by
    have:l=[]:=List.eq_nil_of_length_eq_zero (by omega)
    subst this; rw [ptsF_nil,ptsF_nil]
  | n+1,m+1,l,hn,hm=>by
    by_cases hne:l=[]
    subst hne; rw [ptsF_nil,ptsF_nil]
    have hw:=decodeL_width l
    have hl:0<l.length:=List.length_pos_iff.2 hne
    simp only [ptsF,if_neg hne]
    rw [ptsF_fuel n m _ (by rw [List.length_drop]; omega) (by rw [List.length_drop]; omega)]
theorem runes_nil:K6 []=[]:=rfl
theorem Y8 (l:List UInt8) (hne:l≠[]):K6 l=((decodeL l).1:Int)::K6 (l.drop (decodeL l).2):=by
 have hw:=decodeL_width l
 have hl:0<l.length:=List.length_pos_iff.2 hne
 unfold K6
 obtain ⟨n,hn⟩:∃ n,l.length=n+1:=⟨l.length - 1,by omega⟩
 rw [hn]; simp only [runesF,if_neg hne]
 rw [runesF_fuel n (l.drop (decodeL l).2).length _ (by rw [List.length_drop]; omega) (Nat.le_refl _)]
theorem pts_step (l:List UInt8) (hne:l≠[]):pts l=(if badL l then -1 else ((decodeL l).1:Int))::pts (l.drop (decodeL l).2):=by
 have hw:=decodeL_width l
 have hl:0<l.length:=List.length_pos_iff.2 hne
 unfold pts
 obtain ⟨n,hn⟩:∃ n,l.length=n+1:=⟨l.length - 1,by omega⟩
 rw [hn]; simp only [ptsF,if_neg hne]
 rw [ptsF_fuel n (l.drop (decodeL l).2).length _ (by rw [List.length_drop]; omega) (Nat.le_refl _)]
theorem rune_ind {M:List UInt8→Prop} (h0:M []) (h1:∀ l,l≠[]→M (l.drop (decodeL l).2)→M l) (l:List UInt8):M l:=by
  suffices ∀ n (l:List UInt8),l.length≤n→M l from this l.length l (Nat.le_refl _)
  intro n
  induction n with
  | zero=>intro l hl; rw [List.eq_nil_of_length_eq_zero (by omega:l.length=0)]; exact h0
  | succ n ih =>
    intro l hl
    by_cases hne:l=[]
    rw [hne]; exact h0
    have:=List.length_pos_iff.2 hne
    have hw:=decodeL_width l
    exact h1 l hne (ih _ (by rw [List.length_drop]; omega))
def fixP (p:Int):Int:=if p<0 then 65533 else p
theorem runes_pts (l:List UInt8):K6 l=(pts l).map fixP:=by
 refine rune_ind (M:=fun l=>K6 l=(pts l).map fixP) rfl (fun l hne ih=>?_) l
 rw [Y8 l hne,pts_step l hne,List.map_cons,ih]
 congr 1
 unfold fixP
 split
 rename_i h
 rw [if_pos (by decide)]
 show ((decodeL l).1:Int)=65533
 rw [h.1]; rfl
 rw [if_neg (by omega)]
theorem decodeL_isR (l:List UInt8):isR ((decodeL l).1:Int):=by
 rw [decodeL_N]
 have k0:=(l.getD 0 0).toNat_lt
 have k1:=(l.getD 1 0).toNat_lt
 have k2:=(l.getD 2 0).toNat_lt
 have k3:=(l.getD 3 0).toNat_lt
 unfold isR
 rcases decodeN_shape l.length (l.getD 0 0).toNat (l.getD 1 0).toNat (l.getD 2 0).toNat (l.getD 3 0).toNat with ⟨c,e⟩ | ⟨c1,c2,c3,cv,e⟩ | ⟨c1,c2,c3,c4,cv,cs,e⟩ | ⟨c1,c2,c3,c4,c5,cv,cw,e⟩ | e
 all_goals (rw [e]; dsimp only; omega)
theorem runes_isR (l:List UInt8):∀ p∈K6 l,isR p:=by
 refine rune_ind (M:=fun l=>∀ p∈K6 l,isR p) (by intro p hp; cases hp) (fun l hne ih=>?_) l
 rw [Y8 l hne]
 intro p hp
 rcases List.mem_cons.1 hp with rfl | hp
 exact decodeL_isR l
 exact ih p hp
def S6 (ps:List Int):List UInt8:=ps.flatMap encodeRune
theorem encL_nil:S6 []=[]:=rfl
theorem L3 (p:Int) (ps:List Int):S6 (p::ps)=encodeRune p++S6 ps:=rfl
theorem encL_app (a b:List Int):S6 (a++b)=S6 a++S6 b:=by simp [S6]
theorem byteZ (x:Int) (h0:0≤x) (h1:x<256):(x.toNat.toUInt8).toNat=x.toNat:=by
 rw [Nat.toUInt8,UInt8.toNat_ofNat']; exact Nat.mod_eq_of_lt (by omega)
theorem enc_one {p:Int} (h0:0≤p) (h1:p≤127):encodeRune p=[p.toNat.toUInt8]:=by unfold encodeRune; rw [encodeRuneZ_one h0 h1]; rfl
theorem decode_enc {p:Int} (h:isR p) (t:List UInt8):decodeL (encodeRune p++t)=(p.toNat,(encodeRune p).length)∧¬ badL (encodeRune p++t):=by
 unfold isR at h
 unfold badL
 rw [decodeL_N]
 unfold encodeRune
 by_cases h1:p≤127
 rw [encodeRuneZ_one (by omega) h1]
 simp only [List.map_cons,List.map_nil,List.cons_append,List.nil_append,List.length_cons,List.length_nil,List.getD_cons_zero,List.getD_cons_succ]
 have e:decodeN (t.length+1) (p.toNat.toUInt8).toNat (t.getD 0 0).toNat (t.getD 1 0).toNat (t.getD 2 0).toNat=(p.toNat,1):=by
  rw [byteZ p (by omega) (by omega)]; unfold decodeN; rw [if_pos (by omega)]
 rw [e]; refine ⟨rfl,fun hh=>?_⟩; have:=hh.1; dsimp only at this; omega
 by_cases h2:p≤2047
 rw [encodeRuneZ_two (by omega) h2]
 simp only [List.map_cons,List.map_nil,List.cons_append,List.nil_append,List.length_cons,List.length_nil,List.getD_cons_zero,List.getD_cons_succ]
 have e:decodeN (t.length+1+1) ((192+p / 64).toNat.toUInt8).toNat ((128+p % 64).toNat.toUInt8).toNat (t.getD 0 0).toNat (t.getD 1 0).toNat=(p.toNat,2):=by
  rw [byteZ _ (by omega) (by omega),byteZ _ (by omega) (by omega)]; unfold decodeN
  rw [if_neg (by omega),if_pos (by omega),if_pos (by omega)]
  exact Prod.ext (by dsimp only; omega) rfl
 rw [e]; refine ⟨rfl,fun hh=>?_⟩; have:=hh.2; dsimp only at this; omega
 by_cases h3:p≤65535
 rw [encodeRuneZ_three (by omega)]
 simp only [List.map_cons,List.map_nil,List.cons_append,List.nil_append,List.length_cons,List.length_nil,List.getD_cons_zero,List.getD_cons_succ]
 have e:decodeN (t.length+1+1+1) ((224+p / 4096).toNat.toUInt8).toNat ((128+p / 64 % 64).toNat.toUInt8).toNat ((128+p % 64).toNat.toUInt8).toNat (t.getD 0 0).toNat=(p.toNat,3):=by
  rw [byteZ _ (by omega) (by omega),byteZ _ (by omega) (by omega),byteZ _ (by omega) (by omega)]; unfold decodeN
  rw [if_neg (by omega),if_neg (by omega),if_pos (by omega),if_pos (by omega)]
  exact Prod.ext (by dsimp only; omega) rfl
 rw [e]; refine ⟨rfl,fun hh=>?_⟩; have:=hh.2; dsimp only at this; omega
 rw [encodeRuneZ_four (by omega) (by omega)]
 simp only [List.map_cons,List.map_nil,List.cons_append,List.nil_append,List.length_cons,List.length_nil,List.getD_cons_zero,List.getD_cons_succ]
 have e:decodeN (t.length+1+1+1+1) ((240+p / 262144).toNat.toUInt8).toNat ((128+p / 4096 % 64).toNat.toUInt8).toNat ((128+p / 64 % 64).toNat.toUInt8).toNat ((128+p % 64).toNat.toUInt8).toNat=(p.toNat,4):=by
  rw [byteZ _ (by omega) (by omega),byteZ _ (by omega) (by omega),byteZ _ (by omega) (by omega),byteZ _ (by omega) (by omega)]; unfold decodeN
  rw [if_neg (by omega),if_neg (by omega),if_neg (by omega),if_pos (by omega),if_pos (by omega)]
  exact Prod.ext (by dsimp only; omega) rfl
 rw [e]; refine ⟨rfl,fun hh=>?_⟩; have:=hh.2; dsimp only at this; omega
theorem enc_ne (p:Int) (t:List UInt8):encodeRune p++t≠[]:=by
 have:=(encodeRuneZ_length p).1
 intro h
 have:=congrArg List.length h
 simp only [encodeRune,List.length_append,List.length_map,List.length_nil] at this
 omega
theorem runes_enc1 {p:Int} (h:isR p) (t:List UInt8):K6 (encodeRune p++t)=p::K6 t:=by
 rw [Y8 _ (enc_ne p t),(decode_enc h t).1]
 dsimp only
 rw [List.drop_left]
 congr 1
 have:=h.1; omega
theorem runes_enc:∀ {ps:List Int},(∀ p∈ps,isR p)→∀ t,K6 (S6 ps++t)=ps++K6 t
 | [],_,t=>rfl
 | p::ps,h,t=>by rw [L3,List.append_assoc,runes_enc1 (h p List.mem_cons_self),runes_enc (fun q hq=>h q (List.mem_cons_of_mem _ hq)),List.cons_append]
theorem runes_enc0 {ps:List Int} (h:∀ p∈ps,isR p):K6 (S6 ps)=ps:=by
 have:=runes_enc h []; rwa [List.append_nil,runes_nil,List.append_nil] at this
def K4 (l:List UInt8):Bool:=(pts l).all fun p=>decide (0≤p)
theorem validP_D (l:List UInt8):K4 l=validD l:=by
 refine rune_ind (M:=fun l=>K4 l=validD l) rfl (fun l hne ih=>?_) l
 rw [validD_step l hne,← ih]
 unfold K4
 rw [pts_step l hne,List.all_cons]
 by_cases hb:badL l
 rw [if_pos hb,if_pos (show _∧_ from hb)]; rfl
 rw [if_neg hb,if_neg (show ¬ (_∧_) from hb),decide_eq_true (Int.natCast_nonneg _)]; rfl
end Go.Esc
namespace Go.Esc
def C7 (rep:UInt8→Option (List UInt8)) (l:List UInt8):List UInt8:=l.flatMap fun b=>(rep b).getD [b]
def gainR (rep:UInt8→Option (List UInt8)) (b:UInt8):Int:=match rep b with | some t=>(t.length:Int) - 1 | none=>0
theorem outR_nil (rep:UInt8→Option (List UInt8)):C7 rep []=[]:=rfl
theorem Y9 (rep:UInt8→Option (List UInt8)) (b:UInt8) (l:List UInt8):C7 rep (b::l)=(rep b).getD [b]++C7 rep l:=rfl
theorem N9 (rep:UInt8→Option (List UInt8)) (l m:List UInt8):C7 rep (l++m)=C7 rep l++C7 rep m:=by simp [C7]
theorem gain_len (rep:UInt8→Option (List UInt8)) (b:UInt8):(((rep b).getD [b]).length:Int)=1+gainR rep b:=by
 unfold gainR
 cases rep b <;> simp; omega
theorem outR_len (rep:UInt8→Option (List UInt8)) (l:List UInt8):((C7 rep l).length:Int)=l.length+(l.map (gainR rep)).sum:=by
  induction l with
  | nil=>rfl
  | cons b l ih =>
    rw [Y9,List.length_append,Int.natCast_add,gain_len,ih]
    simp only [List.map_cons,List.sum_cons,List.length_cons]
    omega
theorem outR_same (rep:UInt8→Option (List UInt8)) (l:List UInt8) (h:∀ b∈l,rep b=none):C7 rep l=l:=by
  induction l with
  | nil=>rfl
  | cons b l ih =>
    rw [Y9,h b List.mem_cons_self,ih fun x hx=>h x (List.mem_cons_of_mem _ hx)]
    rfl
def D3 (b:UInt8):Option (List UInt8) :=
 if b=38 then some [38,97,109,112,59] else if b=60 then some [38,108,116,59] else if b=62 then some [38,103,116,59] else if b=34 then some [38,113,117,111,116,59] else if b=39 then some [38,35,51,57,59] else none
theorem htmlR_count (l:List UInt8):((C7 D3 l).length:Int)=l.length+(l.count 39:Int) * 4+(l.count 34:Int) * 5+(l.count 62:Int) * 3+(l.count 60:Int) * 3+(l.count 38:Int) * 4:=by
  rw [outR_len]
  induction l with
  | nil=>rfl
  | cons b l ih =>
    simp only [List.map_cons,List.sum_cons,List.length_cons,List.count_cons]
    have hg:gainR D3 b=(if (b==39)=true then 4 else 0)+(if (b==34)=true then 5 else 0)+(if (b==62)=true then 3 else 0)+(if (b==60)=true then 3 else 0)+(if (b==38)=true then 4 else 0):=by
      unfold gainR D3
      by_cases h1:b=38
      subst h1; rfl
      by_cases h2:b=60
      subst h2; rfl
      by_cases h3:b=62
      subst h3; rfl
      by_cases h4:b=34
      subst h4; rfl
      by_cases h5:b=39
      subst h5; rfl
      simp [h1,h2,h3,h4,h5]
    rw [hg]
    split <;> split <;> split <;> split <;> split <;> omega
theorem htmlR_same (l:List UInt8) (h1:l.count 39=0) (h2:l.count 34=0) (h3:l.count 62=0) (h4:l.count 60=0) (h5:l.count 38=0):C7 D3 l=l:=by
 refine outR_same _ _ fun b hb=>?_
 unfold D3
 rw [List.count_eq_zero] at h1 h2 h3 h4 h5
 have n1:b≠39:=by rintro rfl; exact h1 hb
 have n2:b≠34:=by rintro rfl; exact h2 hb
 have n3:b≠62:=by rintro rfl; exact h3 hb
 have n4:b≠60:=by rintro rfl; exact h4 hb
 have n5:b≠38:=by rintro rfl; exact h5 hb
 rw [if_neg n5,if_neg n4,if_neg n3,if_neg n2,if_neg n1]
end Go.Esc
namespace Go.Esc
open Go.Lib
def hexl (n:Nat):UInt8:=if n<10 then UInt8.ofNat (48+n) else UInt8.ofNat (87+n)
def N6 (p:Int):Bool:=(decide (32≤p)&&(p != 65534)&&(p != 65535))||p==9||p==10||p==13
def I0 (l:List UInt8):List UInt8:=S6 ((K6 l).filter N6)
def A0d (l:List UInt8):List UInt8:=C7 D3 (I0 l)
def hex4 (n:Nat):List UInt8:=[hexl (n / 4096 % 16),hexl (n / 256 % 16),hexl (n / 16 % 16),hexl (n % 16)]
def jsonP (p:Int):List UInt8 :=
 if p=34∨p=92 then 92::encodeRune p else if p=10 then [92,110] else if p=13 then [92,114] else if p=9 then [92,116]
 else if p<32∨p=127∨p=8232∨p=8233∨p=60∨p=62∨p=38 then 92::117::hex4 p.toNat else encodeRune p
def jsonL (l:List UInt8):List UInt8:=34::((K6 l).flatMap jsonP++[34])
def digC (x:Int):Int:=if 48≤x∧x≤57 then x - 48 else if 97≤x∧x≤102 then x - 97+10 else if 65≤x∧x≤70 then x - 65+10 else -1
def W9 (x base:Int):Int:=if base≤digC x then -1 else digC x
def numV (base:Int):Int→List UInt8→Option Int
 | a,[]=>some a
 | a,c::t=>if W9 (c.toNat:Int) base<0 then none else numV base (base * a+W9 (c.toNat:Int) base) t
def isB (n:Int):Bool:=(decide (n ≥ 0)&&decide (n≤1114111))&&(decide (n<55296)||decide (n > 57343))
theorem isB_iff {n:Int}:isB n=true ↔ isR n:=by unfold isB isR; simp only [Bool.and_eq_true,Bool.or_eq_true,decide_eq_true_eq]; omega
theorem isBf_iff {n:Int}:isB n=false ↔ ¬ isR n:=by rw [← isB_iff,Bool.not_eq_true]
def K9 (t:List UInt8) (base:Int) (most:Nat):Int :=
 if t.length=0∨most<t.length then -1 else match numV base 0 t with
  | none=>-1
  | some n=>if n=0∨isB n=false then -1 else n
def refM (t:List UInt8):Int :=
 if t=[97,109,112] then 38 else if t=[108,116] then 60 else if t=[103,116] then 62 else if t=[113,117,111,116] then 34 else if t=[97,112,111,115] then 39
 else if t.take 2=[35,120] then K9 (t.drop 2) 16 6 else if t.take 2=[35,88] then K9 (t.drop 2) 16 6 else if t.take 1=[35] then K9 (t.drop 1) 10 7 else -1
def idxL (c:UInt8) (l:List UInt8):Nat:=l.findIdx (·==c)
def X7 (l:List UInt8):Int × Nat:=let e:=idxL 59 l; if e<l.length then (refM (l.take e),e+1) else (-1,0)
def unF:Nat→List UInt8→List UInt8
 | 0,l=>l
 | _+1,[]=>[]
 | n+1,b::t=>if b≠38 then b::unF n t else if (X7 t).1<0 then 38::unF n t else encodeRune (X7 t).1++unF n (t.drop (X7 t).2)
def unL (l:List UInt8):List UInt8:=unF l.length l
theorem unF_nil:∀ n,unF n []=[]
 | 0=>rfl
 | _+1=>rfl
theorem unF_fuel:∀ (n m:Nat) (l:List UInt8),l.length≤n→l.length≤m→unF n l=unF m l
  | _,_,[],_,_=>by rw [unF_nil,unF_nil]
  | 0,_,_::_,h,_=>by simp at h
  | _+1,0,_::_,_,h=>by simp at h
  | n+1,m+1,b::t,hn,hm=>by
    simp only [List.length_cons] at hn hm
    simp only [unF]
    rw [unF_fuel n m t (by omega) (by omega),unF_fuel n m (t.drop (X7 t).2) (by rw [List.length_drop]; omega) (by rw [List.length_drop]; omega)]
theorem unL_nil:unL []=[]:=rfl
theorem Q7 (b:UInt8) (t:List UInt8):unL (b::t)=if b≠38 then b::unL t else if (X7 t).1<0 then 38::unL t else encodeRune (X7 t).1++unL (t.drop (X7 t).2):=by
 show unF (t.length+1) (b::t)=_
 simp only [unF]
 unfold unL
 rw [unF_fuel t.length (t.drop (X7 t).2).length _ (by rw [List.length_drop]; omega) (Nat.le_refl _)]
theorem unL_app:∀ (p l:List UInt8),(∀ b∈p,b≠38)→unL (p++l)=p++unL l
 | [],l,_=>rfl
 | b::p,l,h=>by rw [List.cons_append,Q7,if_pos (h b List.mem_cons_self),unL_app p l (fun x hx=>h x (List.mem_cons_of_mem _ hx)),List.cons_append]
def unitM (l:List UInt8):Int:=if l.length<6∨l.take 2≠[92,117] then -1 else (numV 16 0 ((l.drop 2).take 4)).getD (-1)
def oneEsc (c:UInt8):Int:=if c=34 then 34 else if c=92 then 92 else if c=47 then 47 else if c=98 then 8 else if c=102 then 12 else if c=110 then 10 else if c=114 then 13 else if c=116 then 9 else -1
def escM (l:List UInt8):Int × Nat :=
 if l.length<2 then (-1,0) else if 0≤oneEsc (l.getD 1 0) then (oneEsc (l.getD 1 0),2)
 else if 55296≤unitM l∧unitM l<56320 then (if unitM (l.drop 6)<56320∨57343<unitM (l.drop 6) then (-1,0) else (65536+(unitM l - 55296) * 1024+unitM (l.drop 6) - 56320,12))
 else if 56320≤unitM l∧unitM l<57344 then (-1,0) else (unitM l,6)
def ujF:Nat→List UInt8→Option (List UInt8)
 | 0,_=>some []
 | _+1,[]=>some []
 | n+1,c::t=>if c<32∨c=34 then none else if c≠92 then (ujF n t).map (c::·) else if (escM (c::t)).1<0 then none else (ujF n ((c::t).drop (escM (c::t)).2)).map (encodeRune (escM (c::t)).1++·)
def ujL (l:List UInt8):Option (List UInt8):=ujF l.length l
end Go.Esc
namespace Go.Esc
open Go.Lib
theorem enc_len (p:Int):1≤(encodeRune p).length∧(encodeRune p).length≤4:=by
 have:=encodeRuneZ_length p
 simpa [encodeRune] using this
theorem encL_len:∀ ps:List Int,(S6 ps).length≤4 * ps.length
  | []=>Nat.le_refl _
  | p::ps=>by
    rw [L3,List.length_append,List.length_cons]
    have:=(enc_len p).2
    have:=encL_len ps
    omega
theorem runes_len (l:List UInt8):(K6 l).length≤l.length:=by
 refine rune_ind (M:=fun l=>(K6 l).length≤l.length) (Nat.le_refl _) (fun l hne ih=>?_) l
 have hl:=List.length_pos_iff.2 hne
 have hw:=decodeL_width l
 rw [Y8 l hne,List.length_cons]
 rw [List.length_drop] at ih
 omega
theorem plain_len (l:List UInt8):(I0 l).length≤4 * l.length:=by
 have h1:=encL_len ((K6 l).filter N6)
 have h2:=List.length_filter_le N6 (K6 l)
 have h3:=runes_len l
 unfold I0; omega
theorem numV_nil (base a:Int):numV base a []=some a:=rfl
theorem W7 (base a:Int) (c:UInt8) (t:List UInt8):numV base a (c::t)=if W9 (c.toNat:Int) base<0 then none else numV base (base * a+W9 (c.toNat:Int) base) t:=rfl
theorem digC_rng (x:Int):-1≤digC x∧digC x≤15:=by unfold digC; (repeat' split) <;> omega
theorem digB_rng (x base:Int) (hb:0≤base):-1≤W9 x base∧(W9 x base<base):=by
 have:=digC_rng x
 unfold W9; split <;> omega
theorem M4 (l:List UInt8) {k:Nat} (h:k<l.length):l.drop k=l.getD k 0::l.drop (k+1):=by
 rw [List.drop_eq_getElem_cons h]; congr 1; simp [List.getD,h]
end Go.Esc
namespace Go.Sw
open Go.RowKit
theorem baEq {a b:ByteArray}:(a==b)=true ↔ a=b:=by
 constructor
 intro h
 have h':(a.data==b.data)=true:=h
 cases a; cases b; simpa using h'
 intro h
 subst h
 show (a.data==a.data)=true
 simp
theorem baNe {a b:ByteArray}:(a==b)=false ↔ a≠b:=by
 rw [← Bool.not_eq_true,ne_eq,baEq]
abbrev SM:=List (ByteArray × Value × Nat)
def entM (e:ByteArray × Value × Nat):MapEntry:=⟨.string e.1,e.2.1,e.2.2⟩
def G2 (m:SM):Array MapEntry:=(m.map entM).toArray
def mfind (k:ByteArray):SM→Nat→Option (Nat × Value)
 | [],_=>none
 | e::r,i=>if k==e.1 then some (i,e.2.1) else mfind k r (i+1)
def mget (m:SM) (k:ByteArray):Option Value:=(mfind k m 0).map (·.2)
def K3:SM→Nat→ByteArray→Value→SM
 | [],c,k,v=>[(k,v,c)]
 | e::r,c,k,v=>if k==e.1 then (k,v,e.2.2)::r else e::K3 r c k v
def V6 (m:SM) (k:ByteArray):Bool:=m.any fun e=>k==e.1
theorem findNow_enc (k:ByteArray):∀ (m:SM) (i:Nat),Instr.findNow .string (.string k) (m.map entM) i=some (mfind k m i)
  | [],i=>rfl
  | e::r,i=>by
    simp only [List.map_cons,Instr.findNow,entM,Instr.sameNow,mfind]
    cases h:k==e.1
    simp only [Bool.false_eq_true,if_false]; exact findNow_enc k r (i+1)
    simp
theorem run_checkKey {P:Program} {b:Bool} {kt:TypeId} (h:P.underlying kt=some .string) (k:ByteArray) (w:World):∀ d,(Instr.checkKey b (d+1) kt (.string k)).run P w=.ok () w:=by
 intro d
 simp [Instr.checkKey,run_underlying h]
theorem run_findKey {P:Program} {kt:TypeId} (h:P.underlying kt=some .string) (k:ByteArray) (m:SM) (w:World):(Instr.findKey kt (.string k) (G2 m).toList).run P w=.ok (mfind k m 0) w:=by
 simp only [Instr.findKey,Sem.run_bind,run_underlying h,Result.andThen_ok,G2,List.toList_toArray,findNow_enc]
 rfl
theorem S5 {P:Program} {w:World} {r:Nat} {es:Array MapEntry} {c:Nat} (h:w.heap[r]? = some (.map es c)):(getObj r).run P w=.ok (.map es c) w:=by
 simp [getObj,Sem.run,h]
def lookV (ok:Bool) (z:Value):Option Value→Value
 | some v=>if ok then .tuple #[v,.bool true] else v
 | none=>if ok then .tuple #[z,.bool false] else z
theorem Z6 {d:Bool} {P:Program} {ops:Array Oper} {i:Nat} {Q:F0} {n:Fr} {E:Env} {W0:World} {H:List Grp} {o:Oper} {ch:List (Nat × Bool)} {t kt et:TypeId} {x ix:Operand} {ok:Bool} {r c:Nat} {m:SM} {k:ByteArray} {z:Value} {ov:Option Value}
  (ho:ops[i]? = some o:=by exact rfl) (hop:o.op=.lookup t x ix ok:=by exact rfl) (hx:evO E ch x=some (.map (some r)):=by kernel_rfl) (hix:evO E ch ix=some (.string k):=by kernel_rfl) (hu:P.underlying t=some (.map kt et):=by kernel_rfl) (hkt:P.underlying kt=some .string:=by kernel_rfl) (hz:zeroV P et=some z:=by kernel_rfl)
  (hch:D7 ops E o.guard=some ch:=by kernel_rfl) (hd:G1 n ch o.dst=true:=by kernel_rfl) (hk:K5 E ch=true:=by kernel_rfl)
  (hA:At W0 H r (.map (G2 m) c)) (hg:chB E ch→mget m k=ov)
  (kk:GL d P ops (i+1) Q n (Env.put E o.dst ch (lookV ok z ov)) W0 H):GL d P ops i Q n E W0 H:=by
 refine J1 ho hch hd hk (fun rr hr hcb w hs=>?_) kk
 have hg':=hg hcb
 unfold mget at hg'
 unfold execOp
 simp only [hop]
 rw [hr _ _ hx,hr _ _ hix]
 have hck:=run_checkKey (P:=P) (b:=(G2 m).isEmpty) hkt k w 9999
 simp only [Instr.lookup,Sem.run_bind,run_underlying hu,Result.andThen_ok,S5 (hs.at hA),Sem.run_pure]
 rw [hck]
 simp only [Result.andThen_ok,run_findKey hkt]
 cases hf:mfind k m 0 with
 | none=>rw [hf] at hg'; simp at hg'; subst hg'; simp only [Sem.run_bind,W2 hz,Result.andThen_ok,Sem.run_pure]; exact ⟨rfl,by cases ok <;> rfl⟩
 | some p=>rw [hf] at hg'; simp at hg'; subst hg'; exact ⟨rfl,by cases ok <;> rfl⟩
theorem Wr_setObj {P:Program} {w:World} {b:Nat} {o o':Obj} (h:w.heap[b]? = some o) (hc:(match o with | .cells ..=>false | _=>true)=true) :
  ∃ w',(setObj b o').run P w=.ok () w'∧Wr b o' w w':=by
 have hb:b<w.heap.size:=by
  rcases Nat.lt_or_ge b w.heap.size with h' | h'
  exact h'
  simp [Array.getElem?_eq_none h'] at h
 refine ⟨{ w with heap:=w.heap.setIfInBounds b o' },?_,rfl,rfl,rfl,by simp,by simp [hb],fun k hk=>?_⟩
 simp only [setObj,Sem.run,h]
 cases o <;> simp at hc <;> rfl
 show (w.heap.setIfInBounds b o')[k]? = _
 rw [Array.getElem?_setIfInBounds_ne (fun e=>hk e.symm)]
theorem mfind_put {k:ByteArray}:∀ (m:SM) (i:Nat) (c:Nat) (v:Value),(mfind k m i=none→K3 m c k v=m++[(k,v,c)]∧V6 m k=false) ∧
    (∀ j u,mfind k m i=some (j,u)→i≤j∧V6 m k=true∧(m.map entM).toArray.modify (j - i) (fun e=>{ e with key:=.string k,val:=v })=(K3 m c k v |>.map entM).toArray∧((m.map entM)[j - i]?).isSome=true∧(∃ k',((m.map entM)[j - i]?).map (·.key)=some (.string k')∧(k==k')=true))
  | [],i,c,v=>by
    constructor
    intro _; exact ⟨rfl,rfl⟩
    intro j u h; simp [mfind] at h
  | e::r,i,c,v=>by
    obtain ⟨ih1,ih2⟩:=mfind_put (k:=k) r (i+1) c v
    simp only [mfind,K3,V6,List.any_cons]
    cases hk:k==e.1
    simp only [Bool.false_eq_true,if_false,Bool.false_or]
    constructor
    intro h; obtain ⟨h1,h2⟩:=ih1 h; exact ⟨by rw [h1]; rfl,h2⟩
    intro j u h
    obtain ⟨h1,h2,h3,h4,h5⟩:=ih2 j u h
    refine ⟨by omega,h2,?_,?_,?_⟩
    have e1:j - i=(j - (i+1))+1:=by omega
    apply Array.ext'
    have h3':=congrArg Array.toList h3
    simp only [Array.toList_modify] at h3' ⊢
    rw [e1,List.map_cons,List.modify_succ_cons,h3',List.map_cons]
    have e1:j - i=(j - (i+1))+1:=by omega
    rw [e1,List.map_cons,List.getElem?_cons_succ]; exact h4
    have e1:j - i=(j - (i+1))+1:=by omega
    rw [e1,List.map_cons,List.getElem?_cons_succ]; exact h5
    simp only [if_true,Bool.true_or]
    constructor
    intro h; simp at h
    intro j u h
    simp only [Option.some.injEq,Prod.mk.injEq] at h
    obtain ⟨rfl,_⟩:=h
    refine ⟨Nat.le_refl _,trivial,?_,?_,?_⟩
    apply Array.ext'
    simp [entM]
    simp
    exact ⟨e.1,by simp [entM],hk⟩
theorem run_mapUpdate {P:Program} {t kt et:TypeId} (hu:P.underlying t=some (.map kt et)) (hkt:P.underlying kt=some .string) {w:World} {r c:Nat} {m:SM} (h:w.heap[r]? = some (.map (G2 m) c)) (k:ByteArray) (v:Value) :
    ∃ w',(Instr.mapUpdate t (.map (some r)) (.string k) v).run P w=.ok () w'∧Wr r (.map (G2 (K3 m c k v)) (if V6 m k then c else c+1)) w w':=by
  have hck:=run_checkKey (P:=P) (b:=false) hkt k w 9999
  obtain ⟨hp1,hp2⟩:=mfind_put (k:=k) m 0 c v
  cases hf:mfind k m 0 with
  | none =>
    obtain ⟨h1,h2⟩:=hp1 hf
    obtain ⟨w',hr',hw'⟩:=Wr_setObj (P:=P) h (o':=.map (G2 (K3 m c k v)) (c+1)) rfl
    refine ⟨w',?_,by rw [h2]; exact hw'⟩
    simp only [Instr.mapUpdate,Sem.run_bind,run_underlying hu,Result.andThen_ok,S5 h]
    rw [hck]
    simp only [Result.andThen_ok,run_findKey hkt,hf]
    rw [← hr']
    congr 3
    rw [h1]
    simp [G2,entM]
  | some p =>
    obtain ⟨j,u⟩:=p
    obtain ⟨_,h2,h3,h4,k',h5,h6⟩:=hp2 j u hf
    simp only [Nat.sub_zero] at h3 h4 h5
    obtain ⟨w',hr',hw'⟩:=Wr_setObj (P:=P) h (o':=.map (G2 (K3 m c k v)) c) rfl
    refine ⟨w',?_,by rw [h2]; exact hw'⟩
    simp only [Instr.mapUpdate,Sem.run_bind,run_underlying hu,Result.andThen_ok,S5 h]
    rw [hck]
    simp only [Result.andThen_ok,run_findKey hkt,hf]
    have hks:(Instr.keyThatStays ((((G2 m)[j]?).map (·.key)).getD (.string k)) (.string k)).run P w=.ok (.string k) w:=by
      have e1:((G2 m)[j]?).map (·.key)=some (.string k'):=by rw [← h5]; simp [G2]
      have e2:(k'==k)=true:=by
        rw [baEq] at h6 ⊢
        exact h6.symm
      rw [e1]
      simp only [Option.getD_some,Instr.keyThatStays]
      have:Instr.sameBits 10000 (.string k') (.string k)=true:=by
        show Instr.sameBits (9999+1) _ _=true
        simpa [Instr.sameBits] using e2
      rw [if_pos this]
      rfl
    simp only [Sem.run_bind,hks,Result.andThen_ok]
    rw [← hr']
    congr 3
theorem N4 {P:Program} {ops:Array Oper} {i:Nat} {Q:F0} {n:Fr} {E:Env} {W0:World} {H H':List Grp} {o:Oper} {ch:List (Nat × Bool)} {t kt et:TypeId} {x y u:Operand} {r c j q:Nat} {m:SM} {k:ByteArray} {v:Value} {g:Grp}
    (ho:ops[i]? = some o:=by exact rfl) (hop:o.op=.mapUpdate t x y u∨o.op=.insert t x y u) (hx:evO E ch x=some (.map (some r)):=by kernel_rfl) (hy:evO E ch y=some (.string k):=by kernel_rfl) (hv:evO E ch u=some v:=by kernel_rfl)
    (hu:P.underlying t=some (.map kt et):=by kernel_rfl) (hkt:P.underlying kt=some .string:=by kernel_rfl)
    (hch:D7 ops E o.guard=some ch:=by kernel_rfl) (hd:G1 n ch o.dst=true:=by kernel_rfl) (hsure:M5 E ch=true:=by kernel_rfl)
    (hj:H[j]? = some g:=by exact rfl) (hi:g[q]? = some (r,.map (G2 m) c):=by exact rfl) (hH':H.set j (g.set q (r,.map (G2 (K3 m c k v)) (if V6 m k then c else c+1)))=H':=by exact rfl)
    (kk:GL false P ops (i+1) Q n (Env.put E o.dst ch undef) W0 H'):GL false P ops i Q n E W0 H:=by
  refine GL_eff (R:=fun v H1=>v=undef∧H1=H') ho hch hd hsure (fun rr hr w hs=>?_) (by rintro v H1 ⟨rfl,rfl⟩; exact kk)
  have hblk:=hs.has _ (List.mem_flatten.2 ⟨g,List.mem_of_getElem? hj,List.mem_of_getElem? hi⟩)
  obtain ⟨w',hr',hw'⟩:=run_mapUpdate hu hkt hblk k v
  refine ⟨undef,w',H',⟨rfl,rfl⟩,by rw [← hH']; exact hs.wr hj hi hw',.inr ⟨?_,rfl⟩⟩
  unfold execOp
  rcases hop with hop | hop <;>
    (simp only [hop]
     rw [hr _ _ hx,hr _ _ hy,hr _ _ hv]
     simp only [Sem.run_bind,hr',Result.andThen_ok]
     rfl)
structure MapOk (m:SM) (c:Nat):Prop where
 keys:m.Pairwise fun x y=>(x.1==y.1)=false
 born:(m.map (·.2.2)).Nodup
 lt:∀ e,e∈m→e.2.2<c
theorem run_getObj_iter {P:Program} {w:World} {r:Nat} {o:Obj} (h:w.heap[r]? = some o) (hc:(match o with | .cells ..=>false | _=>true)=true):(getObj r).run P w=.ok o w:=by
 cases o <;> simp at hc <;> simp [getObj,Sem.run,h]
end Go.Sw
namespace Go.Sw
theorem R3 {d:Bool} {P:Program} {ops:Array Oper} {i:Nat} {Q:F0} {n:Fr} {E:Env} {W0:World} {H:List Grp} {o:Oper} {ch:List (Nat × Bool)} {c:Call} {fo:Operand} {f:FuncId} {vs:List Value}
  {fn:Func} {v:Value} {e:Array Value→Sem Value}
  (ho:ops[i]? = some o:=by exact rfl) (hop:o.op=.call c:=by exact rfl) (hce:c.callee=.value fo:=by exact rfl) (hfo:evO E ch fo=some (.func (.func f) #[] #[]):=by kernel_rfl) (hargs:evL (evO E ch) c.args.toList=some vs:=by kernel_rfl)
  (hf : P.funcs[f]? = some fn) (hrt : (fn.name == "runtime.NumGoroutine") = false := by kernel_rfl) (hbody : fn.body.isNone = true := by exact rfl) (hn : Extern.findNext fn = none := by kernel_rfl) (he : Extern.find fn = some e := by kernel_rfl)
  (hch:D7 ops E o.guard=some ch:=by kernel_rfl) (hd:G1 n ch o.dst=true:=by kernel_rfl) (hk:K5 E ch=true:=by kernel_rfl)
  (hrun:∀ w,(e vs.toArray).run P w=.ok v w)
  (k:GL d P ops (i+1) Q n (Env.put E o.dst ch v) W0 H):GL d P ops i Q n E W0 H:=by
 refine J1 ho hch hd hk (fun r hr hcb w hs=>?_) k
 have hrun':(execOp r o).run P w=.ok (.value v) w:=by
  unfold execOp
  simp only [hop]
  simp only [resolve,hce]
  rw [hr _ _ hfo,P0 hr hargs]
  simp only [Deferred.ofValue,Sem.run_bind,Sem.run_pure,Result.andThen_ok,invoke]
  have:=run_callFunc_extern hf hrt hbody hn he vs.toArray w
  simp only [Array.empty_append,Array.append_empty,this,hrun,Result.andThen_ok]
 rw [hrun']
 exact ⟨rfl,rfl⟩
def noB (s:ByteArray) (c:Int) (k:Nat):Prop:=∀ j:Nat,j<k→B2 s j≠c
theorem byteAt_get {s:ByteArray} {k:Nat} (h:k<s.size):B2 s k=((s[k]!).toNat:Int):=by
 unfold B2
 have e1:s[k]! = s[k]:=getElem!_pos s k h
 have e2:(s.data.toList)[((k:Nat):Int).toNat]? = some s[k]:=by
  rw [Int.toNat_natCast,List.getElem?_eq_getElem (by simpa using h)]; rfl
 rw [e1,e2]; rfl
def bIdx (s:ByteArray) (c:Int):Int:=firstIdx s c.toNat.toUInt8
theorem bIdx_spec (s:ByteArray) {c:Int} (h0:0≤c) (h1:c<256) :
    (∃ k:Nat,k<s.size∧bIdx s c=k∧B2 s k=c∧noB s c k)∨(bIdx s c=-1∧noB s c s.size):=by
  have hc:∀ b:UInt8,(b==c.toNat.toUInt8)=true ↔ ((b.toNat:Nat):Int)=c:=by
    intro b
    rw [beq_iff_eq]
    constructor
    intro h; rw [h]; simp [Nat.toUInt8]; omega
    intro h; apply UInt8.toNat_inj.1; simp [Nat.toUInt8]; omega
  unfold bIdx firstIdx
  cases hf:(List.range s.size).find? fun i=>s[i]! == c.toNat.toUInt8 with
  | none =>
    right
    refine ⟨rfl,fun j hj he=>?_⟩
    have:=List.find?_eq_none.1 hf j (List.mem_range.2 hj)
    rw [hc,← byteAt_get hj] at this
    exact this he
  | some k =>
    left
    have hk:=List.mem_range.1 (List.mem_of_find?_eq_some hf)
    refine ⟨k,hk,rfl,?_,fun j hj he=>?_⟩
    have:=List.find?_some hf
    rw [byteAt_get hk]; exact (hc _).1 this
    rw [List.find?_range_eq_some] at hf
    have:=hf.2.2 j hj
    rw [byteAt_get (by omega)] at he
    have h2:=(hc s[j]!).2 he
    simp [h2] at this
theorem bIdx_eq {s:ByteArray} {c:Int} {k:Nat} (h0:0≤c) (h1:c<256) (hk:k<s.size) (hb:B2 s k=c) (hn:noB s c k):bIdx s c=k:=by
 rcases bIdx_spec s h0 h1 with ⟨j,hj,he,hb',hn'⟩ | ⟨_,hn'⟩
 rcases Nat.lt_trichotomy j k with h | h | h
 exact absurd hb' (hn j h)
 rw [he,h]
 exact absurd hb (hn' k h)
 exact absurd hb (hn' k hk)
theorem bIdx_none {s:ByteArray} {c:Int} (h0:0≤c) (h1:c<256) (hn:noB s c s.size):bIdx s c=-1:=by
 rcases bIdx_spec s h0 h1 with ⟨j,hj,he,hb',hn'⟩ | ⟨h,_⟩
 exact absurd hb' (hn j hj)
 exact h
theorem size_extract (s:ByteArray) (a b:Nat):(s.extract a b).size=min b s.size - a:=by simp
end Go.Sw
namespace Go.Esc
open Go.Lib Go.Sw
theorem eqB (s t:ByteArray):(s.toList==t.toList)=true ↔ s.data.toList=t.data.toList:=by rw [beq_iff_eq,Lib.toList_data,Lib.toList_data]
theorem eqBf (s t:ByteArray):(s.toList==t.toList)=false ↔ ¬ s.data.toList=t.data.toList:=by rw [← eqB,Bool.not_eq_true]
def H9 (s t:ByteArray):Bool:=decide ((s.size:Int) ≥ (t.size:Int))&&((s.extract 0 t.size).toList==t.toList)
theorem ext_list (s:ByteArray) (a b:Nat):(s.extract a b).data.toList=(s.data.toList.drop a).take (b - a):=by
 rw [ByteArray.data_extract,Array.toList_extract,List.extract_eq_take_drop]
theorem N3 (s:ByteArray) (a:Nat):(s.extract a s.size).data.toList=s.data.toList.drop a:=by
 rw [ext_list,List.take_of_length_le]
 rw [List.length_drop,Array.length_toList]; exact Nat.le_refl _
theorem ext_take (s:ByteArray) (b:Nat):(s.extract 0 b).data.toList=s.data.toList.take b:=by rw [ext_list,List.drop_zero,Nat.sub_zero]
theorem H0 (s:ByteArray):s.data.toList.length=s.size:=Array.length_toList
theorem J7 (s t:ByteArray):H9 s t=true ↔ s.data.toList.take t.size=t.data.toList:=by
 unfold H9
 rw [Bool.and_eq_true,decide_eq_true_eq,eqB,ext_take]
 refine ⟨fun h=>h.2,fun h=>⟨?_,h⟩⟩
 have:=congrArg List.length h
 rw [List.length_take,H0,H0] at this
 omega
theorem J4 (s t:ByteArray):H9 s t=false ↔ ¬ s.data.toList.take t.size=t.data.toList:=by rw [← J7,Bool.not_eq_true]
theorem I9 (s:ByteArray) (k:Nat):B2 s (k:Int)=((s.data.toList.getD k 0).toNat:Int):=by unfold B2; rw [Int.toNat_natCast,List.getD_eq_getElem?_getD]
theorem getD_get (l:List UInt8) {j:Nat} (h:j<l.length):l.getD j 0=l[j]:=by simp [List.getD,h]
theorem noB_list {s:ByteArray} {c:UInt8} {k:Nat} (hk:k≤s.size):noB s (c.toNat:Int) k ↔ ∀ b∈s.data.toList.take k,b≠c:=by
 constructor
 intro h b hb
 obtain ⟨j,hj,rfl⟩:=List.getElem_of_mem hb
 rw [List.length_take,H0] at hj
 have:=h j (by omega)
 rw [I9] at this
 rintro he
 apply this
 rw [List.getElem_take] at he
 rw [← he,getD_get _ (by rw [H0]; omega)]
 intro h j hj he
 rw [I9] at he
 have hjl:j<s.data.toList.length:=by rw [H0]; omega
 refine h (s.data.toList.getD j 0) ?_ (UInt8.toNat_inj.1 (by omega))
 have e:s.data.toList.getD j 0=(s.data.toList.take k)[j]'(by rw [List.length_take]; omega):=by rw [getD_get _ hjl,List.getElem_take]
 rw [e]; exact List.getElem_mem _
theorem at_list {s:ByteArray} {c:UInt8} {k:Nat} (hk:k<s.size) (h:B2 s (k:Int)=(c.toNat:Int)):s.data.toList.drop k=c::s.data.toList.drop (k+1):=by
 rw [M4 _ (by rw [H0]; exact hk)]
 rw [I9] at h
 rw [show s.data.toList.getD k 0=c from UInt8.toNat_inj.1 (by omega)]
theorem idxL_eq {c:UInt8}:∀ {p t:List UInt8},(∀ b∈p,b≠c)→idxL c (p++c::t)=p.length
  | [],t,_=>by simp [idxL,List.findIdx_cons]
  | b::p,t,h=>by
    have:=idxL_eq (p:=p) (t:=t) (fun x hx=>h x (List.mem_cons_of_mem _ hx))
    unfold idxL at this ⊢
    rw [List.cons_append,List.findIdx_cons,beq_eq_false_iff_ne.2 (h b List.mem_cons_self),this]; rfl
theorem idxL_none {c:UInt8} {l:List UInt8} (h:∀ b∈l,b≠c):idxL c l=l.length:=by
 unfold idxL; rw [List.findIdx_eq_length]; intro x hx; exact beq_eq_false_iff_ne.2 (h x hx)
theorem un_none {pre t:List UInt8} (hp:∀ b∈pre,b≠38) (ht:∀ b∈t,b≠59):unL (pre++38::t)=pre++(38::unL t):=by
 rw [unL_app _ _ hp,Q7,if_neg (by decide),if_pos]
 unfold X7
 rw [idxL_none ht,if_neg (Nat.lt_irrefl _)]
 decide
theorem refC_at {p t:List UInt8} (h:∀ b∈p,b≠59):X7 (p++59::t)=(refM p,p.length+1):=by
 unfold X7
 rw [idxL_eq h]
 dsimp only
 rw [if_pos (by rw [List.length_append,List.length_cons]; omega),List.take_left]
theorem un_bad {pre p t:List UInt8} (hp:∀ b∈pre,b≠38) (h:∀ b∈p,b≠59) (hr:refM p<0):unL (pre++38::(p++59::t))=pre++(38::unL (p++59::t)):=by
 rw [unL_app _ _ hp,Q7,if_neg (by decide),if_pos (by rw [refC_at h]; exact hr)]
theorem un_good {pre p t:List UInt8} (hp:∀ b∈pre,b≠38) (h:∀ b∈p,b≠59) (hr:¬ refM p<0):unL (pre++38::(p++59::t))=pre++(encodeRune (refM p)++unL t):=by
 rw [unL_app _ _ hp,Q7,if_neg (by decide),if_neg (by rw [refC_at h]; exact hr),refC_at h]
 dsimp only
 rw [show (p++59::t).drop (p.length+1)=t by rw [← List.drop_drop,List.drop_left]; rfl]
theorem numberM_isR {t:List UInt8} {base:Int} {most:Nat} (h:¬ K9 t base most<0):isR (K9 t base most):=by
 unfold K9 at h ⊢
 split at h
 exact absurd (by decide) h
 split at h
 exact absurd (by decide) h
 rename_i n hn
 rw [if_neg ‹_›]
 (try rw [hn]); (try dsimp only)
 split at h
 exact absurd (by decide) h
 rename_i hb
 rw [if_neg hb]
 exact isB_iff.1 (by cases hq:isB n with | true=>rfl | false=>exact absurd (.inr hq) hb)
theorem refM_isR {t:List UInt8} (h:¬ refM t<0):isR (refM t):=by
 unfold refM at h ⊢
 split at h
 rw [if_pos ‹_›]; unfold isR; omega
 rw [if_neg ‹_›]
 split at h
 rw [if_pos ‹_›]; unfold isR; omega
 rw [if_neg ‹_›]
 split at h
 rw [if_pos ‹_›]; unfold isR; omega
 rw [if_neg ‹_›]
 split at h
 rw [if_pos ‹_›]; unfold isR; omega
 rw [if_neg ‹_›]
 split at h
 rw [if_pos ‹_›]; unfold isR; omega
 rw [if_neg ‹_›]
 split at h
 rw [if_pos ‹_›]; exact numberM_isR h
 rw [if_neg ‹_›]
 split at h
 rw [if_pos ‹_›]; exact numberM_isR h
 rw [if_neg ‹_›]
 split at h
 rw [if_pos ‹_›]; exact numberM_isR h
 exact absurd (by decide) h
theorem unA {s:ByteArray} {k:Nat} (hk:k<s.size) (hb:B2 s (k:Int)=38) (hn:noB s 38 k) (hm:noB (s.extract k s.size) 59 (s.extract k s.size).size) :
  unL s.data.toList=s.data.toList.take k++(38::unL ((s.extract k s.size).extract 1 (s.extract k s.size).size).data.toList):=by
 have h1:=(noB_list (c:=38) (Nat.le_of_lt hk)).1 hn
 have h2:=(noB_list (c:=59) (Nat.le_refl _)).1 hm
 rw [List.take_of_length_le (by rw [H0]; exact Nat.le_refl _),N3,at_list (c:=38) hk hb] at h2
 rw [N3,N3,List.drop_drop,← un_none h1 fun b hb=>h2 b (List.mem_cons_of_mem _ hb),← at_list (c:=38) hk hb,List.take_append_drop]
theorem unB {s:ByteArray} {k m:Nat} (hk:k<s.size) (hb:B2 s (k:Int)=38) (hn:noB s 38 k) (hm:m<(s.extract k s.size).size) (hbm:B2 (s.extract k s.size) (m:Int)=59) (hnm:noB (s.extract k s.size) 59 m) (h0:0<m) :
  (refM ((s.extract k s.size).extract 1 m).data.toList<0→unL s.data.toList=s.data.toList.take k++(38::unL ((s.extract k s.size).extract 1 (s.extract k s.size).size).data.toList)) ∧
  (¬ refM ((s.extract k s.size).extract 1 m).data.toList<0→unL s.data.toList=s.data.toList.take k++(encodeRune (refM ((s.extract k s.size).extract 1 m).data.toList)++unL ((s.extract k s.size).extract (m+1) (s.extract k s.size).size).data.toList)):=by
 have h1:=(noB_list (c:=38) (Nat.le_of_lt hk)).1 hn
 have h2:=(noB_list (c:=59) (Nat.le_of_lt hm)).1 hnm
 have h3:=at_list (c:=59) hm hbm
 have e1:s.data.toList=s.data.toList.take k++38::s.data.toList.drop (k+1):=by rw [← at_list (c:=38) hk hb,List.take_append_drop]
 have e2:(s.extract k s.size).data.toList=38::s.data.toList.drop (k+1):=by rw [N3,at_list (c:=38) hk hb]
 have e3:((s.extract k s.size).extract 1 m).data.toList=(s.data.toList.drop (k+1)).take (m - 1):=by rw [ext_list,e2]; rfl
 have e4:s.data.toList.drop (k+1)=(s.data.toList.drop (k+1)).take (m - 1)++59::(s.data.toList.drop (k+1)).drop m:=by
  rw [e2] at h3
  obtain ⟨m',rfl⟩:∃ m',m=m'+1:=⟨m - 1,by omega⟩
  rw [List.drop_succ_cons,List.drop_succ_cons] at h3
  rw [Nat.add_sub_cancel,← h3,List.take_append_drop]
 have h4:∀ b∈(s.data.toList.drop (k+1)).take (m - 1),b≠59:=by
  intro b hb'
  refine h2 b ?_
  rw [e2]
  obtain ⟨m',rfl⟩:∃ m',m=m'+1:=⟨m - 1,by omega⟩
  rw [List.take_succ_cons]
  exact List.mem_cons_of_mem _ hb'
 rw [e3]
 have e5:((s.extract k s.size).extract 1 (s.extract k s.size).size).data.toList=s.data.toList.drop (k+1):=by rw [N3,e2]; rfl
 have e6:((s.extract k s.size).extract (m+1) (s.extract k s.size).size).data.toList=(s.data.toList.drop (k+1)).drop m:=by rw [N3,e2]; rfl
 rw [e5,e6]
 refine ⟨fun hr=>?_,fun hr=>?_⟩
 have:=un_bad (t:=(s.data.toList.drop (k+1)).drop m) h1 h4 hr
 rw [← e4,← e1] at this; exact this
 have:=un_good (t:=(s.data.toList.drop (k+1)).drop m) h1 h4 hr
 rw [← e4,← e1] at this; exact this
theorem unC {s:ByteArray} (hn:noB s 38 s.size):unL s.data.toList=s.data.toList:=by
 have h1:=(noB_list (c:=38) (Nat.le_refl _)).1 hn
 rw [List.take_of_length_le (by rw [H0]; exact Nat.le_refl _)] at h1
 have:=unL_app s.data.toList [] h1
 rwa [List.append_nil,unL_nil,List.append_nil] at this
theorem m_pos {s:ByteArray} {k m:Nat} (hk:k<s.size) (hb:B2 s (k:Int)=38) (hbm:B2 (s.extract k s.size) (m:Int)=59):0<m:=by
 rcases Nat.eq_zero_or_pos m with rfl | h
 have e2:(s.extract k s.size).data.toList=38::s.data.toList.drop (k+1):=by rw [N3,at_list (c:=38) hk hb]
 rw [I9,e2] at hbm; exact absurd (show (38:Int)=59 from hbm) (by decide)
 exact h
end Go.Esc
namespace Go.Esc
open Go.Lib Go.Sw
def unjM (l:List UInt8):Option (List UInt8) :=
 if l.length<2∨l.getD 0 0≠34∨l.getD (l.length - 1) 0≠34∨K4 l=false then none else ujL ((l.drop 1).take (l.length - 2))
end Go.Esc
namespace Go.Json
open Go.Lib Go.Esc
inductive JV where
 | mk (kind:Int) (text:List UInt8) (names:List (List UInt8)) (list:List JV)
def JV.kind:JV→Int | .mk k _ _ _=>k
def JV.text:JV→List UInt8 | .mk _ t _ _=>t
def JV.names:JV→List (List UInt8) | .mk _ _ n _=>n
def JV.list:JV→List JV | .mk _ _ _ l=>l
def nul:JV:=.mk 0 [] [] []
def wsB (b:UInt8):Bool:=b==32||b==9||b==10||b==13
def blk (l:List UInt8):List UInt8:=l.dropWhile wsB
def dgB (b:UInt8):Bool:=decide (48≤b.toNat)&&decide (b.toNat≤57)
def digs (l:List UInt8):Nat:=(l.takeWhile dgB).length
def sgn (l:List UInt8):Nat:=if l.getD 0 0=45 then 1 else 0
def intP (l:List UInt8):Nat:=if digs (l.drop (sgn l))=0∨(1<digs (l.drop (sgn l))∧l.getD (sgn l) 0=48) then 0 else sgn l+digs (l.drop (sgn l))
def fracP (l:List UInt8) (j:Nat):Nat:=if l.getD j 0=46 then (if digs (l.drop (j+1))=0 then 0 else j+1+digs (l.drop (j+1))) else j
def sgn2 (l:List UInt8) (k:Nat):Nat:=if l.getD k 0=43∨l.getD k 0=45 then k+1 else k
def expP (l:List UInt8) (j:Nat):Nat:=if l.getD j 0=101∨l.getD j 0=69 then (if digs (l.drop (sgn2 l (j+1)))=0 then 0 else sgn2 l (j+1)+digs (l.drop (sgn2 l (j+1)))) else j
def numP (l:List UInt8):Nat:=if intP l=0 then 0 else if fracP l (intP l)=0 then 0 else expP l (fracP l (intP l))
def qF:Nat→List UInt8→Nat
 | 0,_=>0
 | _+1,[]=>0
 | n+1,c::t=>if c=34 then 0 else if c=92 then 2+qF n (t.drop 1) else 1+qF n t
def qL (l:List UInt8):Nat:=qF l.length l
abbrev PR:=Except Int (JV × List UInt8)
def endB (obj:Bool):UInt8:=if obj then 125 else 93
theorem blk_nows {l:List UInt8}:∀ b t,blk l=b::t→wsB b=false:=by
  unfold blk
  induction l with
  | nil=>intro b t h; cases h
  | cons c u ih =>
    intro b t h
    rw [List.dropWhile_cons] at h
    split at h
    exact ih b t h
    rename_i hc; injection h with h1 h2; rw [← h1]; exact Bool.eq_false_iff.2 hc
theorem blk_blk (l:List UInt8):blk (blk l)=blk l:=by
  cases h:blk l with
  | nil=>rfl
  | cons b t =>
    have:=blk_nows b t h
    unfold blk; rw [List.dropWhile_cons,this]; rfl
end Go.Json
namespace Go.Json
open Go.Lib Go.Esc
def inB (b:UInt8):Bool:=b==32||b==9||b==10||b==13||b==44||b==93||b==125
def Inert (w:List UInt8):Prop:=w=[]∨inB (w.getD 0 0)=true
end Go.Json
namespace Go.Json
open Go.Lib Go.Esc
theorem blk_app {l w:List UInt8} (h:blk l≠[]):blk (l++w)=blk l++w:=by
  unfold blk at h ⊢
  induction l with
  | nil=>exact absurd rfl h
  | cons b t ih =>
    rw [List.cons_append]
    rw [List.dropWhile_cons] at h
    rw [List.dropWhile_cons,List.dropWhile_cons]
    cases hb:wsB b with
    | true=>simp only [hb,if_true] at h ⊢; exact ih h
    | false=>simp only [Bool.false_eq_true,if_false]; rfl
theorem pre_app {p l w:List UInt8} (hp:(p.all fun b=>!inB b)=true) (hw:Inert w):(l++w).take p.length=p ↔ l.take p.length=p:=by
  rcases Nat.lt_or_ge l.length p.length with h | h
  have h2:¬ l.take p.length=p:=by
    intro he
    have:=congrArg List.length he
    rw [List.length_take] at this; omega
  refine ⟨fun he=>absurd he ?_,fun he=>absurd he h2⟩
  intro he
  rcases hw with rfl | hw
  rw [List.append_nil] at he; exact h2 he
  have h3:(l++w).length ≥ p.length:=by
    have:=congrArg List.length he
    rw [List.length_take] at this; omega
  have hw0:w≠[]:=by rintro rfl; rw [List.append_nil] at h3; omega
  cases w with
  | nil=>exact hw0 rfl
  | cons b t =>
    have e:p[l.length]? = some b:=by
      rw [← he,List.getElem?_take_of_lt h,List.getElem?_append_right (Nat.le_refl _),Nat.sub_self]; rfl
    have hm:b∈p:=List.mem_of_getElem? e
    have:=List.all_eq_true.1 hp b hm
    rw [show inB b=true from hw] at this
    cases this
  rw [List.take_append_of_le_length h]
end Go.Json
namespace Go.Json
open Go.Lib Go.Esc
abbrev RdS:=List UInt8 × Int
def fltR (n:Int) (r:RdS):RdS:=(r.1,if r.2=0 then n else r.2)
def blkR (r:RdS):RdS:=(blk r.1,r.2)
def mustR (c:UInt8) (r:RdS):RdS:=if r.1.take 1=[c] then (r.1.drop 1,r.2) else fltR 70 r
def textR (r:RdS):List UInt8 × RdS :=
 if r.1.length≤1+qL (r.1.drop 1)∨r.1.getD 0 0≠34 then ([],fltR 70 r)
 else match unjM (r.1.take (qL (r.1.drop 1)+2)) with
  | none=>([],fltR 70 (r.1.drop (qL (r.1.drop 1)+2),r.2))
  | some x=>(x,(r.1.drop (qL (r.1.drop 1)+2),r.2))
def nameR (obj:Bool) (ns:List (List UInt8)) (r:RdS):List (List UInt8) × RdS:=if obj then (ns++[(textR r).1],mustR 58 (blkR (textR r).2)) else (ns,r)
def memR (val:RdS→JV × RdS) (obj:Bool):Nat→List (List UInt8)→List JV→RdS→(List (List UInt8) × List JV) × RdS
  | 0,ns,vs,r=>((ns,vs),r)
  | n+1,ns,vs,r=>if r.2≠0 then ((ns,vs),r) else if obj=true∧(blk r.1).getD 0 0≠34 then ((ns,vs),fltR 70 (blkR r))
    else
      let q:=nameR obj ns (blkR r)
      let v:=val q.2
      if (blk v.2.1).take 1=[endB obj] then ((q.1,vs++[v.1]),((blk v.2.1).drop 1,v.2.2)) else memR val obj n q.1 (vs++[v.1]) (mustR 44 (blkR v.2))
def atomR (r:RdS):JV × RdS :=
 if r.1.take 4=[110,117,108,108] then (nul,(r.1.drop 4,r.2)) else if r.1.take 5=[102,97,108,115,101] then (.mk 1 [] [] [],(r.1.drop 5,r.2)) else if r.1.take 4=[116,114,117,101] then (.mk 2 [] [] [],(r.1.drop 4,r.2))
 else if r.1.getD 0 0=34 then (.mk 4 (textR r).1 [] [],(textR r).2)
 else if numP r.1=0 then (nul,fltR 70 r) else (.mk 3 (r.1.take (numP r.1)) [] [],(r.1.drop (numP r.1),r.2))
def opens (l:List UInt8):Prop:=l.getD 0 0=91∨l.getD 0 0=123
instance (l:List UInt8):Decidable (opens l):=by unfold opens; exact inferInstance
def valR:Nat→RdS→JV × RdS
  | 0,r=>let q:=if opens (blk r.1) then fltR 71 (blkR r) else blkR r
    if q.2≠0 then (nul,q) else atomR q
  | lv+1,r=>let q:=blkR r
    if q.2≠0 then (nul,q) else if opens q.1 then
      (let obj:=q.1.getD 0 0==123; let t:=blk (q.1.drop 1)
       if t.take 1=[endB obj] then (.mk (if obj then 6 else 5) [] [] [],(t.drop 1,q.2))
       else
         let m:=memR (valR lv) obj (t.length+1) [] [] (t,q.2)
         (.mk (if obj then 6 else 5) [] m.1.1 m.1.2,m.2))
    else atomR q
theorem flt_ne {n:Int} {r:RdS} (h:r.2≠0):(fltR n r).2=r.2:=by unfold fltR; rw [if_neg h]
theorem must_ne {c:UInt8} {r:RdS} (h:r.2≠0):(mustR c r).2=r.2:=by
 unfold mustR
 split
 rfl
 exact flt_ne h
theorem val_ne {r:RdS} (h:r.2≠0):∀ lv,valR lv r=(nul,((valR lv r).2.1,r.2))
  | 0=>by
    unfold valR
    dsimp only
    split
    have hf:(fltR 71 (blkR r)).2=r.2:=flt_ne (r:=blkR r) h
    rw [if_pos (by rw [hf]; exact h)]; exact Prod.ext rfl (Prod.ext rfl hf)
    rw [if_pos (show (blkR r).2≠0 from h)]; rfl
  | lv+1=>by
    unfold valR
    dsimp only
    rw [if_pos (show (blkR r).2≠0 from h)]; rfl
end Go.Json
namespace Go.Json
open Go.Lib Go.Esc
theorem blk_yes {l:List UInt8} {k:Nat} (hk:k<l.length) (h:wsB (l.getD k 0)=true):blk (l.drop k)=blk (l.drop (k+1)):=by
 rw [M4 _ hk]; unfold blk; rw [List.dropWhile_cons,h]; rfl
theorem blk_no {l:List UInt8} {k:Nat} (h:l.length≤k∨wsB (l.getD k 0)=false):blk (l.drop k)=l.drop k:=by
 rcases Nat.lt_or_ge k l.length with hk | hk
 rcases h with h | h
 omega
 rw [M4 _ hk]; unfold blk; rw [List.dropWhile_cons,h]; rfl
 rw [List.drop_eq_nil_of_le hk]; rfl
end Go.Json
namespace Go.Json
open Go.Lib Go.Esc Go.Sw
theorem ext_bk (l:List UInt8) (a:Nat):(bk l).extract a (bk l).size=bk (l.drop a):=ByteArray.ext (Array.ext' (N3 (bk l) a))
theorem ext_bkT (l:List UInt8) (b:Nat):(bk l).extract 0 b=bk (l.take b):=ByteArray.ext (Array.ext' (ext_take (bk l) b))
theorem byteJ (l:List UInt8) (k:Nat):B2 (bk l) (k:Int)=((l.getD k 0).toNat:Int):=I9 (bk l) k
theorem byteJ0 (l:List UInt8):B2 (bk l) 0=((l.getD 0 0).toNat:Int):=I9 (bk l) 0
theorem u8_iff {b:UInt8} {n:Nat} (hn:n<256):(b.toNat:Int)=(n:Int) ↔ b=UInt8.ofNat n:=by
 constructor
 intro h
 apply UInt8.toNat_inj.1
 rw [UInt8.toNat_ofNat',Nat.mod_eq_of_lt hn]; omega
 intro h
 rw [h,UInt8.toNat_ofNat',Nat.mod_eq_of_lt hn]
end Go.Json
namespace Go.Sha
open Go.Sw
structure S8 where
 a:Int
 b:Int
 c:Int
 d:Int
 e:Int
 f:Int
 g:Int
 h:Int
theorem u8s_at {l:List UInt8} {k:Nat} (h:k<l.length):(u8s l)[k]? = some (.int .u8 ((l.getD k 0).toNat:Int)):=by
 simp [u8s,h,List.getD]
def S8.v (s:S8):Value:=.agg #[.int .u32 s.a,.int .u32 s.b,.int .u32 s.c,.int .u32 s.d,.int .u32 s.e,.int .u32 s.f,.int .u32 s.g,.int .u32 s.h]
def b8 (y:Int):UInt8:=UInt8.ofNat (y % 256).toNat
def wd (s:S8) (k:Nat):Int:=[s.a,s.b,s.c,s.d,s.e,s.f,s.g,s.h].getD k 0
theorem u8s_append (a b:List UInt8):u8s (a++b)=u8s a++u8s b:=by simp [u8s]
def digs:ByteArray:=ByteArray.mk #[48,49,50,51,52,53,54,55,56,57,97,98,99,100,101,102]
def hd (i:Int):UInt8:=UInt8.ofNat (B2 digs i).toNat
theorem own_from0 {et:TypeId} {sz:Nat} {v:Value} {g:Grp} {n:Nat} {cs:List Value} (h:Own et sz v g (0+n) ([]++cs)):Own et sz v g n cs:=by simpa using h
theorem u8_one {l:List UInt8}:∀ u∈u8s l,u.oneCell'=true:=by
 intro u hu
 obtain ⟨b,_,rfl⟩:=List.mem_map.1 hu
 rfl
end Go.Sha
namespace Go.Proofs
open Go.Shelf
def Tryz.lays161_ren:Go.Shelf.Ren:=⟨fun | 161=>60 | 231=>83 | 227=>84 | 233=>85 | 235=>86 | 228=>102 | 197=>103 | 151=>104 | 260=>115 | 152=>116 | 137=>90 | 119=>131 | 224=>118 | 225=>117 | 217=>107 | 266=>122 | n=>n,fun | 9=>9 | 4=>4 | 3=>3 | 5=>5 | 117=>126 | 116=>125 | 0=>0 | 124=>129 | 105=>159 | 21=>21 | 119=>103 | 46=>107 | 139=>106 | 138=>105 | n=>n,fun | 3=>0 | 4=>1 | n=>n⟩
theorem Tryz.lays161:Go.Proofs.Lays.n161 Tryz.prog Tryz.lays161_ren:={
 mixed:=by kernel_rfl
 f119:=Tryz.func131.trans (congrArg some (by kernel_rfl))
 f137:=Tryz.func90.trans (congrArg some (by kernel_rfl))
 f151:=Tryz.func104.trans (congrArg some (by kernel_rfl))
 f152:=Tryz.func116.trans (congrArg some (by kernel_rfl))
 f161:=Tryz.func60.trans (congrArg some (by kernel_rfl))
 f197:=Tryz.func103.trans (congrArg some (by kernel_rfl))
 f217:=Tryz.func107.trans (congrArg some (by kernel_rfl))
 f224:=Tryz.func118.trans (congrArg some (by kernel_rfl))
 f225:=Tryz.func117.trans (congrArg some (by kernel_rfl))
 f227:=Tryz.func84.trans (congrArg some (by kernel_rfl))
 f228:=Tryz.func102.trans (congrArg some (by kernel_rfl))
 f231:=Tryz.func83.trans (congrArg some (by kernel_rfl))
 f233:=Tryz.func85.trans (congrArg some (by kernel_rfl))
 f235:=Tryz.func86.trans (congrArg some (by kernel_rfl))
 f260:=Tryz.func115.trans (congrArg some (by kernel_rfl))
 f266:=Tryz.func122.trans (congrArg some (by kernel_rfl))
 t0:=Tryz.underlying0
 a0:=Tryz.isAgg0
 z0:=Tryz.sizeOf0
 v0:=Tryz.zeroValue0
 t3:=Tryz.underlying3
 a3:=Tryz.isAgg3
 z3:=Tryz.sizeOf3
 v3:=Tryz.zeroValue3
 t4:=Tryz.underlying4
 a4:=Tryz.isAgg4
 z4:=Tryz.sizeOf4
 v4:=Tryz.zeroValue4
 t5:=Tryz.underlying5
 a5:=Tryz.isAgg5
 z5:=Tryz.sizeOf5
 v5:=Tryz.zeroValue5
 t9:=Tryz.underlying9
 a9:=Tryz.isAgg9
 z9:=Tryz.sizeOf9
 v9:=Tryz.zeroValue9
 t21:=Tryz.underlying21
 a21:=Tryz.isAgg21
 z21:=Tryz.sizeOf21
 v21:=Tryz.zeroValue21
 t46:=Tryz.underlying107
 a46:=Tryz.isAgg107
 z46:=Tryz.sizeOf107
 v46:=Tryz.zeroValue107
 t105:=Tryz.underlying159
 a105:=Tryz.isAgg159
 z105:=Tryz.sizeOf159
 v105:=Tryz.zeroValue159
 t116:=Tryz.underlying125
 a116:=Tryz.isAgg125
 z116:=Tryz.sizeOf125
 t117:=Tryz.underlying126
 a117:=Tryz.isAgg126
 z117:=Tryz.sizeOf126
 v117:=Tryz.zeroValue126
 t119:=Tryz.underlying103
 a119:=Tryz.isAgg103
 z119:=Tryz.sizeOf103
 t124:=Tryz.underlying129
 a124:=Tryz.isAgg129
 z124:=Tryz.sizeOf129
 v124:=Tryz.zeroValue129
 t138:=Tryz.underlying105
 a138:=Tryz.isAgg105
 z138:=Tryz.sizeOf105
 v138:=Tryz.zeroValue105
 t139:=Tryz.underlying106
 a139:=Tryz.isAgg106
 z139:=Tryz.sizeOf106
 v139:=Tryz.zeroValue106
 g3:=by kernel_rfl
 g4:=by kernel_rfl }
def Tryz.laysM279_ren:Go.Shelf.Ren:=⟨fun | 279=>155 | 316=>166 | n=>n,fun | 9=>9 | 168=>216 | 75=>96 | 210=>222 | 3=>3 | 4=>4 | 37=>22 | 0=>0 | 127=>100 | 80=>66 | 5=>5 | n=>n,fun | 15=>3 | n=>n⟩
theorem Tryz.laysM279:Go.Proofs.LaysM.n279 Tryz.prog Tryz.laysM279_ren:={
 mixed:=by kernel_rfl
 f279:=Tryz.func155.trans (congrArg some (by kernel_rfl))
 f316:=Tryz.func166.trans (congrArg some (by kernel_rfl))
 t0:=Tryz.underlying0
 a0:=Tryz.isAgg0
 z0:=Tryz.sizeOf0
 v0:=Tryz.zeroValue0
 t3:=Tryz.underlying3
 a3:=Tryz.isAgg3
 z3:=Tryz.sizeOf3
 v3:=Tryz.zeroValue3
 t4:=Tryz.underlying4
 a4:=Tryz.isAgg4
 z4:=Tryz.sizeOf4
 v4:=Tryz.zeroValue4
 t9:=Tryz.underlying9
 a9:=Tryz.isAgg9
 z9:=Tryz.sizeOf9
 v9:=Tryz.zeroValue9
 t37:=Tryz.underlying22
 a37:=Tryz.isAgg22
 z37:=Tryz.sizeOf22
 v37:=Tryz.zeroValue22
 t75:=Tryz.underlying96
 a75:=Tryz.isAgg96
 z75:=Tryz.sizeOf96
 v75:=Tryz.zeroValue96
 t127:=Tryz.underlying100
 a127:=Tryz.isAgg100
 z127:=Tryz.sizeOf100
 v127:=Tryz.zeroValue100
 t168:=Tryz.underlying216
 a168:=Tryz.isAgg216
 z168:=Tryz.sizeOf216
 v168:=Tryz.zeroValue216
 t210:=Tryz.underlying222
 a210:=Tryz.isAgg222
 z210:=Tryz.sizeOf222
 v210:=Tryz.zeroValue222
 g15:=by kernel_rfl
 t5:=Tryz.underlying5
 a5:=Tryz.isAgg5
 z5:=Tryz.sizeOf5
 v5:=Tryz.zeroValue5
 t80:=Tryz.underlying66
 a80:=Tryz.isAgg66
 z80:=Tryz.sizeOf66
 v80:=Tryz.zeroValue66
 i0:=by kernel_rfl
 i3:=by kernel_rfl
 i4:=by kernel_rfl
 i5:=by kernel_rfl
 i9:=by kernel_rfl
 i37:=by kernel_rfl
 i75:=by kernel_rfl
 i80:=by kernel_rfl
 i127:=by kernel_rfl
 i168:=by kernel_rfl
 i210:=by kernel_rfl
 m15:=by kernel_rfl }
open Go.RowKit in
/-- strconv.syntaxError: '&NumError{fn, stringslite.Clone(str), ErrSyntax}': A POINTER TO A NEW BLOCK that holds fn, str's bytes, and what the variable ErrSyntax holds. Of what was there nothing has turned. (LAID: no walk: one application.) -/
theorem Tryz.strconv_syntaxError (fn s:ByteArray) (ev:Value) (w:World) (hlim:s.size≤281474976710656) (hv:w.cell? ⟨3,0,none⟩=some ev) (hev:ev=.nilIface∨∃ te pe,ev=.iface te pe) :
 Calls Tryz.prog 155 #[.string fn,.string s] w fun e w'=>∃ N,e=.returned (.pointer (some ⟨N,0,none⟩))∧w.heap.size≤N∧w'.heap[N]? = some (.cells #[.string fn,.string s,ev] 222 (0,0))∧Below w.heap.size w w':=Any.strconv_syntaxError Tryz.laysM279 fn s ev w hlim hv hev
end Go.Proofs
namespace Go.Sw
open Go.RowKit
theorem mhas_false {m:SM} {k:ByteArray}:V6 m k=false ↔ ∀ e∈m,(k==e.1)=false:=by
 unfold V6; rw [List.any_eq_false]
 constructor
 intro h e he; simpa using h e he
 intro h e he; simpa using h e he
theorem mput_new {m:SM} {k:ByteArray} (c:Nat) (v:Value) (h:V6 m k=false):K3 m c k v=m++[(k,v,c)]:=by
  induction m with
  | nil=>rfl
  | cons e m ih =>
    rw [mhas_false] at h
    have h0:=h e List.mem_cons_self
    rw [K3,h0]
    simp only [Bool.false_eq_true,if_false]
    rw [ih (mhas_false.2 (fun x hx=>h x (List.mem_cons_of_mem _ hx)))]
    rfl
theorem mput_keys (m:SM) (c:Nat) (k:ByteArray) (v:Value) (h:V6 m k=true):(K3 m c k v).map (fun e=>(e.2.2))=m.map (fun e=>(e.2.2))∧(K3 m c k v).map Prod.fst=m.map Prod.fst:=by
  induction m with
  | nil=>cases h
  | cons e m ih =>
    rw [K3]
    cases hk:k==e.1
    simp only [Bool.false_eq_true,if_false,List.map_cons]
    unfold V6 at h
    rw [List.any_cons,hk,Bool.false_or] at h
    obtain ⟨h1,h2⟩:=ih h
    exact ⟨by rw [h1],by rw [h2]⟩
    simp only [if_true,List.map_cons,true_and]
    rw [baEq] at hk; rw [hk]
theorem pw_keys {m:SM}:(m.Pairwise fun x y=>(x.1==y.1)=false) ↔ (m.map Prod.fst).Nodup:=by
 rw [List.nodup_iff_pairwise_ne,List.pairwise_map]
 constructor
 intro h; exact h.imp (fun h=>baNe.1 h)
 intro h; exact h.imp (fun h=>baNe.2 h)
theorem MapOk.put {m:SM} {c:Nat} (h:MapOk m c) (k:ByteArray) (v:Value):MapOk (K3 m c k v) (if V6 m k then c else c+1):=by
  cases hm:V6 m k with
  | true =>
    obtain ⟨h1,h2⟩:=mput_keys m c k v hm
    refine ⟨pw_keys.2 (by rw [h2]; exact pw_keys.1 h.keys),by rw [h1]; exact h.born,fun e he=>?_⟩
    have:e.2.2∈(K3 m c k v).map (fun e=>e.2.2):=List.mem_map.2 ⟨e,he,rfl⟩
    rw [h1] at this
    obtain ⟨x,hx,hx2⟩:=List.mem_map.1 this
    have:=h.lt x hx
    simp only [if_true]; omega
  | false =>
    rw [mput_new c v hm]
    simp only [Bool.false_eq_true,if_false]
    rw [mhas_false] at hm
    refine ⟨?_,?_,?_⟩
    rw [List.pairwise_append]
    refine ⟨h.keys,by simp,fun x hx y hy=>?_⟩
    rw [List.mem_singleton.1 hy]
    have:=hm x hx
    rw [baNe] at this ⊢
    exact fun e=>this e.symm
    rw [List.map_append,List.nodup_append]
    refine ⟨h.born,by simp,?_⟩
    intro a ha b hb
    obtain ⟨x,hx,rfl⟩:=List.mem_map.1 ha
    simp only [List.map_cons,List.map_nil,List.mem_singleton] at hb
    have:=h.lt x hx
    omega
    intro e he
    rcases List.mem_append.1 he with he | he
    have:=h.lt e he; omega
    rw [List.mem_singleton.1 he]; simp
end Go.Sw
namespace Go.Sw
open Go.RowKit
def dcR (s:ByteArray) (i:Nat):Int:=((Utf8.decode s i).1:Int)
def dcW (s:ByteArray) (i:Nat):Nat:=(Utf8.decode s i).2
theorem dc_rng (s:ByteArray) (i:Nat):0≤dcR s i∧dcR s i≤1114111∧1≤dcW s i∧dcW s i≤4:=by
 have hb:∀ k,(s.get! k).toNat<256:=fun k=>UInt8.toNat_lt _
 unfold dcR dcW Utf8.decode
 dsimp only
 have h0:=hb (i+0); have h1:=hb (i+1); have h2:=hb (i+2); have h3:=hb (i+3)
 simp only [Utf8.runeError]
 split
 refine ⟨by omega,by omega,by omega,by omega⟩
 split
 split <;> refine ⟨by omega,by omega,by omega,by omega⟩
 split
 split <;> refine ⟨by omega,by omega,by omega,by omega⟩
 split
 split
 rename_i hv
 simp only [Utf8.valid,Bool.and_eq_true,decide_eq_true_eq,Bool.or_eq_true] at hv
 refine ⟨by omega,by omega,by omega,by omega⟩
 refine ⟨by omega,by omega,by omega,by omega⟩
 refine ⟨by omega,by omega,by omega,by omega⟩
theorem GL_rangeS {P:Program} {ops:Array Oper} {i:Nat} {Q:F0} {n:Fr} {E:Env} {W0:World} {H:List Grp} {o:Oper} {ch:List (Nat × Bool)} {t:TypeId} {x:Operand} {s:ByteArray}
  (ho:ops[i]? = some o) (hop:o.op=.range t x) (hx:evO E ch x=some (.string s)) (hu:P.underlying t=some .string)
  (hch:D7 ops E o.guard=some ch) (hd:G1 n ch o.dst=true) (hsure:M5 E ch=true)
  (kk:∀ b,GL false P ops (i+1) Q n (Env.put E o.dst ch (.pointer (some ⟨b,0,none⟩))) W0 ([(b,.stringIter s 0)]::H)):GL false P ops i Q n E W0 H :=
 GL_new (f:=fun b=>.pointer (some ⟨b,0,none⟩)) ho hch hd hsure (fun r hr w=>by
  unfold execOp; simp only [hop]; rw [hr _ _ hx]
  simp only [Instr.range,Sem.run_bind,run_underlying hu,Result.andThen_ok,Sem.run_pure,run_newObj]; rfl) kk
theorem GL_nextS {P:Program} {ops:Array Oper} {i:Nat} {Q:F0} {n:Fr} {E:Env} {W0:World} {H:List Grp} {o:Oper} {ch:List (Nat × Bool)} {x:Operand} {it p j:Nat} {s:ByteArray}
    (ho:ops[i]? = some o) (hop:o.op=.next x true) (hx:evO E ch x=some (.pointer (some ⟨it,0,none⟩)))
    (hch:D7 ops E o.guard=some ch) (hd:G1 n ch o.dst=true) (hsure:M5 E ch=true)
    (hj:H[j]? = some [(it,.stringIter s p)])
    (kEnd:¬ p<s.size→GL false P ops (i+1) Q n (Env.put E o.dst ch (.tuple #[.bool false])) W0 H)
    (kMore:p<s.size→GL false P ops (i+1) Q n (Env.put E o.dst ch (.tuple #[.bool true,.int .i64 ((p:Nat):Int),.int .i32 (dcR s p)])) W0 (H.set j [(it,.stringIter s (p+dcW s p))])) :
    GL false P ops i Q n E W0 H:=by
  refine GL_eff (R:=fun v H1=>(¬ p<s.size∧v=.tuple #[.bool false]∧H1=H)∨(p<s.size∧v=.tuple #[.bool true,.int .i64 ((p:Nat):Int),.int .i32 (dcR s p)]∧H1=H.set j [(it,.stringIter s (p+dcW s p))]))
    ho hch hd hsure (fun rr hr w hs=>?_) (by
      rintro v H1 (⟨h1,rfl,rfl⟩ | ⟨h1,rfl,rfl⟩)
      exact kEnd h1
      exact kMore h1)
  have hi:([(it,Obj.stringIter s p)]:Grp)[0]? = some (it,.stringIter s p):=rfl
  have hblk:=hs.has _ (List.mem_flatten.2 ⟨_,List.mem_of_getElem? hj,List.mem_of_getElem? hi⟩)
  have hit:=run_getObj_iter (P:=P) hblk rfl
  have hexec:(execOp rr o).run P w=((Instr.next (.pointer (some ⟨it,0,none⟩)) true o.type).run P w).andThen fun v w'=>.ok (.value v) w':=by
    unfold execOp
    simp only [hop]
    rw [hr _ _ hx]
    simp only [Sem.run_bind,Sem.run_pure]
  by_cases hp:p<s.size
  obtain ⟨w',hr',hw'⟩:=Wr_setObj (P:=P) hblk (o':=.stringIter s (p+dcW s p)) rfl
  refine ⟨_,w',_,.inr ⟨hp,rfl,rfl⟩,hs.wr hj hi hw',.inl ?_⟩
  rw [hexec]
  have e:(Instr.next (.pointer (some ⟨it,0,none⟩)) true o.type).run P w=.ok (.tuple #[.bool true,.int .i64 ((p:Nat):Int),.int .i32 (dcR s p)]) w':=by
    have hr2:(setObj it (.stringIter s (p+(Utf8.decode s p).2))).run P w=.ok () w':=hr'
    simp only [Instr.next,Sem.run_bind,hit,Result.andThen_ok,if_pos hp]
    cases hd:Utf8.decode s p with
    | mk c wd =>
      rw [hd] at hr2
      simp only [hr2,Result.andThen_ok,Sem.run_pure]
      unfold dcR
      rw [hd]; rfl
  rw [e]; rfl
  refine ⟨_,w,_,.inl ⟨hp,rfl,rfl⟩,hs,.inl ?_⟩
  rw [hexec]
  simp only [Instr.next,Sem.run_bind,hit,Result.andThen_ok,if_neg hp,Sem.run_pure]
end Go.Sw
namespace Go.Proofs.YtcgmnagcgkhogaaGreatDoor
open Go.Sw Go.Sha Go.Esc Go.RowKit Go.Json
theorem jhas0_ (s t:ByteArray) (W0:World) (H:List Grp):Tri Tryz.prog 57 #[.string s,.string t] W0 H (fun v H'=>v=.bool (H9 s t)∧H'=H):=by
 refine D5 18 Tryz.func57 ?_
 refine A1 (C3 (E':=[⟨0,[],.string s⟩,⟨1,[],.string t⟩]) [0] [0,1] (k:=A0 (A1 (A2 (A3 (j:=9) [0,0,0,0,0,0,0,0,0] (k:=X3 (ch:=[(10,true)]) (s:=s) (vl:=none) (vh:=(some (.int .i64 (t.size:Int)))) (l:=0) (h:=(t.size:Int)) (hb:=(fun hc=>by have hg0:=R0 (t:=10) (c:=[]) (b:=decide ((s.size:Int) ≥ (t.size:Int))) hc kr; (try simp at hg0); omega)) (k:=A5 [0,0,6,0] [4] (k:=A0 ?_))))))))
 refine B4 (B7 [.tmp 4] [.bool ((decide ((s.size:Int) ≥ (t.size:Int)))&&((s.extract 0 t.size).toList==t.toList))] (k:=?_))
 exact ⟨by unfold H9; rfl,rfl⟩
theorem jhas_ (s t:ByteArray) (W0:World) (H:List Grp):Tri Tryz.prog 64 #[.string s,.string t] W0 H (fun v H'=>v=.bool (H9 s t)∧H'=H):=by
 refine D5 8 Tryz.func64 ?_
 refine A1 (C3 (E':=[⟨0,[],.string s⟩,⟨1,[],.string t⟩]) [0] [0,1] (k:=A0 (A1 (A2 (A3 (j:=2) [0,0] (k:=H5 Tryz.func57 (jhas0_ s t _ _) (C0 (E':=[⟨4,[],.bool (H9 s t)⟩]) [0] [4] (k:=A0 ?_))))))))
 refine B4 (B7 [.tmp 4] [.bool (H9 s t)] (k:=?_))
 exact ⟨rfl,rfl⟩
theorem jcut0_ (s t:ByteArray) (W0:World) (H:List Grp):Tri Tryz.prog 87 #[.string s,.string t] W0 H (fun v H'=>v=(if H9 s t then .tuple #[.string (s.extract t.size s.size),.bool true] else .tuple #[.string s,.bool false])∧H'=H):=by
 refine D5 15 Tryz.func87 ?_
 refine A1 (C3 (E':=[⟨0,[],.string s⟩,⟨1,[],.string t⟩]) [0,0] [0,1] (k:=A0 (A1 (A1 (A2 (A3 (j:=2) [0,0] (k:=H5 Tryz.func57 (jhas0_ s t _ _) (A5 [0] [0,1,9] (k:=?_)))))))))
 refine A0 (B1 (b:=!(H9 s t)) kr (fun hc1=>?_) (fun hc1=>?_))
 have hsp:H9 s t=false:=by simpa using hc1
 refine A1 (G_p [0,0,0] [4,5] (k:=A0 (B4 (A4 (B7 [.tmp 4,.tmp 5] [.string s,.bool false] (k:=?_))))))
 exact ⟨by rw [if_neg (by rw [hsp]; decide)]; rfl,rfl⟩
 have hsp:H9 s t=true:=by simpa using hc1
 have hle:t.size≤s.size:=by unfold H9 at hsp; simp only [Bool.and_eq_true,decide_eq_true_eq] at hsp; omega
 refine A7 (A0 (A1 (A2 (A3 (j:=3) [0,0,0] (k:=M6 s (t.size:Int) (s.size:Int) (fun _=>by omega) (A5 [0,0] [4,5] (k:=A0 (B4 ?_))))))))
 refine B7 [.tmp 4,.tmp 5] [.string (s.extract t.size s.size),.bool true] (k:=?_)
 exact ⟨by rw [if_pos hsp]; rfl,rfl⟩
theorem jcut_ (s t:ByteArray) (W0:World) (H:List Grp):Tri Tryz.prog 63 #[.string s,.string t] W0 H (fun v H'=>v=(if H9 s t then .tuple #[.string (s.extract t.size s.size),.bool true] else .tuple #[.string s,.bool false])∧H'=H):=by
 refine D5 11 Tryz.func63 ?_
 refine A1 (C3 (E':=[⟨0,[],.string s⟩,⟨1,[],.string t⟩]) [0,0] [0,1] (k:=A0 (A1 (A2 (A3 (j:=2) [0,0] (k:=D9 Tryz.func87 (jcut0_ s t _ _) ?_))))))
 rintro _ _ ⟨rfl,rfl⟩
 cases hsp:H9 s t
 all_goals simp only [Bool.false_eq_true,if_false,if_true]
 refine A5 [0,0,0,0] [4,5] (k:=A0 (B4 (B7 [.tmp 4,.tmp 5] [.string s,.bool false] (k:=?_))))
 exact ⟨rfl,rfl⟩
 refine A5 [0,0,0,0] [4,5] (k:=A0 (B4 (B7 [.tmp 4,.tmp 5] [.string (s.extract t.size s.size),.bool true] (k:=?_))))
 exact ⟨rfl,rfl⟩
end Go.Proofs.YtcgmnagcgkhogaaGreatDoor
namespace Go.Sw
open Go.RowKit
theorem run_clone {P:Program} {w:World} {r:Nat} {es:Array MapEntry} {clock:Nat} (t:TypeId) (hb:w.heap[r]? = some (.map es clock)) :
  (Extern.MapsClone.clone #[.iface t (.map (some r))]).run P w=.ok (.iface t (.map (some w.heap.size))) (w.alloc (.map es clock)):=by
 have e:Extern.MapsClone.clone #[.iface t (.map (some r))]=(getObj r >>= fun o=>match o with
   | .map entries clock=>(newObj (.map entries clock) >>= fun n=>pure (.iface t (.map (some n))))
   | _ => stuck "maps.clone: a map expected") := rfl
 rw [e]
 simp only [Sem.run_bind,S5 hb,Result.andThen_ok,run_newObj,Sem.run_pure]
 rfl
theorem GL_cloneX {P:Program} {ops:Array Oper} {i:Nat} {Q:F0} {n:Fr} {E:Env} {W0:World} {H:List Grp} {o:Oper} {ch:List (Nat × Bool)} {c:Call} {fo:Operand} {f:FuncId} {t:TypeId} {r clock:Nat} {es:Array MapEntry} {fn:Func}
  (ho:ops[i]? = some o) (hop:o.op=.call c) (hce:c.callee=.value fo) (hfo:evO E ch fo=some (.func (.func f) #[] #[])) (hargs:evL (evO E ch) c.args.toList=some [.iface t (.map (some r))])
  (hf : P.funcs[f]? = some fn) (hrt : (fn.name == "runtime.NumGoroutine") = false) (hbody : fn.body.isNone = true) (hn : Extern.findNext fn = none) (he : Extern.find fn = some Extern.MapsClone.clone)
  (hch:D7 ops E o.guard=some ch) (hd:G1 n ch o.dst=true) (hsure:M5 E ch=true) (hA:At W0 H r (.map es clock))
  (k:∀ b,GL false P ops (i+1) Q n (Env.put E o.dst ch (.iface t (.map (some b)))) W0 ([(b,.map es clock)]::H)):GL false P ops i Q n E W0 H:=by
 refine GL_eff (R:=fun v H1=>∃ b,v=.iface t (.map (some b))∧H1=[(b,.map es clock)]::H) ho hch hd hsure (fun rr hr w hs=>?_) (by rintro v H1 ⟨b,rfl,rfl⟩; exact k b)
 refine ⟨_,w.alloc (.map es clock),_,⟨w.heap.size,rfl,rfl⟩,hs.new rfl rfl rfl rfl,.inl ?_⟩
 unfold execOp
 simp only [hop]
 simp only [resolve,hce]
 rw [hr _ _ hfo,P0 hr hargs]
 simp only [Deferred.ofValue,Sem.run_bind,Sem.run_pure,Result.andThen_ok,invoke]
 have:=run_callFunc_extern hf hrt hbody hn he #[.iface t (.map (some r))] w
 simp only [Array.empty_append,Array.append_empty,this,run_clone t (hs.at hA),Result.andThen_ok]
theorem GL_assert {d:Bool} {P:Program} {ops:Array Oper} {i:Nat} {Q:F0} {n:Fr} {E:Env} {W0:World} {H:List Grp} {o:Oper} {ch:List (Nat × Bool)} {x:Operand} {xt t k e:TypeId} {v:Value}
  (ho:ops[i]? = some o) (hop:o.op=.typeAssert x xt t false) (hx:evO E ch x=some (.iface t v)) (hu:P.underlying t=some (.map k e))
  (hch:D7 ops E o.guard=some ch) (hd:G1 n ch o.dst=true) (hk:K5 E ch=true)
  (kk:GL d P ops (i+1) Q n (Env.put E o.dst ch v) W0 H):GL d P ops i Q n E W0 H:=by
 refine J1 ho hch hd hk (fun r hr _ w _=>?_) kk
 unfold execOp
 simp only [hop]
 rw [hr _ _ hx]
 simp [Instr.typeAssert,run_underlying hu,Result.andThen]
 exact ⟨rfl,rfl⟩
theorem GL_makeS {P:Program} {ops:Array Oper} {i:Nat} {Q:F0} {n:Fr} {E:Env} {W0:World} {H:List Grp} {o:Oper} {ch:List (Nat × Bool)} {t e:TypeId} {x y:Operand} {inf:TypeInfo} {z:Value} {l:Nat} {c:List Value}
  (ho:ops[i]? = some o:=by exact rfl) (hop:o.op=.makeSlice t x y:=by exact rfl) (hx:evO E ch x=some (.int .i64 (l:Int)):=by kernel_rfl) (hy:evO E ch y=some (.int .i64 (l:Int)):=by kernel_rfl) (ht:P.underlying t=some (.slice e):=by kernel_rfl) (hi:P.info? e=some inf:=by kernel_rfl) (hz:inf.zero=some z)
  (hb:(inf.bytes:Int) * (l:Int)≤281474976710656) (hl:l≤9223372036854775807) (hm:l * inf.size≤16777216) (hc:madeCells z.cells (l * inf.size)=c.toArray)
  (hch:D7 ops E o.guard=some ch:=by kernel_rfl) (hd:G1 n ch o.dst=true:=by kernel_rfl) (hsure:M5 E ch=true:=by kernel_rfl)
  (k:∀ b,GL false P ops (i+1) Q n (Env.put E o.dst ch (.slice (some ⟨b,0,none⟩) l l)) W0 ([(b,.cells c.toArray e)]::H)):GL false P ops i Q n E W0 H :=
 GL_new (f:=fun b=>.slice (some ⟨b,0,none⟩) l l) ho hch hd hsure (fun r hr w=>by
  unfold execOp; simp only [hop]
  rw [hr _ _ hx,hr _ _ hy]
  have:=run_makeSlice (P:=P) w t e inf z ht hi hz .i64 .i64 (l:Int) (l:Int) (by omega) (Int.le_refl _) (by simpa using hm) hb (by omega)
  simp only [Int.toNat_natCast,hc] at this
  simp only [Sem.run_bind,this,Result.andThen_ok]
  rfl) k
theorem O8 {P:Program} {ops:Array Oper} {i:Nat} {Q:F0} {n:Fr} {E:Env} {W0:World} {H:List Grp} {o:Oper} {ch:List (Nat × Bool)} {src dst e:TypeId} {x:Operand} {s:ByteArray}
    (ho:ops[i]? = some o:=by exact rfl) (hop:o.op=.convert src dst x:=by exact rfl) (hx:evO E ch x=some (.string s):=by kernel_rfl) (hs':P.underlying src=some .string:=by kernel_rfl) (hds:P.underlying dst=some (.slice e):=by kernel_rfl) (he:P.underlying e=some (.int .u8):=by kernel_rfl)
    (hch:D7 ops E o.guard=some ch:=by kernel_rfl) (hd:G1 n ch o.dst=true:=by kernel_rfl) (hsure:M5 E ch=true:=by kernel_rfl)
    (k:∀ b cap g,s.size≤cap→Rd (inG g) (some ⟨b,0,none⟩) (u8s s.data.toList)→GL false P ops (i+1) Q n (Env.put E o.dst ch (.slice (some ⟨b,0,none⟩) s.size cap)) W0 (g::H)):GL false P ops i Q n E W0 H:=by
  refine GL_eff (R:=fun v H1=>∃ b cap g,v=.slice (some ⟨b,0,none⟩) s.size cap∧s.size≤cap∧Rd (inG g) (some ⟨b,0,none⟩) (u8s s.data.toList)∧H1=g::H) ho hch hd hsure (fun rr hr w hs=>?_) (by rintro v H1 ⟨b,cap,g,rfl,h1,h2,rfl⟩; exact k b cap g h1 h2)
  have hrun:=run_bytes_of_string (P:=P) w src dst e s hs' hds he
  refine ⟨_,w.drew.alloc (.cells (bytesRow s (grownCap w s.size 0 e)) e ((bytesRow s (grownCap w s.size 0 e)).size,(bytesRow s (grownCap w s.size 0 e)).size+1)),_,⟨w.heap.size,grownCap w s.size 0 e,_,rfl,by have:=grownCap_ge w s.size 0 e; omega,?_,rfl⟩,(hs.drew).new rfl rfl rfl rfl,.inl ?_⟩
  refine .inr ⟨_,0,_,_,_,rfl,List.mem_singleton.2 rfl,fun j u hu=>?_⟩
  unfold u8s at hu
  rw [List.getElem?_map] at hu
  cases hj:s.data.toList[j]? with
  | none=>rw [hj] at hu; simp at hu
  | some b =>
    rw [hj] at hu
    simp only [Option.map_some,Option.some.injEq] at hu
    obtain ⟨hlt,hb⟩:=List.getElem?_eq_some_iff.1 hj
    have hlt':j<s.data.size:=by simpa using hlt
    rw [Nat.zero_add,bytesRow_at s _ j hlt',← hu,← hb]
    simp
  unfold execOp
  simp only [hop]
  rw [hr _ _ hx]
  simp only [Sem.run_bind,Sem.run_pure,hrun,Result.andThen_ok]
end Go.Sw
namespace Go.Sw
theorem V9 {P:Program} {ops:Array Oper} {i:Nat} {Q:F0} {n:Fr} {E:Env} {W0:World} {H:List Grp} {o:Oper} {ch:List (Nat × Bool)} {c:Call} {fo:Operand} {f:FuncId} {vs:List Value} {R:Value→List Grp→Prop}
  (ho:ops[i]? = some o) (hop:o.op=.call c) (hce:c.callee=.value fo) (hfo:evO E ch fo=some (.func (.func f) #[] #[])) (hargs:evL (evO E ch) c.args.toList=some vs)
  (hch:D7 ops E o.guard=some ch) (hd:G1 n ch o.dst=true) (hsure:M5 E ch=true)
  (hrun:∀ w,Sat W0 H w→∃ v w' H',R v H'∧Sat W0 H' w'∧(callFunc f vs.toArray).run P w=.ok (.value v) w')
  (k:∀ v H',R v H'→GL false P ops (i+1) Q n (Env.put E o.dst ch v) W0 H'):GL false P ops i Q n E W0 H:=by
 refine GL_eff ho hch hd hsure (fun r hr w hs=>?_) k
 obtain ⟨v,w',H',hR,hs',hc⟩:=hrun w hs
 refine ⟨v,w',H',hR,hs',.inl ?_⟩
 unfold execOp
 simp only [hop]
 simp only [resolve,hce]
 rw [hr _ _ hfo,P0 hr hargs]
 simp only [Deferred.ofValue,Sem.run_bind,Sem.run_pure,Result.andThen_ok,invoke,Array.empty_append,Array.append_empty,hc]
theorem cell_in {W0:World} {H:List Grp} {w:World} {g:Grp} {j b off:Nat} {c:Array Value} {e:TypeId} {v:Value} (hs:Sat W0 H w) (hj:H[j]? = some g) (hi:g[0]? = some (b,.cells c e (0,0))) (hv:c[off]? = some v) :
  w.heap[b]? = some (.cells c e (0,0))∧w.cell? ⟨b,off,none⟩=some v∧w.frozen? ⟨b,off,none⟩=false∧off<c.size:=by
 have hblk:=hs.has _ (List.mem_flatten.2 ⟨g,List.mem_of_getElem? hj,List.mem_of_getElem? hi⟩)
 obtain ⟨hlt,he⟩:=Array.getElem?_eq_some_iff.1 hv
 refine ⟨hblk,T5 hblk (by simpa using hv),?_,hlt⟩
 simp only [World.frozen?,hblk]
 simp
theorem set_wr {w:World} {b off:Nat} {c:Array Value} {e:TypeId} {v:Value} (h:w.heap[b]? = some (.cells c e (0,0))):Wr b (.cells (c.setIfInBounds off v) e (0,0)) w (w.setCell ⟨b,off,none⟩ v):=by
 have hb:b<w.heap.size:=by
  rcases Nat.lt_or_ge b w.heap.size with h' | h'
  exact h'
  simp [Array.getElem?_eq_none h'] at h
 refine ⟨rfl,rfl,rfl,by simp,?_,fun k hk=>?_⟩
 simp only [World.setCell,Array.getElem?_modify,↓reduceIte,h,Option.map_some]
 simp
 simp only [World.setCell,Array.getElem?_modify]
 rw [if_neg (fun e=>hk e.symm)]
theorem GL_cas {P:Program} {ops:Array Oper} {i:Nat} {Q:F0} {n:Fr} {E:Env} {W0:World} {H H':List Grp} {o:Oper} {ch:List (Nat × Bool)} {c:Call} {fo:Operand} {f:FuncId} {fn:Func} {kd:IntKind} {b off j:Nat} {x y:Int} {cs:Array Value} {e:TypeId} {g:Grp}
  (ho:ops[i]? = some o) (hop:o.op=.call c) (hce:c.callee=.value fo) (hfo:evO E ch fo=some (.func (.func f) #[] #[])) (hargs:evL (evO E ch) c.args.toList=some [.pointer (some ⟨b,off,none⟩),.int kd x,.int kd y])
  (hf : P.funcs[f]? = some fn) (hrt : (fn.name == "runtime.NumGoroutine") = false) (hbody : fn.body.isNone = true) (hn : Extern.findNext fn = none) (he : Extern.find fn = some (Extern.Atomic.casT (.int kd)))
  (hch:D7 ops E o.guard=some ch) (hd:G1 n ch o.dst=true) (hsure:M5 E ch=true)
  (hj:H[j]? = some g) (hi:g[0]? = some (b,.cells cs e (0,0))) (hv:cs[off]? = some (.int kd x)) (hH':H.set j (g.set 0 (b,.cells (cs.setIfInBounds off (.int kd y)) e (0,0)))=H')
  (k:GL false P ops (i+1) Q n (Env.put E o.dst ch (.bool true)) W0 H'):GL false P ops i Q n E W0 H :=
 V9 (R:=fun v H1=>v=.bool true∧H1=H') ho hop hce hfo hargs hch hd hsure (fun w hs=>by
  obtain ⟨h1,h2,h3,_⟩:=cell_in hs hj hi hv
  refine ⟨_,_,H',⟨rfl,rfl⟩,?_,run_call_cas_hit hf hrt hbody hn kd he h2 h3⟩
  have:=hs.wr hj hi (set_wr (off:=off) (v:=.int kd y) h1)
  rw [hH'] at this; exact this) (by rintro v H1 ⟨rfl,rfl⟩; exact k)
theorem GL_atLoad {P:Program} {ops:Array Oper} {i:Nat} {Q:F0} {n:Fr} {E:Env} {W0:World} {H:List Grp} {o:Oper} {ch:List (Nat × Bool)} {c:Call} {fo:Operand} {f:FuncId} {fn:Func} {kd:IntKind} {b off j:Nat} {x:Int} {cs:Array Value} {e:TypeId} {g:Grp}
  (ho:ops[i]? = some o) (hop:o.op=.call c) (hce:c.callee=.value fo) (hfo:evO E ch fo=some (.func (.func f) #[] #[])) (hargs:evL (evO E ch) c.args.toList=some [.pointer (some ⟨b,off,none⟩)])
  (hf : P.funcs[f]? = some fn) (hrt : (fn.name == "runtime.NumGoroutine") = false) (hbody : fn.body.isNone = true) (hn : Extern.findNext fn = none) (he : Extern.find fn = some (Extern.Atomic.loadT (.int kd)))
  (hch:D7 ops E o.guard=some ch) (hd:G1 n ch o.dst=true) (hsure:M5 E ch=true)
  (hj:H[j]? = some g) (hi:g[0]? = some (b,.cells cs e (0,0))) (hv:cs[off]? = some (.int kd x))
  (k:GL false P ops (i+1) Q n (Env.put E o.dst ch (.int kd x)) W0 H):GL false P ops i Q n E W0 H :=
 V9 (R:=fun v H1=>v=.int kd x∧H1=H) ho hop hce hfo hargs hch hd hsure (fun w hs=>by
  obtain ⟨h1,h2,h3,_⟩:=cell_in hs hj hi hv
  exact ⟨_,_,H,⟨rfl,rfl⟩,hs,run_call_load hf hrt hbody hn kd he h2⟩) (by rintro v H1 ⟨rfl,rfl⟩; exact k)
theorem GL_atStore {P:Program} {ops:Array Oper} {i:Nat} {Q:F0} {n:Fr} {E:Env} {W0:World} {H H':List Grp} {o:Oper} {ch:List (Nat × Bool)} {c:Call} {fo:Operand} {f:FuncId} {fn:Func} {kd:IntKind} {b off j:Nat} {y:Int} {u:Value} {cs:Array Value} {e:TypeId} {g:Grp}
  (ho:ops[i]? = some o) (hop:o.op=.call c) (hce:c.callee=.value fo) (hfo:evO E ch fo=some (.func (.func f) #[] #[])) (hargs:evL (evO E ch) c.args.toList=some [.pointer (some ⟨b,off,none⟩),.int kd y])
  (hf : P.funcs[f]? = some fn) (hrt : (fn.name == "runtime.NumGoroutine") = false) (hbody : fn.body.isNone = true) (hn : Extern.findNext fn = none) (he : Extern.find fn = some Extern.Atomic.storeT)
  (hch:D7 ops E o.guard=some ch) (hd:G1 n ch o.dst=true) (hsure:M5 E ch=true)
  (hj:H[j]? = some g) (hi:g[0]? = some (b,.cells cs e (0,0))) (hv:cs[off]? = some u) (hH':H.set j (g.set 0 (b,.cells (cs.setIfInBounds off (.int kd y)) e (0,0)))=H')
  (k:GL false P ops (i+1) Q n (Env.put E o.dst ch (.tuple #[])) W0 H'):GL false P ops i Q n E W0 H :=
 V9 (R:=fun v H1=>v=.tuple #[]∧H1=H') ho hop hce hfo hargs hch hd hsure (fun w hs=>by
  obtain ⟨h1,h2,h3,_⟩:=cell_in hs hj hi hv
  refine ⟨_,_,H',⟨rfl,rfl⟩,?_,run_call_store hf hrt hbody hn he h2 h3⟩
  have:=hs.wr hj hi (set_wr (off:=off) (v:=.int kd y) h1)
  rw [hH'] at this; exact this) (by rintro v H1 ⟨rfl,rfl⟩; exact k)
theorem GL_atAdd {P:Program} {ops:Array Oper} {i:Nat} {Q:F0} {n:Fr} {E:Env} {W0:World} {H H':List Grp} {o:Oper} {ch:List (Nat × Bool)} {c:Call} {fo:Operand} {f:FuncId} {fn:Func} {kd:IntKind} {b off j:Nat} {x y s:Int} {cs:Array Value} {e:TypeId} {g:Grp}
  (ho:ops[i]? = some o) (hop:o.op=.call c) (hce:c.callee=.value fo) (hfo:evO E ch fo=some (.func (.func f) #[] #[])) (hargs:evL (evO E ch) c.args.toList=some [.pointer (some ⟨b,off,none⟩),.int kd y])
  (hf : P.funcs[f]? = some fn) (hrt : (fn.name == "runtime.NumGoroutine") = false) (hbody : fn.body.isNone = true) (hn : Extern.findNext fn = none) (he : Extern.find fn = some (Extern.Atomic.update (Op.intArith .add) kd true))
  (hch:D7 ops E o.guard=some ch) (hd:G1 n ch o.dst=true) (hsure:M5 E ch=true)
  (hj:H[j]? = some g) (hi:g[0]? = some (b,.cells cs e (0,0))) (hv:cs[off]? = some (.int kd x)) (hsum:∀ w,(Op.intArith .add kd x y).run P w=.ok (.int kd s) w) (hH':H.set j (g.set 0 (b,.cells (cs.setIfInBounds off (.int kd s)) e (0,0)))=H')
  (k:GL false P ops (i+1) Q n (Env.put E o.dst ch (.int kd s)) W0 H'):GL false P ops i Q n E W0 H :=
 V9 (R:=fun v H1=>v=.int kd s∧H1=H') ho hop hce hfo hargs hch hd hsure (fun w hs=>by
  obtain ⟨h1,h2,h3,_⟩:=cell_in hs hj hi hv
  refine ⟨_,_,H',⟨rfl,rfl⟩,?_,run_call_add hf hrt hbody hn kd he h2 h3 (hsum w)⟩
  have:=hs.wr hj hi (set_wr (off:=off) (v:=.int kd s) h1)
  rw [hH'] at this; exact this) (by rintro v H1 ⟨rfl,rfl⟩; exact k)
theorem GL_mark0 {P:Program} {ops:Array Oper} {i:Nat} {Q:F0} {n:Fr} {E:Env} {W0:World} {H:List Grp} {o:Oper} {ch:List (Nat × Bool)} {c:Call} {fo:Operand} {f:FuncId} {fn:Func} {m:Mark}
  (ho:ops[i]? = some o:=by exact rfl) (hop:o.op=.call c:=by exact rfl) (hce:c.callee=.value fo:=by exact rfl) (hfo:evO E ch fo=some (.func (.func f) #[] #[]):=by kernel_rfl) (hargs:evL (evO E ch) c.args.toList=some []:=by kernel_rfl)
  (hf : P.funcs[f]? = some fn) (hrt : (fn.name == "runtime.NumGoroutine") = false := by exact rfl) (hbody : fn.body.isNone = true := by exact rfl) (hn : Extern.findNext fn = none := by exact rfl) (he : Extern.find fn = some (fun _ => do mark m; pure Extern.Race.none_) := by exact rfl)
  (hch:D7 ops E o.guard=some ch:=by kernel_rfl) (hd:G1 n ch o.dst=true:=by kernel_rfl) (hsure:M5 E ch=true:=by kernel_rfl)
  (k:GL false P ops (i+1) Q n (Env.put E o.dst ch (.tuple #[])) W0 H):GL false P ops i Q n E W0 H :=
 V9 (R:=fun v H1=>v=.tuple #[]∧H1=H) ho hop hce hfo hargs hch hd hsure (fun w hs=>⟨_,_,H,⟨rfl,rfl⟩,hs,run_call_mark0 hf hrt hbody hn m he w⟩) (by rintro v H1 ⟨rfl,rfl⟩; exact k)
theorem GL_markA {P:Program} {ops:Array Oper} {i:Nat} {Q:F0} {n:Fr} {E:Env} {W0:World} {H:List Grp} {o:Oper} {ch:List (Nat × Bool)} {c:Call} {fo:Operand} {f:FuncId} {fn:Func} {m:Addr→Mark} {a:Addr}
  (ho:ops[i]? = some o) (hop:o.op=.call c) (hce:c.callee=.value fo) (hfo:evO E ch fo=some (.func (.func f) #[] #[])) (hargs:evL (evO E ch) c.args.toList=some [.pointer (some a)])
  (hf : P.funcs[f]? = some fn) (hrt : (fn.name == "runtime.NumGoroutine") = false) (hbody : fn.body.isNone = true) (hn : Extern.findNext fn = none) (he : Extern.find fn = some (Extern.Race.marked m))
  (hch:D7 ops E o.guard=some ch) (hd:G1 n ch o.dst=true) (hsure:M5 E ch=true)
  (k:GL false P ops (i+1) Q n (Env.put E o.dst ch (.tuple #[])) W0 H):GL false P ops i Q n E W0 H :=
 V9 (R:=fun v H1=>v=.tuple #[]∧H1=H) ho hop hce hfo hargs hch hd hsure (fun w hs=>⟨_,_,H,⟨rfl,rfl⟩,hs,run_call_marked hf hrt hbody hn m he a w⟩) (by rintro v H1 ⟨rfl,rfl⟩; exact k)
theorem GL_toUnsafeA {d:Bool} {P:Program} {ops:Array Oper} {i:Nat} {Q:F0} {n:Fr} {E:Env} {W0:World} {H:List Grp} {o:Oper} {ch:List (Nat × Bool)} {src dst t e:TypeId} {x:Operand} {b off:Nat} {c:Array Value} {fz:Nat × Nat} {v:Value}
  (ho:ops[i]? = some o) (hop:o.op=.convert src dst x) (hx:evO E ch x=some (.pointer (some ⟨b,off,none⟩))) (hs:P.underlying src=some (.pointer t)) (hdd:P.underlying dst=some .unsafePointer) (hsz:(P.info? t).map (fun i=>decide (i.size=0))=some false)
  (hch:D7 ops E o.guard=some ch) (hd:G1 n ch o.dst=true) (hk:K5 E ch=true)
  (hA:At W0 H b (.cells c e fz)) (hc:c[off]? = some v)
  (k:GL d P ops (i+1) Q n (Env.put E o.dst ch (.pointer (some ⟨b,off,none⟩))) W0 H):GL d P ops i Q n E W0 H:=by
 refine J1 ho hch hd hk (fun r hr _ w hsat=>?_) k
 unfold execOp
 simp only [hop]
 rw [hr _ _ hx]
 have:=run_convert_to_unsafe hs hdd hsz (a:=⟨b,off,none⟩) (w:=w) (T5 (hsat.at hA) (by simpa using hc))
 simp only [Sem.run_bind,this,Result.andThen_ok]
 exact ⟨rfl,rfl⟩
def TriD (P:Program) (f:FuncId) (args:Array Value) (W0:World) (H:List Grp) (R:Value→List Grp→Prop):Prop :=
 ∀ u w,Sat W0 H w→CallsD P f args u w fun e u' w'=>u'=u∧∃ v H',e=.returned v∧R v H'∧Sat W0 H' w'
theorem Tri_ofd {P:Program} {f:FuncId} {fn:Func} {c:Code} {args:List Value} {n:Fr} {W0:World} {H:List Grp} {R:Value→List Grp→Prop}
  (hf:P.funcs[f]? = some fn) (hb:fn.body=some c) (hn:fn.ntmps=n.k) (hle:args.length≤n.k)
  (k:G P c (Body P fn W0 R) n (argEnv 0 args) W0 H) (hz:n.dl=[]:=by rfl):TriD P f args.toArray W0 H R:=by
 intro u w hs
 refine callsD_of_wp hf hb (k _ w ?_ hs)
 refine ⟨by unfold Fr.ds; rw [hz],by simp [hn]; omega,fun u w=>match args[u]? with | some v=>V0 v==some w | none=>false,?_,?_⟩
 intro s hs w
 obtain ⟨h1,h2,h3⟩:=S3 args 0 s hs
 simp only [Nat.sub_zero] at h3
 simp only [h3]
 intro s hs
 obtain ⟨h1,h2,h3⟩:=S3 args 0 s hs
 simp only [Nat.sub_zero] at h3
 rw [h1]
 simp only [chT,List.all_nil,if_true]
 have hlt:s.t<args.length:=by
  rcases Nat.lt_or_ge s.t args.length with h | h
  exact h
  simp [List.getElem?_eq_none h] at h3
 rw [Array.getElem?_append_left (by simpa using hlt)]
 simpa using h3
def BodyD (P:Program) (fn:Func) (W0:World) (R:Value→List Grp→Prop):F0 :=
 bodyPostD P fn fun e w'=>∃ v H',e=.returned v∧R v H'∧Sat W0 H' w'
theorem Tri_ofDf {P:Program} {f:FuncId} {fn:Func} {c:Code} {args:List Value} {n:Fr} {W0:World} {H:List Grp} {R:Value→List Grp→Prop}
  (hf:P.funcs[f]? = some fn) (hb:fn.body=some c) (hn:fn.ntmps=n.k) (hle:args.length≤n.k)
  (k:G P c (BodyD P fn W0 R) n (argEnv 0 args) W0 H) (hz:n.dl=[]:=by rfl):Tri P f args.toArray W0 H R:=by
 intro w hs
 refine calls_of_wp_defers hf hb (k _ w ?_ hs)
 refine ⟨by unfold Fr.ds; rw [hz],by simp [hn]; omega,fun u w=>match args[u]? with | some v=>V0 v==some w | none=>false,?_,?_⟩
 intro s hs w
 obtain ⟨h1,h2,h3⟩:=S3 args 0 s hs
 simp only [Nat.sub_zero] at h3
 simp only [h3]
 intro s hs
 obtain ⟨h1,h2,h3⟩:=S3 args 0 s hs
 simp only [Nat.sub_zero] at h3
 rw [h1]
 simp only [chT,List.all_nil,if_true]
 have hlt:s.t<args.length:=by
  rcases Nat.lt_or_ge s.t args.length with h | h
  exact h
  simp [List.getElem?_eq_none h] at h3
 rw [Array.getElem?_append_left (by simpa using hlt)]
 simpa using h3
theorem GL_defer {P:Program} {ops:Array Oper} {i:Nat} {Q:F0} {n:Fr} {E:Env} {W0:World} {H:List Grp} {o:Oper} {c:Call} {fo:Operand} {f:FuncId} {vs:List Value}
  (ho:ops[i]? = some o) (hop:o.op=.defer c) (hce:c.callee=.value fo) (hfo:evO E [] fo=some (.func (.func f) #[] #[])) (hargs:evL (evO E []) c.args.toList=some vs)
  (hgd:o.guard=none) (hdst:o.dst=none)
  (k:GL false P ops (i+1) Q ⟨n.k,{ target:=.fn (.func f) #[],args:=vs.toArray }::n.dl⟩ E W0 H):GL false P ops i Q n E W0 H:=by
 have hi:i<ops.toList.length:=by
  rcases Nat.lt_or_ge i ops.size with h | h
  simpa using h
  simp [Array.getElem?_eq_none h] at ho
 have hdrop:ops.toList.drop i=o::ops.toList.drop (i+1):=by
  rw [List.drop_eq_getElem_cons hi]
  congr 1
  have hi':i<ops.size:=by simpa using hi
  rw [Array.getElem?_eq_getElem hi'] at ho
  simpa using ho
 intro a w ha hs
 rw [hdrop]
 obtain ⟨β,hβ,hat⟩:=ha.at_
 have hcT:chT β []=true:=rfl
 have hw:Region.wanted o (yielded ops a.tmps)=true:=by unfold Region.wanted; rw [hgd]
 unfold wpList
 rw [hw,if_pos rfl]
 left
 have hrun:(execOp a.eval o).run P w=.ok (.defer { target:=.fn (.func f) #[],args:=vs.toArray }) w:=by
  unfold execOp
  simp only [hop]
  simp only [resolve,hce]
  rw [L0 hat hcT hfo,P0 (fun x v=>L0 hat hcT) hargs]
  simp only [Deferred.ofValue,Sem.run_bind,Sem.run_pure,Result.andThen_ok,Array.empty_append]
 unfold Oper.wp
 rw [hrun,Oper.upon_defer,hdst]
 refine k _ _ ⟨?_,ha.size,β,hβ,hat⟩ hs
 show _::a.defers=_
 rw [ha.defers]; rfl
inductive LvD (P:Program) (W0:World):List Deferred→List Grp→List Grp→Prop
 | nil {H:List Grp}:LvD P W0 [] H H
 | cons {f : FuncId} {vs : List Value} {fn : Func} {ds : List Deferred} {H H1 H' : List Grp} (hf : P.funcs[f]? = some fn) (hrt : (fn.name == "runtime.NumGoroutine") = false) (hbody : fn.body.isNone = false)
  (hc:TriD P f vs.toArray W0 H (fun _ H2=>H2=H1)) (hr:LvD P W0 ds H1 H'):LvD P W0 ({ target:=.fn (.func f) #[],args:=vs.toArray }::ds) H H'
theorem LvD.leaves {P:Program} {W0:World} {fn:Func} {tmps:Array Value} {R':Ending→World→Prop} {ds:List Deferred} {H H':List Grp} (h:LvD P W0 ds H H') :
    ∀ w,Sat W0 H w→(∀ w',Sat W0 H' w'→∃ v,(results fn tmps).run P w'=.ok v w'∧R' (.returned v) w')→Leaves P fn tmps R' ds .returning w:=by
  induction h with
  | nil=>exact fun w hs hk=>hk w hs
  | cons hf hrt hbody hc hr ih =>
    intro w hs hk
    refine leaves_cons (by intro h; cases h) (f:=_) (args:=_) ?_ ((hc .returning w hs).mono ?_)
    simp only [invoke,callFunc,Sem.run_bind,run_program,hf,hrt,hbody,Bool.false_eq_true,if_false,Array.append_empty,Result.andThen_ok,Sem.run_pure]
    rintro e u' w' ⟨rfl,v,H2,rfl,rfl,hs'⟩
    exact ih w' hs' hk
theorem N_retD {P:Program} {fn:Func} {n:Fr} {E:Env} {W0:World} {H H':List Grp} {R:Value→List Grp→Prop} {x:Exit} (rs:List ResultVar) (l:List Value)
  (hr:fn.results=rs.toArray) (h:resV E rs=some l) (hx:(match x with | .normal=>true | .ret=>true | _=>false)=true) (hl:LvD P W0 n.dl H H') (k:R (packV l) H'):N (BodyD P fn W0 R) x n E W0 H:=by
 intro a w ha hs
 have key:Leaves P fn a.tmps (fun e w'=>∃ v H',e=.returned v∧R v H'∧Sat W0 H' w') a.defers .returning w:=by
  rw [ha.defers]
  exact hl.leaves w hs fun w' hs'=>⟨_,results_of ha h hr w',packV l,H',rfl,k,hs'⟩
 cases x <;> simp at hx
 exact key
 exact key
theorem T2 {P:Program} {ops:Array Oper} {i:Nat} {Q:F0} {n:Fr} {E:Env} {W0:World} {H:List Grp} {o:Oper} {c:Call} {fo:Operand} {name:String} {t:TypeId} {rv:Value} {f:FuncId} {vs:List Value} {av:Array Value} {R:Value→List Grp→Prop}
  (ho:ops[i]? = some o:=by exact rfl) (hop:o.op=.call c:=by exact rfl) (hce:c.callee=.invoke fo name:=by exact rfl) (hfo:evO E [] fo=some (.iface t rv):=by kernel_rfl) (hargs:evL (evO E []) c.args.toList=some vs:=by kernel_rfl)
  (hgd:o.guard=none:=by exact rfl) (hd:G1 n [] o.dst=true:=by kernel_rfl)
  (hm:∀ w,(callMethod (.iface t rv) name vs.toArray).run P w=.ok (.enter f av) w)
  (hc:Tri P f av W0 H R)
  (k:∀ v H',R v H'→GL false P ops (i+1) Q n (Env.put E o.dst [] v) W0 H'):GL false P ops i Q n E W0 H:=by
 have hi:i<ops.toList.length:=by
  rcases Nat.lt_or_ge i ops.size with h | h
  simpa using h
  simp [Array.getElem?_eq_none h] at ho
 have hdrop:ops.toList.drop i=o::ops.toList.drop (i+1):=by
  rw [List.drop_eq_getElem_cons hi]
  congr 1
  have hi':i<ops.size:=by simpa using hi
  rw [Array.getElem?_eq_getElem hi'] at ho
  simpa using ho
 intro a w ha hs
 rw [hdrop]
 obtain ⟨β,hβ,hat⟩:=ha.at_
 have hcT:chT β []=true:=rfl
 have hw:Region.wanted o (yielded ops a.tmps)=true:=by unfold Region.wanted; rw [hgd]
 unfold wpList
 rw [hw,if_pos rfl]
 left
 have hrun:(execOp a.eval o).run P w=.ok (.enter f av) w:=by
  unfold execOp
  simp only [hop]
  simp only [resolve,hce]
  rw [L0 hat hcT hfo,P0 (fun x v=>L0 hat hcT) hargs]
  simp only [Sem.run_bind,Sem.run_pure,Result.andThen_ok,invoke]
  have e1:((#[Value.iface t rv]++vs.toArray)[0]?)=some (.iface t rv):=by simp
  have e2:(#[Value.iface t rv]++vs.toArray).extract 1 (#[Value.iface t rv]++vs.toArray).size=vs.toArray:=by
   apply Array.ext'
   simp [List.extract_eq_take_drop]
  simp only [e1,e2,hm]
 unfold Oper.wp
 rw [hrun]
 refine (hc w hs).mono ?_
 rintro e w' ⟨v,H',rfl,hR,hs'⟩
 have hput:=Ag.put ha hβ hat hd v
 rw [if_pos hcT] at hput
 exact k v H' hR _ _ hput hs'
theorem GL_makeLC {P:Program} {ops:Array Oper} {i:Nat} {Q:F0} {n:Fr} {E:Env} {W0:World} {H:List Grp} {o:Oper} {ch:List (Nat × Bool)} {t e:TypeId} {x y:Operand} {inf:TypeInfo} {z:Value} {l m:Nat} {c:List Value}
  (ho:ops[i]? = some o:=by exact rfl) (hop:o.op=.makeSlice t x y:=by exact rfl) (hx:evO E ch x=some (.int .i64 (l:Int)):=by kernel_rfl) (hy:evO E ch y=some (.int .i64 (m:Int)):=by kernel_rfl) (ht:P.underlying t=some (.slice e):=by kernel_rfl) (hi:P.info? e=some inf:=by kernel_rfl) (hz:inf.zero=some z)
  (hlm:l≤m) (hb:(inf.bytes:Int) * (m:Int)≤281474976710656) (hl:m≤9223372036854775807) (hm:m * inf.size≤16777216) (hc:madeCells z.cells (m * inf.size)=c.toArray)
  (hch:D7 ops E o.guard=some ch:=by kernel_rfl) (hd:G1 n ch o.dst=true:=by kernel_rfl) (hsure:M5 E ch=true:=by kernel_rfl)
  (k:∀ b,GL false P ops (i+1) Q n (Env.put E o.dst ch (.slice (some ⟨b,0,none⟩) l m)) W0 ([(b,.cells c.toArray e)]::H)):GL false P ops i Q n E W0 H :=
 GL_new (f:=fun b=>.slice (some ⟨b,0,none⟩) l m) ho hch hd hsure (fun r hr w=>by
  unfold execOp; simp only [hop]
  rw [hr _ _ hx,hr _ _ hy]
  have:=run_makeSlice (P:=P) w t e inf z ht hi hz .i64 .i64 (l:Int) (m:Int) (by omega) (by omega) (by simpa using hm) hb (by omega)
  simp only [Int.toNat_natCast,hc] at this
  simp only [Sem.run_bind,this,Result.andThen_ok]
  rfl) k
end Go.Sw
namespace Go.Proofs.YtcgmnagcgkhogaaGreatDoor
open Go.Sw
def repG (b:Nat) (d s:Int) (r t:Value):Grp:=[(b,.cells #[.int .u32 d,.int .i32 s,.int .u32 0,r,t] 150 (0,0))]
theorem b32_  (W0:World) (H:List Grp):Tri Tryz.prog 139 #[.bool true] W0 H (fun v H'=>v=.int .u32 1∧H'=H):=by
 refine D5 4 Tryz.func139 ?_
 refine A1 (C3 (E':=[⟨0,[],.bool true⟩]) [0] [0] (k:=A0 (A1 (A1 (C3 (E':=[⟨3,[],.bool true⟩]) [0] [3] (k:=A0 (B9 kr (A1 ?_))))))))
 refine C3 (E':=[⟨2,[],.int .u32 1⟩]) [0] [2] (k:=A0 (B4 (A4 (B7 [.tmp 2] [.int .u32 1] (k:=?_)))))
 exact ⟨rfl,rfl⟩
theorem bLoad0 (b:Nat) (r t:Value) (s:Int) (W0:World) (H:List Grp):Tri Tryz.prog 109 #[pt b] W0 ([(b,.cells #[.int .u32 0,.int .i32 s,.int .u32 0,r,t] 150 (0,0))]::H) (fun v H'=>v=.bool false∧H'=repG b 0 s r t::H):=by
 refine D5 8 Tryz.func109 ?_
 refine A1 (C3 (E':=[⟨0,[],pt b⟩]) [0] [0] (k:=A0 (A1 (A2 (A3 (j:=3) [0,0,0] (k:=GL_atLoad (i:=3) (ch:=[]) (f:=124) (kd:=.u32) (b:=b) (off:=0) (j:=0) (x:=0) rfl rfl rfl kr kr Tryz.func124 rfl rfl rfl rfl kr kr kr rfl rfl rfl (C0 (E':=[⟨2,[],.bool false⟩]) [0,0] [2] (k:=A0 ?_))))))))
 refine B4 (B7 [.tmp 2] [.bool false] (k:=?_))
 exact ⟨rfl,rfl⟩
theorem mLock (b:Nat) (r t:Value) (d:Int) (W0:World) (H:List Grp):Tri Tryz.prog 136 #[.pointer (some ⟨b,1,none⟩)] W0 ([(b,.cells #[.int .u32 d,.int .i32 0,.int .u32 0,r,t] 150 (0,0))]::H) (fun _ H'=>H'=repG b d 1 r t::H):=by
 refine D5 13 Tryz.func136 ?_
 refine A1 (A2 (GL_mark0 (ch:=[]) (f:=144) (hf:=Tryz.func144) (k:=C0 (E':=[⟨0,[],.pointer (some ⟨b,1,none⟩)⟩]) [] [0] (k:=A0 (A1 (A1 (A2 (A3 (j:=3) [0,0,0] (k:=?_)))))))))
 refine GL_cas (H':=([(b,.cells #[.int .u32 d,.int .i32 1,.int .u32 0,r,t] 150 (0,0))]::H)) (i:=3) (ch:=[]) (f:=145) (kd:=.i32) (b:=b) (off:=1) (j:=0) (x:=0) (y:=1) rfl rfl rfl kr kr Tryz.func145 rfl rfl rfl rfl kr kr kr rfl rfl rfl rfl (A5 [] [0,6] (k:=A0 (B9 kr (A1 (B9 kr (A1 (A2 (GL_mark0 (ch:=[]) (f:=146) (hf:=Tryz.func146) (k:=?_)))))))))
 refine C0 (E':=[⟨0,[],.pointer (some ⟨b,1,none⟩)⟩]) [] [0] (k:=A0 (A2 (A3 (j:=1) [0] (k:=GL_toUnsafeA (i:=1) (ch:=[]) (t:=142) (e:=150) (b:=b) (off:=1) (v:=.int .i32 1) rfl rfl kr kr kr kr kr kr kr (At.grp 0 0 rfl rfl) rfl (GL_markA (i:=2) (ch:=[]) (f:=147) (a:=⟨b,1,none⟩) rfl rfl rfl kr kr Tryz.func147 rfl rfl rfl rfl kr kr kr (C0 (E':=[]) [] [] (k:=A0 (B4 ?_))))))))
 refine A4 (B7 [] [] (k:=?_))
 exact rfl
theorem muLock (b:Nat) (r t:Value) (d:Int) (W0:World) (H:List Grp):Tri Tryz.prog 125 #[.pointer (some ⟨b,1,none⟩)] W0 ([(b,.cells #[.int .u32 d,.int .i32 0,.int .u32 0,r,t] 150 (0,0))]::H) (fun _ H'=>H'=repG b d 1 r t::H):=by
 refine D5 6 Tryz.func125 ?_
 refine A2 (A3 (j:=3) [0,0,0] (k:=D9 Tryz.func136 (mLock b (r) (t) d _ _) ?_))
 rintro _ _ rfl
 refine C0 (E':=[]) [] [] (k:=B7 [] [] (k:=?_))
 exact rfl
theorem mUnlock (b:Nat) (r t:Value) (d:Int) (W0:World) (H:List Grp):Tri Tryz.prog 137 #[.pointer (some ⟨b,1,none⟩)] W0 ([(b,.cells #[.int .u32 d,.int .i32 1,.int .u32 0,r,t] 150 (0,0))]::H) (fun _ H'=>H'=repG b d 0 r t::H):=by
 refine D5 21 Tryz.func137 ?_
 refine A1 (B9 kr (A1 (A2 (A3 (j:=3) [0,0,0] (k:=C1 0 1 rfl rfl (C0 (E':=[⟨0,[],.pointer (some ⟨b,1,none⟩)⟩]) [] [0] (k:=A0 (A1 ?_))))))))
 refine A2 (A3 (j:=1) [0] (k:=GL_toUnsafeA (i:=1) (ch:=[]) (t:=142) (e:=150) (b:=b) (off:=1) (v:=.int .i32 1) rfl rfl kr kr kr kr kr kr kr (At.grp 0 0 rfl rfl) rfl (GL_markA (i:=2) (ch:=[]) (f:=149) (a:=⟨b,1,none⟩) rfl rfl rfl kr kr Tryz.func149 rfl rfl rfl rfl kr kr kr (C0 (E':=[⟨0,[],.pointer (some ⟨b,1,none⟩)⟩]) [] [0] (k:=A0 (A2 (GL_mark0 (ch:=[]) (f:=144) (hf:=Tryz.func144) (k:=C0 (E':=[⟨0,[],.pointer (some ⟨b,1,none⟩)⟩]) [] [0] (k:=?_)))))))))
 refine A0 (A1 (A2 (A3 (j:=3) [0,0,0] (k:=GL_atAdd (H':=([(b,.cells #[.int .u32 d,.int .i32 0,.int .u32 0,r,t] 150 (0,0))]::H)) (i:=3) (ch:=[]) (f:=150) (kd:=.i32) (b:=b) (off:=1) (j:=0) (x:=1) (y:=(-1)) (s:=0) rfl rfl rfl kr kr Tryz.func150 rfl rfl rfl rfl kr kr kr rfl rfl rfl (fun _=>rfl) rfl (A5 [0] [0,2] (k:=A0 (A1 (A1 ?_))))))))
 refine G_p [0,0] [0,2,16] (k:=A0 (C5 kr (A7 (A0 (A2 (GL_mark0 (ch:=[]) (f:=146) (hf:=Tryz.func146) (k:=C0 (E':=[]) [] [] (k:=B7 [] [] (k:=?_)))))))))
 exact rfl
theorem muUnlockD (b:Nat) (r t:Value) (d:Int) (W0:World) (H:List Grp):TriD Tryz.prog 126 #[.pointer (some ⟨b,1,none⟩)] W0 ([(b,.cells #[.int .u32 d,.int .i32 1,.int .u32 0,r,t] 150 (0,0))]::H) (fun _ H'=>H'=repG b d 0 r t::H):=by
 refine Tri_ofd (args:=[.pointer (some ⟨b,1,none⟩)]) (n:=6) Tryz.func126 rfl rfl (Nat.le_of_ble_eq_true rfl) ?_
 refine A2 (A3 (j:=3) [0,0,0] (k:=D9 Tryz.func137 (mUnlock b (r) (t) d _ _) ?_))
 rintro _ _ rfl
 refine C0 (E':=[]) [] [] (k:=B7 [] [] (k:=?_))
 exact rfl
theorem bStoreD (b:Nat) (r t:Value) (s:Int) (W0:World) (H:List Grp):TriD Tryz.prog 127 #[pt b,.bool true] W0 ([(b,.cells #[.int .u32 0,.int .i32 s,.int .u32 0,r,t] 150 (0,0))]::H) (fun _ H'=>H'=repG b 1 s r t::H):=by
 refine Tri_ofd (args:=[pt b,.bool true]) (n:=10) Tryz.func127 rfl rfl (Nat.le_of_ble_eq_true rfl) ?_
 refine H3 H kr (G0 (fuel:=5) [(0,0)] (fun w h=>(h.pk 1 [])) (k:=J3 (ad:=⟨b,0,none⟩) 1 (hL:=(fun w h=>(h.pk 1 []))) (k:=G0 (fuel:=2) [(2,0),(3,0)] (fun w h=>(h.pk 1 [])) (k:=C6 4 (k:=H5 Tryz.func139 (b32_ _ _) (A9 kr (fun w h=>(h.pk 1 [])) (C6 5 (k:=GL_atStore (H':=([(b,.cells #[.int .u32 1,.int .i32 s,.int .u32 0,r,t] 150 (0,0))]::H)) (i:=5) (ch:=[]) (f:=138) (kd:=.u32) (b:=b) (off:=0) (j:=0) (y:=1) rfl rfl rfl kr kr Tryz.func138 rfl rfl rfl rfl kr kr kr rfl rfl rfl rfl ?_))))))))
 refine A9 kr (fun w h=>(h.pk 1 [])) (D8 (E':=[]) [] (k:=B7 [] [] (k:=?_)))
 exact rfl
theorem doSlow_ (b:Nat) (r t t2:Value) (K:List Grp) (S:Value→List Grp→Prop) (hb:∀ W0 H,Tri Tryz.prog 94 #[pt b] W0 (repG b 0 1 r t::(K++H)) (fun _ H'=>∃ r2 K2,S r2 K2∧H'=repG b 0 1 r2 t2::(K2++H))) (W0:World) (H:List Grp):Tri Tryz.prog 110 #[pt b,.func (.func 94) #[pt b] #[]] W0 ([(b,.cells #[.int .u32 0,.int .i32 0,.int .u32 0,r,t] 150 (0,0))]::(K++H)) (fun _ H'=>∃ r2 K2,S r2 K2∧H'=repG b 1 0 r2 t2::(K2++H)):=by
 refine Tri_ofDf (args:=[pt b,.func (.func 94) #[pt b] #[]]) (n:=21) Tryz.func110 rfl rfl (Nat.le_of_ble_eq_true rfl) ?_
 refine A1 (A2 (A3 (j:=3) [0,0,0] (k:=D9 Tryz.func125 (muLock b (r) (t) 0 _ _) ?_)))
 rintro _ _ rfl
 refine A5 [] [0,1] (k:=A0 (A1 (A2 (A3 (j:=3) [0,0,0] (k:=GL_defer (i:=3) (f:=126) (vs:=[.pointer (some ⟨b,1,none⟩)]) rfl rfl rfl kr kr rfl rfl (A5 [] [0,1] (k:=A0 (A1 ?_))))))))
 refine A2 (A3 (j:=3) [0,0,0] (k:=D9 Tryz.func109 (bLoad0 b (r) (t) 1 _ _) ?_))
 rintro _ _ ⟨rfl,rfl⟩
 refine A5 [0] [0,1,15] (k:=A0 (B9 kr (A1 (A2 (A3 (j:=3) [0,0,0] (k:=GL_defer (i:=3) (f:=127) (vs:=[pt b,.bool true]) rfl rfl rfl kr kr rfl rfl (C0 (E':=[⟨1,[],.func (.func 94) #[pt b] #[]⟩]) [] [1] (k:=A0 ?_))))))))
 refine A2 (A3 (j:=1) [0] (k:=Q3 (ch:=[]) (f:=94) (fst:=#[pt b]) (caps:=#[]) (vs:=[]) (hf:=Tryz.func94) (hsure:=M3 kr) (hc:=hb _ _) (k:=?_)))
 rintro _ _ ⟨r2,K2,hS,rfl⟩
 refine C0 (E':=[]) [] [] (k:=N_retD [] [] rfl kr rfl (.cons Tryz.func127 rfl rfl (bStoreD b r2 t2 1 _ _) (.cons Tryz.func126 rfl rfl (muUnlockD b r2 t2 1 _ _) .nil)) ?_)
 exact ⟨_,_,hS,rfl⟩
theorem onceDo_ (b:Nat) (r t t2:Value) (K:List Grp) (S:Value→List Grp→Prop) (hb:∀ W0 H,Tri Tryz.prog 94 #[pt b] W0 (repG b 0 1 r t::(K++H)) (fun _ H'=>∃ r2 K2,S r2 K2∧H'=repG b 0 1 r2 t2::(K2++H))) (W0:World) (H:List Grp):Tri Tryz.prog 93 #[pt b,.func (.func 94) #[pt b] #[]] W0 ([(b,.cells #[.int .u32 0,.int .i32 0,.int .u32 0,r,t] 150 (0,0))]::(K++H)) (fun _ H'=>∃ r2 K2,S r2 K2∧H'=repG b 1 0 r2 t2::(K2++H)):=by
 refine D5 12 Tryz.func93 ?_
 refine A1 (A2 (A3 (j:=3) [0,0,0] (k:=D9 Tryz.func109 (bLoad0 b (r) (t) 0 _ _) ?_)))
 rintro _ _ ⟨rfl,rfl⟩
 refine A5 [0] [0,1,8] (k:=A0 (B9 kr (A2 (A3 (j:=2) [0,0] (k:=D9 Tryz.func110 (doSlow_ b r t t2 K S hb _ _) ?_)))))
 rintro _ _ ⟨r2,K2,hS,rfl⟩
 refine C0 (E':=[]) [] [] (k:=B7 [] [] (k:=?_))
 exact ⟨_,_,hS,rfl⟩
end Go.Proofs.YtcgmnagcgkhogaaGreatDoor
namespace Go.Proofs.YtcgmnagcgkhogaaGreatDoor
open Go.Sw
theorem own_nilE {et:TypeId} {sz:Nat} {v:Value} {g:Grp} {m:Nat} {cs:List Value} (h:Go.Sw.Own et sz v g (0+m) ([]++cs)):Go.Sw.Own et sz v g m cs:=by rw [Nat.zero_add,List.nil_append] at h; exact h
def htmlT:List Value:=[.string (mB #[38]),.string (mB #[38,97,109,112,59]),.string (mB #[60]),.string (mB #[38,108,116,59]),.string (mB #[62]),.string (mB #[38,103,116,59]),.string (mB #[34]),.string (mB #[38,113,117,111,116,59]),.string (mB #[39]),.string (mB #[38,35,51,57,59])]
abbrev _root_.Go.aB:=mB #[38,113,117,111,116,59]
abbrev _root_.Go.aC:=mB #[38,97,109,112,59]
abbrev _root_.Go.aD:=mB #[38,103,116,59]
abbrev _root_.Go.aE:=mB #[38,108,116,59]
abbrev _root_.Go.aG:=mB #[38,35,51,57,59]
theorem newRep_ (v:Nat) (W0:World) (H:List Grp):Tri Tryz.prog 70 #[.slice (some ⟨v,0,none⟩) 10 10] W0 ([(v,.cells #[.string (mB #[38]),.string aC,.string (mB #[60]),.string aE,.string (mB #[62]),.string aD,.string (mB #[34]),.string aB,.string (mB #[39]),.string aG] 9 (0,0))]::H) (fun x H'=>∃ b a cap g,x=pt b∧Go.Sw.Own 9 1 (.slice a 10 cap) g 10 htmlT∧H'=repG b 0 0 .nilIface (.slice a 10 cap)::g::[(v,.cells #[.string (mB #[38]),.string aC,.string (mB #[60]),.string aE,.string (mB #[62]),.string aD,.string (mB #[34]),.string aB,.string (mB #[39]),.string aG] 9 (0,0))]::H):=by
 refine D5 12 Tryz.func70 ?_
 refine A1 (G_p [0] [0] (k:=A0 (A1 (A1 (A2 (A3 (j:=3) [0,0,0] (k:=?_)))))))
 have hw1:Int.tmod 10 2=10 % 2:=r64 (by omega)
 refine GL_w 5 hw1 kr (A5 [0] [0,6] (k:=A0 (B1 (b:=(10 % 2)==1) kr (fun hc2=>?_) (fun hc2=>?_))))
 exact absurd hc2 (by decide)
 refine A7 (A0 (A1 (A2 (A3 (j:=1) [0] (k:=GL_heap rfl (H':=([]::[(v,.cells #[.string (mB #[38]),.string aC,.string (mB #[60]),.string aE,.string (mB #[62]),.string aD,.string (mB #[34]),.string aB,.string (mB #[39]),.string aG] 9 (0,0))]::H)) (fun w h=>h.flat (List.Perm.refl _)) (L8 (inf:=Tryz.t9) (e:=9) (s:=.slice none 0 0) 10 1 0 rfl rfl Go.Sw.Own.nil (by omega) (by show (0+10) * 16≤140737488355328; omega) (fun v3 g4 hO5=>?_)))))))
 replace hO5:=own_nilE hO5
 obtain ⟨a6,cap7,rfl,hcap8,hrd9⟩:=hO5.shape
 refine A3 (j:=3) [0] (k:=V3 (.agg #[.int .u32 0,.int .i32 0,.int .u32 0,.nilIface,.slice a6 10 cap7]) (fun b10=>C0 (E':=[⟨2,[],pt b10⟩]) [0] [2] (k:=A0 (B4 (B7 [.tmp 2] [pt b10] (k:=?_))))))
 exact ⟨_,_,_,_,rfl,hO5,rfl⟩
end Go.Proofs.YtcgmnagcgkhogaaGreatDoor
namespace Go.Sw
theorem frozen_end {w:World} {b:Nat} {c:Array Value} {e:TypeId} (h:w.heap[b]? = some (.cells c e (0,0))):Wr b (.cells c e (c.size,c.size+1)) w (w.freeze ⟨b,c.size,none⟩ 1):=by
 have hlt:b<w.heap.size:=by
  rcases Nat.lt_or_ge b w.heap.size with h' | h'
  exact h'
  rw [Array.getElem?_eq_none h'] at h; cases h
 have hb:w.heap[b]=.cells c e (0,0):=by rw [Array.getElem?_eq_getElem hlt] at h; exact Option.some.inj h
 unfold World.freeze
 rw [if_neg (by decide)]
 refine ⟨rfl,rfl,rfl,Array.size_modify,?_,fun k hk=>?_⟩
 show (w.heap.modify b _)[b]? = _
 rw [Array.getElem?_modify,if_pos rfl,h]
 rfl
 show (w.heap.modify b _)[k]? = _
 rw [Array.getElem?_modify,if_neg (by omega)]
theorem GL_sameBytes {P:Program} {ops:Array Oper} {i:Nat} {Q:F0} {n:Fr} {E:Env} {W0:World} {H H':List Grp} {o:Oper} {ch:List (Nat × Bool)} {t e:TypeId} {x:Operand} {b off l cap:Nat} {c:Array Value} {e':TypeId} {g:Grp} {j m:Nat}
  (ho:ops[i]? = some o) (hop:o.op=.convert t t x) (hx:evO E ch x=some (.slice (some ⟨b,off,none⟩) l cap)) (ht:P.underlying t=some (.slice e)) (he:P.underlying e=some (.int .u8))
  (hch:D7 ops E o.guard=some ch) (hd:G1 n ch o.dst=true) (hsure:M5 E ch=true)
  (hj:H[j]? = some g) (hi:g[m]? = some (b,.cells c e' (0,0))) (hH':H.set j (g.set m (b,.cells c e' (c.size,c.size+1)))=H')
  (k:GL false P ops (i+1) Q n (Env.put E o.dst ch (.slice (some ⟨b,off,none⟩) l cap)) W0 H'):GL false P ops i Q n E W0 H:=by
 refine GL_eff (R:=fun v H1=>v=.slice (some ⟨b,off,none⟩) l cap∧H1=H') ho hch hd hsure (fun r hr w hs=>?_) (by rintro v H1 ⟨rfl,rfl⟩; exact k)
 have hblk:=hs.has _ (List.mem_flatten.2 ⟨g,List.mem_of_getElem? hj,List.mem_of_getElem? hi⟩)
 have hw:=frozen_end hblk
 have hsh:w.shape? b=some (e',c.size):=by unfold World.shape?; rw [hblk]
 refine ⟨_,w.freeze ⟨b,c.size,none⟩ 1,H',⟨rfl,rfl⟩,?_,.inl ?_⟩
 have:=hs.wr hj hi hw
 rw [hH'] at this; exact this
 unfold execOp
 simp only [hop]
 rw [hr _ _ hx]
 simp [convert,run_underlying ht,run_underlying he,markStringish,hsh]
end Go.Sw
namespace Go.Sw
open Go.RowKit
theorem GL_copy {P:Program} {ops:Array Oper} {i:Nat} {Q:F0} {n:Fr} {E:Env} {W0:World} {H H':List Grp} {o:Oper} {ch:List (Nat × Bool)} {dT sT el:TypeId} {x y:Operand}
  {b o1 n1 c1 n2 c2:Nat} {a:Addr} {c c':Array Value} {e:TypeId} {g:Grp} {j m:Nat} (cs:List Value)
  (ho:ops[i]? = some o) (hop:o.op=.call { callee:=.builtin .copy,args:=#[x,y],argTypes:=#[dT,sT] }) (hx:evO E ch x=some (.slice (some ⟨b,o1,none⟩) n1 c1)) (hy:evO E ch y=some (.slice (some a) n2 c2))
  (hu:P.underlying dT=some (.slice el)) (hs1:(P.info? el).map (·.size)=some 1)
  (hch:D7 ops E o.guard=some ch) (hd:G1 n ch o.dst=true) (hsure:M5 E ch=true)
  (hj:H[j]? = some g) (hi:g[m]? = some (b,.cells c e (0,0))) (hn:cs.length=Nat.min n2 n1)
  (hsrc:∀ w,Sat W0 H w→∀ k v,cs[k]? = some v→w.cell? (a.add k)=some v) (hfit:o1+cs.length≤c.size) (h1:(cs.all Value.oneCell')=true)
  (hc':(c.toList.take o1++cs++c.toList.drop (o1+cs.length)).toArray=c') (hH':H.set j (g.set m (b,.cells c' e (0,0)))=H')
  (k:GL false P ops (i+1) Q n (Env.put E o.dst ch (.int .i64 (cs.length:Int))) W0 H'):GL false P ops i Q n E W0 H:=by
 refine GL_eff (R:=fun v H1=>v=.int .i64 (cs.length:Int)∧H1=H') ho hch hd hsure (fun r hr w hs=>?_) (by rintro v H1 ⟨rfl,rfl⟩; exact k)
 have hblk:=hs.has _ (List.mem_flatten.2 ⟨g,List.mem_of_getElem? hj,List.mem_of_getElem? hi⟩)
 have hrun:=run_copy_row (P:=P) w dT sT o.type el b o1 n1 c1 a n2 c2 c e cs hu hs1 hblk hn (hsrc w hs) hfit (fun v hv=>List.all_eq_true.1 h1 v hv)
 rw [hc'] at hrun
 have hwr:Wr b (.cells c' e (0,0)) w (w.setRow b c'):=by
  have hlt:=(Array.getElem?_eq_some_iff.1 hblk).1
  refine ⟨rfl,rfl,rfl,by simp [World.setRow],setRow_heap w b c c' e (0,0) hblk,fun k hk=>?_⟩
  show (w.heap.modify b _)[k]? = w.heap[k]?
  rw [Array.getElem?_modify,if_neg (Ne.symm hk)]
 refine ⟨_,w.setRow b c',H',⟨rfl,rfl⟩,?_,.inl ?_⟩
 have:=hs.wr hj hi hwr
 rw [hH'] at this; exact this
 unfold execOp
 simp only [hop,resolve,Array.map,Sem.run_bind,Sem.run_pure,Result.andThen_ok,invoke,Go.builtin]
 simp [hr _ _ hx,hr _ _ hy,hrun,goInt,Result.andThen_ok]
theorem GL_indexV {d:Bool} {P:Program} {ops:Array Oper} {i:Nat} {Q:F0} {n:Fr} {E:Env} {W0:World} {H:List Grp} {o:Oper} {ch:List (Nat × Bool)} {t e:TypeId} {x ix:Operand} {vs:Array Value} {kd:IntKind} {j:Int} {len:Nat} {v:Value}
  (ho:ops[i]? = some o) (hop:o.op=.index t x ix) (hx:evO E ch x=some (.agg vs)) (hix:evO E ch ix=some (.int kd j)) (hu:P.underlying t=some (.array len e)) (hsz:T3 P e=some 1) (hag:aggB P e=some false)
  (hch:D7 ops E o.guard=some ch) (hd:G1 n ch o.dst=true) (hk:K5 E ch=true)
  (hb:chB E ch→0≤j∧j<len∧vs[j.toNat]? = some v)
  (k:GL d P ops (i+1) Q n (Env.put E o.dst ch v) W0 H):GL d P ops i Q n E W0 H:=by
 refine J1 ho hch hd hk (fun r hr hcb w _=>?_) k
 obtain ⟨h0,h1,h2⟩:=hb hcb
 unfold execOp
 simp only [hop]
 rw [hr _ _ hx,hr _ _ hix]
 simp only [Instr.index,asIntOf,Sem.run_bind,Sem.run_pure,Result.andThen_ok,run_underlying hu,if_pos (⟨h0,h1⟩:0≤j∧j<(len:Int)),L4 hsz,Nat.mul_one]
 rw [partV_sound (v:=v) (by unfold partV; rw [hag]; exact h2)]
 exact ⟨rfl,rfl⟩
theorem own_cut0 {b cap sz:Nat} {c:List Value} {e:TypeId} (h:c.length=cap * sz):Own e sz (.slice (some ⟨b,0,none⟩) 0 cap) [(b,.cells c.toArray e (0,0))] 0 [] :=
 ⟨by simp,.inr ⟨b,cap,c,rfl,rfl,Nat.zero_le _,h⟩⟩
end Go.Sw
