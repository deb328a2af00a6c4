/- Rows of bytes that are read and written at a place that is no literal; a table of 256 replacements. No condition. (and what it stands on) -/
import Derived.Shelf.Unicode.ValidAny
import Derived.Test.YtbnfbffiehoapaaGreatDoorProg
import Derived.Tactics
import Derived.Below
import Derived.KernelRfl
import Derived.Laws.Sem
import Derived.Laws.Small
import Derived.Deep.Quiet
import Derived.LoopN
import Derived.Deep.AppendSrc
import Derived.Laws.MakeOwn
import Derived.OrdersHeld
import Derived.Laws.IdiomStrings
import Derived.Lib.MapLaws
import Derived.Lib.ValidLaws
import Derived.Laws.Externs
import Derived.Laws.LoneSync
import Derived.Defers
import Derived.Test.YtbnfbffiehoapaaGreatDoorRows
import Derived.Laws.CopyRow
import Derived.Lib.AppendZeros
namespace Go
theorem kr {α : Sort _} {a b : α} (h : a = b := by kernel_rfl) : a = b := h
end Go
namespace Go.Proofs
open Go.Shelf
def Tryz.laysValid_ren:Go.Shelf.Ren:=⟨fun | 196=>55 | 259=>72 | n=>n,fun | 9=>9 | 4=>4 | 3=>3 | 5=>5 | 12=>12 | 119=>95 | 0=>0 | 46=>53 | 139=>98 | 138=>97 | 53=>86 | n=>n,fun | 3=>0 | 4=>1 | n=>n⟩
theorem Tryz.laysValid:Go.Proofs.Lays.n196 Tryz.prog Tryz.laysValid_ren:={
  mixed:=by kernel_rfl
  f196:=Tryz.func55.trans (congrArg some (by kernel_rfl))
  f259:=Tryz.func72.trans (congrArg some (by kernel_rfl))
  t0:=Tryz.underlying0
  a0:=Tryz.isAgg0
  z0:=Tryz.sizeOf0
  v0:=Tryz.zeroValue0
  t3:=Tryz.underlying3
  a3:=Tryz.isAgg3
  z3:=Tryz.sizeOf3
  v3:=Tryz.zeroValue3
  t4:=Tryz.underlying4
  a4:=Tryz.isAgg4
  z4:=Tryz.sizeOf4
  v4:=Tryz.zeroValue4
  t5:=Tryz.underlying5
  a5:=Tryz.isAgg5
  z5:=Tryz.sizeOf5
  v5:=Tryz.zeroValue5
  t9:=Tryz.underlying9
  a9:=Tryz.isAgg9
  z9:=Tryz.sizeOf9
  v9:=Tryz.zeroValue9
  t12:=Tryz.underlying12
  a12:=Tryz.isAgg12
  z12:=Tryz.sizeOf12
  v12:=Tryz.zeroValue12
  t46:=Tryz.underlying53
  a46:=Tryz.isAgg53
  z46:=Tryz.sizeOf53
  v46:=Tryz.zeroValue53
  t53:=Tryz.underlying86
  a53:=Tryz.isAgg86
  z53:=Tryz.sizeOf86
  v53:=Tryz.zeroValue86
  t119:=Tryz.underlying95
  a119:=Tryz.isAgg95
  z119:=Tryz.sizeOf95
  t138:=Tryz.underlying97
  a138:=Tryz.isAgg97
  z138:=Tryz.sizeOf97
  v138:=Tryz.zeroValue97
  t139:=Tryz.underlying98
  a139:=Tryz.isAgg98
  z139:=Tryz.sizeOf98
  v139:=Tryz.zeroValue98
  g3:=by kernel_rfl
  g4:=by kernel_rfl }
end Go.Proofs
namespace Go.Sw
open Go.RowKit
abbrev Grp:=List (Nat × Obj)
structure Sat (W0:World) (H:List Grp) (w:World):Prop where
  below:Below W0.heap.size W0 w
  nodup:(H.flatten.map Prod.fst).Nodup
  has:∀ p,p∈H.flatten→w.heap[p.1]? = some p.2
  high:∀ p,p∈H.flatten→W0.heap.size≤p.1
structure Sl where
  t:Nat
  ch:List (Nat × Bool)
  v:Value
abbrev Env:=List Sl
abbrev pt (b:Nat):Value:=.pointer (some ⟨b,0,none⟩)
def Env.find:List Sl→Nat→Option Sl
  | [],_=>none
  | s::r,t=>if s.t==t then some s else Env.find r t
def L6:Value→Option Bool
  | .bool b=>some b
  | _=>none
def chT (β:Nat→Bool→Bool) (ch:List (Nat × Bool)):Bool:=ch.all fun p=>β p.1 p.2
structure Fr where
  k:Nat
  dl:List Deferred
instance (k:Nat):OfNat Fr k:=⟨⟨k,[]⟩⟩
def Fr.ds (n:Fr):List Deferred:=n.dl
structure Ag (n:Fr) (E:Env) (a:Act):Prop where
  defers:a.defers=n.ds
  size:a.tmps.size=n.k
  at_:∃ β:Nat→Bool→Bool,(∀ s,s∈E→∀ w,β s.t w=(L6 s.v==some w)) ∧
    ∀ s,s∈E→a.tmps[s.t]? = some (if chT β s.ch then s.v else undef)
theorem Env.find_mem {E:Env} {t:Nat} {s:Sl} (h:Env.find E t=some s):s∈E∧s.t=t:=by
  induction E with
  | nil=>simp [Env.find] at h
  | cons x r ih =>
    simp only [Env.find] at h
    split at h
    · rename_i hx; injection h with h; subst h; exact ⟨List.mem_cons_self,by simpa using hx⟩
    · obtain ⟨h1,h2⟩:=ih h; exact ⟨List.mem_cons_of_mem _ h1,h2⟩
def freeOf (t:Nat) (ch:List (Nat × Bool)):Bool:=ch.all fun p=>!(p.1==t)
def Env.put (E:List Sl) (d:Option Nat) (ch:List (Nat × Bool)) (v:Value):List Sl :=
  match d with
  | some t=>⟨t,ch,v⟩::E.filter fun s=>!(s.t==t)&&freeOf t s.ch
  | none=>E
theorem chT_free {β β':Nat→Bool→Bool} {t:Nat} (hβ:∀ u w,u≠t→β' u w=β u w) {ch:List (Nat × Bool)} (h:freeOf t ch=true):chT β' ch=chT β ch:=by
  induction ch with
  | nil=>rfl
  | cons p r ih =>
    simp only [freeOf,List.all_cons,Bool.and_eq_true] at h
    have h1:p.1≠t:=by simpa using h.1
    have h2:=ih h.2
    unfold chT at h2 ⊢
    simp only [List.all_cons,hβ _ _ h1,h2]
def F9 (n:Fr) (ch:List (Nat × Bool)):Option Nat→Bool
  | some t=>decide (t<n.k)&&freeOf t ch
  | none=>true
theorem Ag.put {n:Fr} {E:Env} {a:Act} (h:Ag n E a) {β:Nat→Bool→Bool} (hβ:∀ s,s∈E→∀ w,β s.t w=(L6 s.v==some w))
    (hat:∀ s,s∈E→a.tmps[s.t]? = some (if chT β s.ch then s.v else undef)) {d:Option Nat} {ch:List (Nat × Bool)} (hd:F9 n ch d=true) (v:Value) :
    Ag n (Env.put E d ch v) (a.put d (if chT β ch then v else undef)):=by
  cases d with
  | none=>exact h
  | some t =>
    simp only [F9,Bool.and_eq_true,decide_eq_true_eq] at hd
    obtain ⟨ht,hf⟩:=hd
    refine ⟨h.defers,by simp [Act.put,h.size],fun u w=>if u=t then L6 v==some w else β u w,?_,?_⟩
    · intro s hs w
      simp only [Env.put,List.mem_cons,List.mem_filter,Bool.and_eq_true] at hs
      rcases hs with rfl | ⟨hs,hne,_⟩
      · simp
      · have:s.t≠t:=by simpa using hne
        simp only [this,if_false]; exact hβ s hs w
    · intro s hs
      simp only [Env.put,List.mem_cons,List.mem_filter,Bool.and_eq_true] at hs
      rcases hs with rfl | ⟨hs,hne,hfs⟩
      · simp only [Act.put]
        rw [chT_free (β:=β) (β':=fun u w=>if u=t then L6 v==some w else β u w) (t:=t) (fun u w hu=>if_neg hu) hf]
        rw [Array.getElem?_setIfInBounds_self_of_lt (by rw [h.size]; exact ht)]
      · have hne':s.t≠t:=by simpa using hne
        simp only [Act.put]
        rw [chT_free (β:=β) (β':=fun u w=>if u=t then L6 v==some w else β u w) (t:=t) (fun u w hu=>if_neg hu) hfs]
        rw [Array.getElem?_setIfInBounds_ne (by omega)]
        exact hat s hs
theorem Ag.sub {n:Fr} {E E':Env} {a:Act} (h:Ag n E a) (hs:∀ s,s∈E'→s∈E):Ag n E' a:=by
  obtain ⟨β,h1,h2⟩:=h.at_
  exact ⟨h.defers,h.size,β,fun s h=>h1 s (hs s h),fun s h=>h2 s (hs s h)⟩
def E3 (ops:Array Oper) (E:List Sl):Option (Nat × Bool)→Option (List (Nat × Bool))
  | none=>some []
  | some (j,want) =>
    match (ops[j]?).bind Oper.dst with
    | some dj=>(match Env.find E dj with | some s=>some ((dj,want)::s.ch) | none=>none)
    | none=>none
theorem J4 {ops:Array Oper} {E:Env} {o:Oper} {ch:List (Nat × Bool)} {tmps:Array Value} {β:Nat→Bool→Bool}
    (hβ:∀ s,s∈E→∀ w,β s.t w=(L6 s.v==some w)) (hat:∀ s,s∈E→tmps[s.t]? = some (if chT β s.ch then s.v else undef))
    (h:E3 ops E o.guard=some ch):Region.wanted o (yielded ops tmps)=chT β ch:=by
  unfold Region.wanted
  cases hg:o.guard with
  | none=>rw [hg] at h; simp only [E3,Option.some.injEq] at h; subst h; simp [chT]
  | some jw =>
    obtain ⟨j,want⟩:=jw
    rw [hg] at h
    simp only [E3] at h
    cases hd:(ops[j]?).bind Oper.dst with
    | none=>rw [hd] at h; simp at h
    | some dj =>
      rw [hd] at h
      dsimp only at h
      cases hf:Env.find E dj with
      | none=>rw [hf] at h; simp at h
      | some s =>
        rw [hf] at h
        simp only [Option.some.injEq] at h
        subst h
        obtain ⟨hm,rfl⟩:=Env.find_mem hf
        have h1:=hat s hm
        have h2:=hβ s hm want
        simp only [yielded,hd,Option.bind_some,h1]
        have e:chT β ((s.t,want)::s.ch)=(β s.t want&&chT β s.ch):=by simp [chT]
        rw [e,h2]
        cases hc:chT β s.ch
        · simp [undef]
        · simp only [if_true,Bool.and_true]
          cases hv:s.v <;> simp [L6]
def subCh (c1 c2:List (Nat × Bool)):Bool:=c1.all fun p=>c2.any fun q=>p.1==q.1&&p.2==q.2
theorem subCh_true {β:Nat→Bool→Bool} {c1 c2:List (Nat × Bool)} (h:subCh c1 c2=true) (h2:chT β c2=true):chT β c1=true:=by
  unfold chT at *
  rw [List.all_eq_true] at *
  intro p hp
  have:=List.all_eq_true.1 h p hp
  rw [List.any_eq_true] at this
  obtain ⟨q,hq,he⟩:=this
  have:=h2 q hq
  simp at he
  rw [he.1,he.2]
  exact this
def evT (E:List Sl) (ch:List (Nat × Bool)) (t:Nat):Option Value :=
  match Env.find E t with
  | some s=>if subCh s.ch ch then some s.v else none
  | none=>none
def evO (E:List Sl) (ch:List (Nat × Bool)):Operand→Option Value
  | .tmp t=>evT E ch t
  | .const v=>some v
  | .global g=>some (.pointer (some ⟨g,0,none⟩))
  | .func f=>some (.func (.func f) #[] #[])
theorem G6 {E:Env} {ch:List (Nat × Bool)} {a:Act} {β:Nat→Bool→Bool}
    (hat:∀ s,s∈E→a.tmps[s.t]? = some (if chT β s.ch then s.v else undef)) (hc:chT β ch=true) {x:Operand} {v:Value} (h:evO E ch x=some v):a.eval x=v:=by
  cases x with
  | tmp t =>
    simp only [evO,evT] at h
    split at h
    · rename_i s hf
      obtain ⟨hm,rfl⟩:=Env.find_mem hf
      split at h
      · rename_i hs
        injection h with h
        have:=hat s hm
        rw [subCh_true hs hc] at this
        simp only [Act.eval,Array.getD_eq_getD_getElem?,this]
        simpa using h
      · simp at h
    · simp at h
  | const v=>simp only [evO,Option.some.injEq] at h; exact h
  | global g=>simp only [evO,Option.some.injEq] at h; exact h
  | func f=>simp only [evO,Option.some.injEq] at h; exact h
end Go.Sw
namespace Go.Sw
def binV (P:Program) (op:BinOp) (t:TypeId):Value→Value→Option Value
  | .int k a,.int k' b =>
    match op with
    | .shl=>if b<0 then none else some (.int k (k.wrap (a * 2 ^ (min b.toNat k.bits))))
    | .shr=>if b<0 then none else some (.int k (a.fdiv (2 ^ (min b.toNat k.bits))))
    | .add=>if k=k' then some (.int k (k.wrap (a+b))) else none
    | .sub=>if k=k' then some (.int k (k.wrap (a - b))) else none
    | .mul=>if k=k' then some (.int k (k.wrap (a * b))) else none
    | .quo=>if k=k' then (if b=0 then none else some (.int k (k.wrap (a.tdiv b)))) else none
    | .rem=>if k=k' then (if b=0 then none else some (.int k (a.tmod b))) else none
    | .and=>if k=k' then some (.int k (k.wrap (BitVec.ofInt k.bits a &&& BitVec.ofInt k.bits b).toNat)) else none
    | .or=>if k=k' then some (.int k (k.wrap (BitVec.ofInt k.bits a ||| BitVec.ofInt k.bits b).toNat)) else none
    | .xor=>if k=k' then some (.int k (k.wrap (BitVec.ofInt k.bits a ^^^ BitVec.ofInt k.bits b).toNat)) else none
    | .andNot=>if k=k' then some (.int k (k.wrap (BitVec.ofInt k.bits a &&& ~~~BitVec.ofInt k.bits b).toNat)) else none
    | .eql=>if k=k' then some (.bool (a==b)) else none
    | .neq=>if k=k' then some (.bool (a != b)) else none
    | .lss=>if k=k' then some (.bool (decide (a<b))) else none
    | .leq=>if k=k' then some (.bool (decide (a≤b))) else none
    | .gtr=>if k=k' then some (.bool (decide (a > b))) else none
    | .geq=>if k=k' then some (.bool (decide (a ≥ b))) else none
  | .string a,.string b =>
    match op with
    | .eql=>some (.bool (a.toList==b.toList))
    | .neq=>some (.bool !(a.toList==b.toList))
    | .lss=>some (.bool (Op.bytesLess a.toList b.toList))
    | .leq=>some (.bool (Op.bytesLess a.toList b.toList||a.toList==b.toList))
    | .gtr=>some (.bool !(Op.bytesLess a.toList b.toList||a.toList==b.toList))
    | .geq=>some (.bool !(Op.bytesLess a.toList b.toList))
    | _=>none
  | .bool a,.bool b =>
    match op,P.underlying t with
    | .eql,some .bool=>some (.bool (a==b))
    | .neq,some .bool=>some (.bool !(a==b))
    | _,_=>none
  | .pointer none,.pointer b =>
    match op,P.underlying t with
    | .eql,some (.pointer _)=>some (.bool b.isNone)
    | .neq,some (.pointer _)=>some (.bool !b.isNone)
    | _,_=>none
  | .pointer (some _),.pointer none =>
    match op,P.underlying t with
    | .eql,some (.pointer _)=>some (.bool false)
    | .neq,some (.pointer _)=>some (.bool true)
    | _,_=>none
  | .slice none _ _,.slice b _ _ =>
    match op,P.underlying t with
    | .eql,some (.slice _)=>some (.bool b.isNone)
    | .neq,some (.slice _)=>some (.bool !b.isNone)
    | _,_=>none
  | .slice (some _) _ _,.slice none _ _ =>
    match op,P.underlying t with
    | .eql,some (.slice _)=>some (.bool false)
    | .neq,some (.slice _)=>some (.bool true)
    | _,_=>none
  | .map none,.map b =>
    match op,P.underlying t with
    | .eql,some (.map _ _)=>some (.bool b.isNone)
    | .neq,some (.map _ _)=>some (.bool !b.isNone)
    | _,_=>none
  | .map (some _),.map none =>
    match op,P.underlying t with
    | .eql,some (.map _ _)=>some (.bool false)
    | .neq,some (.map _ _)=>some (.bool true)
    | _,_=>none
  | _,_=>none
theorem equal_bool' {P:Program} {t:TypeId} (h:P.underlying t=some .bool) (a b:Bool) (d:Nat) (w:World):(Op.equalIn (d+1) t (.bool a) (.bool b)).run P w=.ok (a==b) w:=by
  simp [Op.equalIn,run_underlying h]
theorem equal_bool {P:Program} {t:TypeId} (h:P.underlying t=some .bool) (a b:Bool) (w:World):(Op.equal t (.bool a) (.bool b)).run P w=.ok (a==b) w:=equal_bool' h a b 9999 w
theorem equal_ptr' {P:Program} {t e:TypeId} (h:P.underlying t=some (.pointer e)) (b:Option Addr) (d:Nat) (w:World):(Op.equalIn (d+1) t (.pointer none) (.pointer b)).run P w=.ok b.isNone w:=by
  simp [Op.equalIn,run_underlying h]
theorem equal_ptr {P:Program} {t e:TypeId} (h:P.underlying t=some (.pointer e)) (b:Option Addr) (w:World):(Op.equal t (.pointer none) (.pointer b)).run P w=.ok b.isNone w:=equal_ptr' h b 9999 w
theorem equal_ptr2' {P:Program} {t e:TypeId} (h:P.underlying t=some (.pointer e)) (a:Addr) (d:Nat) (w:World):(Op.equalIn (d+1) t (.pointer (some a)) (.pointer none)).run P w=.ok false w:=by
  simp [Op.equalIn,run_underlying h]
theorem equal_ptr2 {P:Program} {t e:TypeId} (h:P.underlying t=some (.pointer e)) (a:Addr) (w:World):(Op.equal t (.pointer (some a)) (.pointer none)).run P w=.ok false w:=equal_ptr2' h a 9999 w
theorem equal_slice' {P:Program} {t e:TypeId} (h:P.underlying t=some (.slice e)) (n c n' c':Nat) (b:Option Addr) (d:Nat) (w:World):(Op.equalIn (d+1) t (.slice none n c) (.slice b n' c')).run P w=.ok b.isNone w:=by
  simp [Op.equalIn,run_underlying h]
theorem equal_slice {P:Program} {t e:TypeId} (h:P.underlying t=some (.slice e)) (n c n' c':Nat) (b:Option Addr) (w:World):(Op.equal t (.slice none n c) (.slice b n' c')).run P w=.ok b.isNone w:=equal_slice' h n c n' c' b 9999 w
theorem equal_slice2' {P:Program} {t e:TypeId} (h:P.underlying t=some (.slice e)) (n c n' c':Nat) (a:Addr) (d:Nat) (w:World):(Op.equalIn (d+1) t (.slice (some a) n c) (.slice none n' c')).run P w=.ok false w:=by
  simp [Op.equalIn,run_underlying h]
theorem equal_slice2 {P:Program} {t e:TypeId} (h:P.underlying t=some (.slice e)) (n c n' c':Nat) (a:Addr) (w:World):(Op.equal t (.slice (some a) n c) (.slice none n' c')).run P w=.ok false w:=equal_slice2' h n c n' c' a 9999 w
theorem equal_map' {P:Program} {t e k:TypeId} (h:P.underlying t=some (.map k e)) (b:Option Nat) (d:Nat) (w:World):(Op.equalIn (d+1) t (.map none) (.map b)).run P w=.ok b.isNone w:=by
  simp [Op.equalIn,run_underlying h]
theorem equal_map {P:Program} {t e k:TypeId} (h:P.underlying t=some (.map k e)) (b:Option Nat) (w:World):(Op.equal t (.map none) (.map b)).run P w=.ok b.isNone w:=equal_map' h b 9999 w
theorem equal_map2' {P:Program} {t e k:TypeId} (h:P.underlying t=some (.map k e)) (a:Nat) (d:Nat) (w:World):(Op.equalIn (d+1) t (.map (some a)) (.map none)).run P w=.ok false w:=by
  simp [Op.equalIn,run_underlying h]
theorem equal_map2 {P:Program} {t e k:TypeId} (h:P.underlying t=some (.map k e)) (a:Nat) (w:World):(Op.equal t (.map (some a)) (.map none)).run P w=.ok false w:=equal_map2' h a 9999 w
theorem binV_sound {P:Program} {op:BinOp} {t:TypeId} {x y v:Value} (h:binV P op t x y=some v) (w:World):(binOp op t x y).run P w=.ok v w:=by
  cases x <;> cases y <;> (try (simp [binV] at h; done))
  case int.int k a k' b =>
    cases op <;> simp only [binV] at h
    case shl=>(split at h); (simp at h); (rename_i hb; injection h with h; subst h; simp only [binOp,Op.shift,if_neg hb]; rfl)
    case shr=>(split at h); (simp at h); (rename_i hb; injection h with h; subst h; simp only [binOp,Op.shift,if_neg hb]; rfl)
    case quo=>(split at h; split at h) <;> simp_all [binOp,Op.intDiv]
    case rem=>(split at h; split at h) <;> simp_all [binOp,Op.intDiv]
    all_goals
      split at h
      · simp_all [binOp,Op.intArith,Op.intBits,Op.intCmp]
      · simp at h
  case string.string a b=>cases op <;> simp only [binV,Option.some.injEq,reduceCtorEq] at h <;> (subst h; simp [binOp,Op.stringOp])
  case bool.bool a b =>
    simp only [binV] at h
    split at h <;> simp_all [binOp,equal_bool]
  case pointer.pointer a b =>
    cases a
    · simp only [binV] at h
      split at h
      · rename_i hu; simp only [Option.some.injEq] at h; subst h; cases b <;> simp [binOp,equal_ptr hu]
      · rename_i hu; simp only [Option.some.injEq] at h; subst h; cases b <;> simp [binOp,equal_ptr hu]
      · simp at h
    · cases b
      · simp only [binV] at h
        split at h
        · rename_i hu; simp only [Option.some.injEq] at h; subst h; simp [binOp,equal_ptr2 hu]
        · rename_i hu; simp only [Option.some.injEq] at h; subst h; simp [binOp,equal_ptr2 hu]
        · simp at h
      · simp [binV] at h
  case slice.slice a n c b n' c' =>
    cases a
    · simp only [binV] at h
      split at h
      · rename_i hu; simp only [Option.some.injEq] at h; subst h; simp [binOp,equal_slice hu]
      · rename_i hu; simp only [Option.some.injEq] at h; subst h; simp [binOp,equal_slice hu]
      · simp at h
    · cases b
      · simp only [binV] at h
        split at h
        · rename_i hu; simp only [Option.some.injEq] at h; subst h; simp [binOp,equal_slice2 hu]
        · rename_i hu; simp only [Option.some.injEq] at h; subst h; simp [binOp,equal_slice2 hu]
        · simp at h
      · simp [binV] at h
  case map.map a b =>
    cases a
    · simp only [binV] at h
      split at h
      · rename_i hu; simp only [Option.some.injEq] at h; subst h; simp [binOp,equal_map hu]
      · rename_i hu; simp only [Option.some.injEq] at h; subst h; simp [binOp,equal_map hu]
      · simp at h
    · cases b
      · simp only [binV] at h
        split at h
        · rename_i hu; simp only [Option.some.injEq] at h; subst h; simp [binOp,equal_map2 hu]
        · rename_i hu; simp only [Option.some.injEq] at h; subst h; simp [binOp,equal_map2 hu]
        · simp at h
      · simp [binV] at h
def unV:UnOp→Value→Option Value
  | .neg,.int k n=>some (.int k (k.wrap (0 - n)))
  | .xor,.int k n=>some (.int k (k.wrap (BitVec.ofInt k.bits (if k.signed then -1 else k.max) ^^^ BitVec.ofInt k.bits n).toNat))
  | .not,.bool b=>some (.bool !b)
  | _,_=>none
theorem unV_sound {P:Program} {op:UnOp} {x v:Value} (h:unV op x=some v) (w:World):(Op.unary op x).run P w=.ok v w:=by
  cases op <;> cases x <;> simp only [unV,Option.some.injEq,reduceCtorEq] at h <;> (subst h; simp [Op.unary,Op.intArith,Op.intBits])
def convV (P:Program) (s d:TypeId) (x:Value):Option Value :=
  match P.underlying s,P.underlying d,x with
  | some _,some (.int k),.int _ n=>some (.int k (k.wrap n))
  | some _,some .string,.int _ n=>some (.string (Utf8.encode n))
  | some .string,some .string,.string b=>some (.string b)
  | _,_,_=>none
theorem convV_sound {P:Program} {s d:TypeId} {x v:Value} (h:convV P s d x=some v) (w:World):(convert s d x).run P w=.ok v w:=by
  unfold convV at h
  split at h
  · rename_i h1 h2; injection h with h; subst h; simp [convert,run_underlying h1,run_underlying h2,Conv.intToInt]
  · rename_i h1 h2; injection h with h; subst h; simp [convert,run_underlying h1,run_underlying h2,Conv.intToString]
  · rename_i h1 h2; injection h with h; subst h; simp [convert,run_underlying h1,run_underlying h2]
  · simp at h
def aggB (P:Program) (t:TypeId):Option Bool :=
  match P.underlying t with
  | some (.struct _)=>some true
  | some (.array _ _)=>some true
  | some _=>some false
  | none=>none
theorem M2 {P:Program} {t:TypeId} {b:Bool} (h:aggB P t=some b) (w:World):(isAgg t).run P w=.ok b w:=by
  unfold aggB at h
  split at h
  · rename_i h1; injection h with h; subst h; simp [isAgg,run_underlying h1]
  · rename_i h1; injection h with h; subst h; simp [isAgg,run_underlying h1]
  · rename_i d hs ha h1
    injection h with h; subst h
    have hs':=hs
    simp only [isAgg,Sem.run_bind,run_underlying h1,Result.andThen_ok]
    cases d <;> first | rfl | exact (ha _ _ h1).elim | exact (hs _ h1).elim
  · simp at h
def sizeV (P:Program) (t:TypeId):Option Nat:=(P.info? t).map (·.size)
theorem H0 {P:Program} {t:TypeId} {n:Nat} (h:sizeV P t=some n) (w:World):(sizeOf t).run P w=.ok n w:=by
  unfold sizeV at h
  cases hi:P.info? t with
  | none=>rw [hi] at h; simp at h
  | some i=>rw [hi] at h; simp at h; subst h; simp [sizeOf,typeInfo,hi]
def partV (P:Program) (t:TypeId) (cs:Array Value) (off:Nat):Option Value :=
  match aggB P t with
  | some true=>(match sizeV P t with | some n=>some (.agg (cs.extract off (off+n))) | none=>none)
  | some false=>cs[off]?
  | none=>none
theorem partV_sound {P:Program} {t:TypeId} {cs:Array Value} {off:Nat} {v:Value} (h:partV P t cs off=some v) (w:World):(part t cs off).run P w=.ok v w:=by
  unfold partV at h
  split at h
  · rename_i h1
    split at h
    · rename_i n h2; injection h with h; subst h; simp [part,M2 h1,H0 h2]
    · simp at h
  · rename_i h1; simp [part,M2 h1,h]
  · simp at h
def fieldV (P:Program) (t:TypeId) (x:Value) (f:Nat):Option Value :=
  match P.underlying t,x with
  | some (.struct fs),.agg cs=>(match fs[f]? with | some fd=>partV P fd.type cs fd.offset | none=>none)
  | _,_=>none
theorem fieldV_sound {P:Program} {t:TypeId} {x:Value} {f:Nat} {v:Value} (h:fieldV P t x f=some v) (w:World):(Instr.field t x f).run P w=.ok v w:=by
  unfold fieldV at h
  split at h
  · rename_i fs cs h1
    split at h
    · rename_i fd h2; simp [Instr.field,run_underlying h1,h2,asAgg,partV_sound h]
    · simp at h
  · simp at h
def fieldAddrV (P:Program) (t:TypeId) (x:Value) (f:Nat):Option Value :=
  match P.underlying t,x with
  | some (.struct fs),.pointer (some a) =>
    (match fs[f]? with
     | some fd=>(match sizeV P fd.type with | some (_+1)=>some (.pointer (some (a.add fd.offset))) | _=>none)
     | none=>none)
  | _,_=>none
theorem fieldAddrV_sound {P:Program} {t:TypeId} {x:Value} {f:Nat} {v:Value} (h:fieldAddrV P t x f=some v) (w:World):(Instr.fieldAt t x f).run P w=.ok v w:=by
  unfold fieldAddrV at h
  split at h
  · rename_i fs a h1
    split at h
    · rename_i fd h2
      split at h
      · rename_i h3; injection h with h; subst h
        simp [Instr.fieldAt,run_underlying h1,h2,Instr.sureAddr,fieldPlace,H0 h3]
      · simp at h
    · simp at h
  · simp at h
def lenV (P:Program) (t:Option TypeId) (x:Option Value):Option Value :=
  match t,x with
  | some t,some x =>
    (match P.underlying t,x with
     | some .string,.string s=>some (.int .i64 ((s.size:Nat):Int))
     | some (.slice _),.slice _ n _=>some (.int .i64 ((n:Nat):Int))
     | some (.array n _),_=>some (.int .i64 ((n:Nat):Int))
     | _,_=>none)
  | _,_=>none
theorem lenV_sound {P:Program} {ts:Array TypeId} {avs:Array Value} {t:TypeId} {v:Value} (h:lenV P ts[0]? avs[0]? = some v) (w:World):(Builtin.len_ ts t avs).run P w=.ok v w:=by
  unfold lenV at h
  split at h
  · rename_i t' x h1 h2
    split at h
    · rename_i h3; injection h with h; subst h; simp [Builtin.len_,h1,h2,run_underlying h3,goInt]
    · rename_i h3; injection h with h; subst h; simp [Builtin.len_,h1,h2,run_underlying h3,goInt]
    · rename_i h3; injection h with h; subst h; simp [Builtin.len_,h1,h2,run_underlying h3,goInt]
    · simp at h
  · simp at h
def capV (P:Program) (t:Option TypeId) (x:Option Value):Option Value :=
  match t,x with
  | some t,some x =>
    (match P.underlying t,x with
     | some (.slice _),.slice _ _ n=>some (.int .i64 ((n:Nat):Int))
     | _,_=>none)
  | _,_=>none
theorem capV_sound {P:Program} {ts:Array TypeId} {avs:Array Value} {t:TypeId} {v:Value} (h:capV P ts[0]? avs[0]? = some v) (w:World):(Builtin.cap_ ts t avs).run P w=.ok v w:=by
  unfold capV at h
  split at h
  · rename_i t' x h1 h2
    split at h
    · rename_i h3; injection h with h; subst h; simp [Builtin.cap_,h1,h2,run_underlying h3,goInt]
    · simp at h
  · simp at h
def maxV:List Value→Option Value
  | [.int k a,.int _ b]=>some (.int k (if b > a then b else a))
  | _=>none
theorem maxV_sound {P:Program} {ts:Array TypeId} {avs:List Value} {t:TypeId} {v:Value} (h:maxV avs=some v) (w:World):(Builtin.max_ ts t avs.toArray).run P w=.ok v w:=by
  unfold maxV at h
  split at h
  · injection h with h; subst h; simp [Builtin.max_,Builtin.max2]
  · simp at h
def minV:List Value→Option Value
  | [.int k a,.int _ b]=>some (.int k (if b<a then b else a))
  | _=>none
theorem minV_sound {P:Program} {ts:Array TypeId} {avs:List Value} {t:TypeId} {v:Value} (h:minV avs=some v) (w:World):(Builtin.min_ ts t avs.toArray).run P w=.ok v w:=by
  unfold minV at h
  split at h
  · injection h with h; subst h; simp [Builtin.min_,Builtin.min2]
  · simp at h
def evL (ρ:Operand→Option Value):List Operand→Option (List Value)
  | []=>some []
  | x::r=>(match ρ x with | some v=>(match evL ρ r with | some l=>some (v::l) | none=>none) | none=>none)
theorem evL_map {ρ:Operand→Option Value} {r:Operand→Value} (hρ:∀ x v,ρ x=some v→r x=v):∀ (xs:List Operand) {vs:List Value},evL ρ xs=some vs→xs.map r=vs
  | [],vs,h=>by simp [evL] at h; subst h; rfl
  | x::xs,vs,h=>by
    simp only [evL] at h
    split at h
    · rename_i v hv
      split at h
      · rename_i l hl; injection h with h; subst h
        simp [hρ _ _ hv,evL_map hρ xs hl]
      · simp at h
    · simp at h
def evP (ρ:Operand→Option Value):List (Nat × Operand)→Option (List (Nat × Value))
  | []=>some []
  | (i,x)::r=>(match ρ x with | some v=>(match evP ρ r with | some l=>some ((i,v)::l) | none=>none) | none=>none)
theorem evP_map {ρ:Operand→Option Value} {r:Operand→Value} (hρ:∀ x v,ρ x=some v→r x=v):∀ (xs:List (Nat × Operand)) {vs:List (Nat × Value)},evP ρ xs=some vs→xs.map (fun p=>(p.1,r p.2))=vs
  | [],vs,h=>by simp [evP] at h; subst h; rfl
  | (i,x)::xs,vs,h=>by
    simp only [evP] at h
    split at h
    · rename_i v hv
      split at h
      · rename_i l hl; injection h with h; subst h
        simp [hρ _ _ hv,evP_map hρ xs hl]
      · simp at h
    · simp at h
def placesV (P:Program):List Field→Option (List (Nat × Nat))
  | []=>some []
  | f::r=>(match sizeV P f.type with | some n=>(match placesV P r with | some l=>some ((f.offset,n)::l) | none=>none) | none=>none)
def zeroV (P:Program) (t:TypeId):Option Value:=(P.info? t).bind (·.zero)
theorem N8 {P:Program} {t:TypeId} {v:Value} (h:zeroV P t=some v) (w:World):(zeroValue t).run P w=.ok v w:=by
  unfold zeroV at h
  cases hi:P.info? t with
  | none=>rw [hi] at h; simp at h
  | some i=>rw [hi] at h; simp at h; simp [zeroValue,typeInfo,hi,h]
def fpl (f:Field):Sem (Nat × Nat):=do pure (f.offset,← sizeOf f.type)
theorem run_fpl {P:Program} {f:Field} {n:Nat} (h:sizeV P f.type=some n) (w:World):(fpl f).run P w=.ok (f.offset,n) w:=by
  simp [fpl,H0 h]
theorem places_run {P:Program} (w:World):∀ (fs:List Field) {l:List (Nat × Nat)},placesV P fs=some l→(fs.mapM fpl).run P w=.ok l w
  | [],l,h=>by simp [placesV] at h; subst h; simp
  | f::r,l,h=>by
    simp only [placesV] at h
    split at h
    · rename_i n hn
      split at h
      · rename_i l' hl; injection h with h; subst h
        have ih:=places_run (P:=P) w r hl
        simp only [List.mapM_cons,Sem.run_bind,run_fpl hn,Result.andThen_ok,ih]
        rfl
      · simp at h
    · simp at h
def buildV (P:Program) (t:TypeId) (parts:List (Nat × Value)):Option Value :=
  match zeroV P t,P.underlying t with
  | some z,some (.struct fs) =>
    (match placesV P fs.toList with
     | some pl=>(match Instr.fill (pl.toArray[·]?) z.cells parts with | some c=>some (.agg c) | none=>none)
     | none=>none)
  | some z,some (.array _ e) =>
    (match sizeV P e with
     | some n=>(match Instr.fill (fun i=>some (i * n,n)) z.cells parts with | some c=>some (.agg c) | none=>none)
     | none=>none)
  | _,_=>none
theorem buildV_sound {P:Program} {t:TypeId} {parts:List (Nat × Value)} {v:Value} (h:buildV P t parts=some v) (w:World):(Instr.build t parts.toArray).run P w=.ok v w:=by
  unfold buildV at h
  split at h
  · rename_i z fs hz hu
    split at h
    · rename_i pl hp
      split at h
      · rename_i c hc; injection h with h; subst h
        have e:=places_run (P:=P) w fs.toList hp
        have e2:(fs.mapM fpl).run P w=.ok pl.toArray w:=by
          rw [Array.mapM_eq_mapM_toList,Sem.run_map,e]
          rfl
        have e3:(fun f:Field=>(do let s ← sizeOf f.type; pure (f.offset,s):Sem (Nat × Nat)))=fpl:=rfl
        simp only [Instr.build,Sem.run_bind,N8 hz,Result.andThen_ok,run_underlying hu,e3,e2,hc]
        rfl
      · simp at h
    · simp at h
  · rename_i z n e hz hu
    split at h
    · rename_i k hk
      split at h
      · rename_i c hc; injection h with h; subst h
        simp only [Instr.build,Sem.run_bind,N8 hz,Result.andThen_ok,run_underlying hu,H0 hk,hc]
        rfl
      · simp at h
    · simp at h
  · simp at h
def callV (P:Program) (ρ:Operand→Option Value) (c:Call):Option Value :=
  match c.callee with
  | .builtin .len=>(match evL ρ c.args.toList with | some l=>lenV P c.argTypes[0]? l.toArray[0]? | none=>none)
  | .builtin .cap=>(match evL ρ c.args.toList with | some l=>capV P c.argTypes[0]? l.toArray[0]? | none=>none)
  | .builtin .max=>(match evL ρ c.args.toList with | some l=>maxV l | none=>none)
  | .builtin .min=>(match evL ρ c.args.toList with | some l=>minV l | none=>none)
  | _=>none
def nilV:Value→Option Value
  | .pointer (some a)=>some (.pointer (some a))
  | .func (.func f) x y=>some (.func (.func f) x y)
  | .iface t v=>some (.iface t v)
  | _=>none
def ifaceV (P:Program) (t:TypeId) (x:Value):Option Value :=
  match P.underlying t with
  | some (.interface _)=>none
  | some _=>some (.iface t x)
  | none=>none
def pev (P:Program) (ρ:Operand→Option Value):Go.Op→Option Value
  | .move x | .assign x=>ρ x
  | .binOp op t x y _=>(match ρ x,ρ y with | some a,some b=>binV P op t a b | _,_=>none)
  | .unOp op _ x=>(match ρ x with | some a=>unV op a | none=>none)
  | .convert s d x=>(match ρ x with | some a=>convV P s d a | none=>none)
  | .extract x i=>(match ρ x with | some (.tuple vs)=>vs[i]? | _=>none)
  | .field t x f=>(match ρ x with | some a=>fieldV P t a f | none=>none)
  | .fieldAddr t x f=>(match ρ x with | some a=>fieldAddrV P t a f | none=>none)
  | .nilCheck x=>(match ρ x with | some a=>nilV a | none=>none)
  | .makeFunc fn first captured=>(match evL ρ first.toList,evL ρ captured.toList with | some a,some b=>some (.func fn a.toArray b.toArray) | _,_=>none)
  | .makeInterface t x=>(match ρ x with | some a=>ifaceV P t a | none=>none)
  | .build t parts=>(match evP ρ parts.toList with | some l=>buildV P t l | none=>none)
  | .call c=>callV P ρ c
  | _=>none
theorem J0 {ρ:Operand→Option Value} {r:Operand→Value} (hρ:∀ x v,ρ x=some v→r x=v) {xs:Array Operand} {l:List Value} (h:evL ρ xs.toList=some l):xs.map r=l.toArray:=by
  rw [← evL_map hρ _ h]; apply Array.ext'; rw [Array.toList_map]
theorem pev_sound {P:Program} {ρ:Operand→Option Value} {r:Operand→Value} (hρ:∀ x v,ρ x=some v→r x=v) {o:Oper} {v:Value}
    (h:pev P ρ o.op=some v) (w:World):(execOp r o).run P w=.ok (.value v) w:=by
  unfold pev at h
  unfold execOp
  split at h <;> rename_i ho
  · simp only [ho]; rw [hρ _ _ h]; rfl
  · simp only [ho]; rw [hρ _ _ h]; rfl
  · simp only [ho]
    split at h
    · rename_i a b ha hb
      rw [hρ _ _ ha,hρ _ _ hb]
      have hg:∀ {op t v},binV P op t a b=some v→∀ (x y:Operand),(eqGuard op t x y a b).run P w=.ok () w:=by
        intro op t v hv x y
        unfold eqGuard
        cases a <;> cases b <;> (first | (simp [binV] at hv; done) | (split <;> rfl))
      simp [hg h,binV_sound h]
    · simp at h
  · simp only [ho]
    split at h
    · rename_i a ha; rw [hρ _ _ ha]; simp [unV_sound h]
    · simp at h
  · simp only [ho]
    split at h
    · rename_i a ha; rw [hρ _ _ ha]; simp [convV_sound h]
    · simp at h
  · simp only [ho]
    split at h
    · rename_i vs ha; rw [hρ _ _ ha]; simp [Instr.extract,h]
    · simp at h
  · simp only [ho]
    split at h
    · rename_i a ha; rw [hρ _ _ ha]; simp [fieldV_sound h]
    · simp at h
  · simp only [ho]
    split at h
    · rename_i a ha; rw [hρ _ _ ha]; simp [fieldAddrV_sound h]
    · simp at h
  · simp only [ho]
    split at h
    · rename_i a ha; rw [hρ _ _ ha]
      unfold nilV at h
      split at h <;> first | (injection h with h; subst h; rfl) | (simp at h)
    · simp at h
  · simp only [ho]
    split at h
    · rename_i a b ha hb; injection h with h; subst h
      rw [J0 hρ ha,J0 hρ hb]; rfl
    · simp at h
  · simp only [ho]
    split at h
    · rename_i a ha; rw [hρ _ _ ha]
      unfold ifaceV at h
      split at h
      · simp at h
      · rename_i d hn hu; injection h with h; subst h
        simp only [Instr.makeInterface,Sem.run_bind,run_underlying hu,Result.andThen_ok]
        cases d <;> first | rfl | exact (hn _ hu).elim | exact (hn _ rfl).elim
      · simp at h
    · simp at h
  · simp only [ho]
    split at h
    · rename_i l hl
      have e:(Array.map (fun x=>(x.fst,r x.snd)) ‹Array (Nat × Operand)›)=l.toArray:=by
        rw [← evP_map hρ _ hl]; apply Array.ext'; rw [Array.toList_map]
      simp [e,buildV_sound h]
    · simp at h
  · simp only [ho]
    unfold callV at h
    split at h <;> rename_i hc
    · split at h
      · rename_i l hl
        simp [resolve,hc,invoke,Go.builtin,J0 hρ hl,lenV_sound (avs:=l.toArray) h]
      · simp at h
    · split at h
      · rename_i l hl
        simp [resolve,hc,invoke,Go.builtin,J0 hρ hl,capV_sound (avs:=l.toArray) h]
      · simp at h
    · split at h
      · rename_i l hl
        simp [resolve,hc,invoke,Go.builtin,J0 hρ hl,maxV_sound h]
      · simp at h
    · split at h
      · rename_i l hl
        simp [resolve,hc,invoke,Go.builtin,J0 hρ hl,minV_sound h]
      · simp at h
    · simp at h
  · simp at h
end Go.Sw
namespace Go.Sw
abbrev D9:=Exit→Act→World→Prop
def GL (d:Bool) (P:Program) (ops:Array Oper) (i:Nat) (Q:D9) (n:Fr) (E:Env) (W0:World) (H:List Grp):Prop :=
  match d with
  | true=>∀ a,Ag n E a→wpQuiet P ops (Sat W0 H) (fun a'=>∀ w',Sat W0 H w'→Q .normal a' w') (ops.toList.drop i) a
  | false=>∀ a w,Ag n E a→Sat W0 H w→wpList P ops Q (ops.toList.drop i) a w
def G (P:Program) (c:Code) (Q:D9) (n:Fr) (E:Env) (W0:World) (H:List Grp):Prop :=
  ∀ a w,Ag n E a→Sat W0 H w→c.wp P Q a w
def N (Q:D9) (x:Exit) (n:Fr) (E:Env) (W0:World) (H:List Grp):Prop :=
  ∀ a w,Ag n E a→Sat W0 H w→Q x a w
theorem Sat.drew {W0:World} {H:List Grp} {w:World} (h:Sat W0 H w):Sat W0 H { w with drawn:=w.drawn+1 } :=
  ⟨h.below.trans ⟨rfl,rfl,rfl,Nat.le_refl _,fun _ _=>rfl⟩,h.nodup,h.has,h.high⟩
def chB (E:List Sl):List (Nat × Bool)→Prop
  | []=>True
  | (t,w)::r=>(match Env.find E t with | some s=>(match s.v with | .bool b=>b=w | _=>False) | none=>False)∧chB E r
theorem chB_of {E:Env} {β:Nat→Bool→Bool} (hβ:∀ s,s∈E→∀ w,β s.t w=(L6 s.v==some w)):∀ (ch:List (Nat × Bool)),
    (∀ p,p∈ch→∃ s,Env.find E p.1=some s)→chT β ch=true→chB E ch
  | [],_,_=>trivial
  | (t,w)::r,hf,h=>by
    simp only [chT,List.all_cons,Bool.and_eq_true] at h
    refine ⟨?_,chB_of hβ r (fun p hp=>hf p (List.mem_cons_of_mem _ hp)) h.2⟩
    obtain ⟨s,hs⟩:=hf (t,w) List.mem_cons_self
    simp only at hs
    rw [hs]
    obtain ⟨hm,ht⟩:=Env.find_mem hs
    subst ht
    have h1:=hβ s hm w
    rw [h.1] at h1
    simp only
    cases hv:s.v <;> rw [hv] at h1 <;> simp [L6] at h1 ⊢
    exact h1
def H7 (E:List Sl) (ch:List (Nat × Bool)):Bool:=ch.all fun p=>(Env.find E p.1).isSome
theorem G3 {d:Bool} {P:Program} {ops:Array Oper} {i:Nat} {Q:D9} {n:Fr} {E:Env} {W0:World} {H:List Grp} {o:Oper} {ch:List (Nat × Bool)} {v:Value}
    (ho:ops[i]? = some o) (hch:E3 ops E o.guard=some ch) (hd:F9 n ch o.dst=true) (hk:H7 E ch=true)
    (hq:∀ (r:Operand→Value),(∀ x v,evO E ch x=some v→r x=v)→chB E ch→∀ w,Sat W0 H w→Oper.quietUpon P (Sat W0 H) w v ((execOp r o).run P w))
    (k:GL d P ops (i+1) Q n (Env.put E o.dst ch v) W0 H):GL d P ops i Q n E W0 H:=by
  have hi:i<ops.toList.length:=by
    rcases Nat.lt_or_ge i ops.size with h | h
    · simpa using h
    · simp [Array.getElem?_eq_none h] at ho
  have hdrop:ops.toList.drop i=o::ops.toList.drop (i+1):=by
    rw [List.drop_eq_getElem_cons hi]
    congr 1
    have hi':i<ops.size:=by simpa using hi
    rw [Array.getElem?_eq_getElem hi'] at ho
    simpa using ho
  have hkn:∀ p,p∈ch→∃ s,Env.find E p.1=some s:=fun p hp=>by
    have:=List.all_eq_true.1 hk p hp
    exact Option.isSome_iff_exists.1 this
  cases d with
  | true =>
    intro a ha
    rw [hdrop]
    obtain ⟨β,hβ,hat⟩:=ha.at_
    have hw:=J4 hβ hat hch
    unfold wpQuiet
    have hput:=Ag.put ha hβ hat hd v
    by_cases hc:chT β ch=true
    · rw [hw,if_pos hc]
      rw [if_pos hc] at hput
      refine ⟨v,fun w hs=>?_,k _ hput⟩
      exact hq _ (fun x v=>G6 hat hc) (chB_of hβ ch hkn hc) w hs
    · rw [hw,if_neg hc]
      rw [if_neg hc] at hput
      exact k _ hput
  | false =>
    intro a w ha hs
    rw [hdrop]
    obtain ⟨β,hβ,hat⟩:=ha.at_
    have hw:=J4 hβ hat hch
    unfold wpList
    have hput:=Ag.put ha hβ hat hd v
    by_cases hc:chT β ch=true
    · rw [hw,if_pos hc]
      rw [if_pos hc] at hput
      left
      refine Oper.wp_of_quiet (C:=Sat W0 H) (K:=fun a'=>a'=a.put o.dst v) hs (fun a' w' hw' he=>by rw [he]; exact k _ _ hput hw') ⟨v,fun w hs=>?_,rfl⟩
      exact hq _ (fun x v=>G6 hat hc) (chB_of hβ ch hkn hc) w hs
    · rw [hw,if_neg hc]
      rw [if_neg hc] at hput
      exact k _ _ hput hs
def gOff (ops:Array Oper) (E:List Sl):Option (Nat × Bool)→Bool
  | none=>false
  | some (j,want) =>
    match (ops[j]?).bind Oper.dst with
    | some dj=>(match Env.find E dj with
      | some s=>(match s.v,want with | .bool false,true=>true | .bool true,false=>true | .tuple _,_=>true | _,_=>false)
      | none=>false)
    | none=>false
def selV (x:Bool):Value→Value→Option Value
  | .bool y,.bool z=>some (.bool (bif x then y else z))
  | .int k m,.int k' m'=>if k=k' then some (.int k (bif x then m else m')) else none
  | .string s,.string s'=>some (.string (bif x then s else s'))
  | _,_=>none
theorem selV_sound {x:Bool} {a b v:Value} (h:selV x a b=some v):v=if x then a else b:=by
  unfold selV at h
  split at h
  · injection h with h; subst h; cases x <;> rfl
  · split at h
    · rename_i hk; injection h with h; subst h; subst hk; cases x <;> rfl
    · simp at h
  · injection h with h; subst h; cases x <;> rfl
  · simp at h
def pickV (E:List Sl) (ch:List (Nat × Bool)) (mode:Nat) (c a b:Operand):Option Value :=
  match c with
  | .tmp t =>
    match evT E ch t with
    | some (.bool x) =>
      match mode with
      | 2=>(match x with | true=>evO E ((t,true)::ch) a | false=>none)
      | 3=>(match x with | false=>evO E ((t,false)::ch) b | true=>none)
      | 4=>(match evO E ((t,true)::ch) a,evO E ((t,false)::ch) b with | some va,some vb=>selV x va vb | _,_=>none)
      | 5=>(match a,evO E ((t,false)::ch) b with | .const (.bool true),some (.bool y)=>some (.bool (x||y)) | _,_=>none)
      | 6=>(match evO E ((t,true)::ch) a,b with | some (.bool y),.const (.bool false)=>some (.bool (x&&y)) | _,_=>none)
      | _=>none
    | _=>none
  | _=>none
def pstep (P:Program) (ops:Array Oper) (n:Fr) (mode:Nat) (o:Oper) (E:List Sl):Option (List Sl) :=
  match mode with
  | 0=>(match E3 ops E o.guard with
    | some ch=>(match F9 n ch o.dst,pev P (evO E ch) o.op with | true,some v=>some (Env.put E o.dst ch v) | _,_=>none)
    | none=>none)
  | 1=>(match gOff ops E o.guard,F9 n [] o.dst with | true,true=>some (Env.put E o.dst [] undef) | _,_=>none)
  | _=>(match E3 ops E o.guard,o.op with
    | some ch,.pick c a b=>(match F9 n ch o.dst,pickV E ch mode c a b with | true,some v=>some (Env.put E o.dst ch v) | _,_=>none)
    | _,_=>none)
theorem pstep_sound {P:Program} {ops:Array Oper} {n:Fr} {mode:Nat} {o:Oper} {E E':Env} (h:pstep P ops n mode o E=some E') {a:Act} (ha:Ag n E a) :
    (Region.wanted o (yielded ops a.tmps)=false∧Ag n E' (a.put o.dst undef)) ∨
    (Region.wanted o (yielded ops a.tmps)=true∧∃ v,(∀ w,(execOp a.eval o).run P w=.ok (.value v) w)∧Ag n E' (a.put o.dst v)):=by
  obtain ⟨β,hβ,hat⟩:=ha.at_
  unfold pstep at h
  split at h
  · split at h
    · rename_i ch hch
      split at h
      · rename_i v hd hv
        injection h with h; subst h
        have hw:=J4 hβ hat hch
        have hput:=Ag.put ha hβ hat hd v
        by_cases hc:chT β ch=true
        · rw [if_pos hc] at hput
          exact .inr ⟨by rw [hw,hc],v,fun w=>pev_sound (fun x v=>G6 hat hc) hv w,hput⟩
        · rw [if_neg hc] at hput
          exact .inl ⟨by rw [hw]; simpa using hc,hput⟩
      · simp at h
    · simp at h
  · split at h
    · rename_i hg hd
      injection h with h; subst h
      have hput:=Ag.put ha hβ hat hd undef
      simp only [chT,List.all_nil,if_true] at hput
      refine .inl ⟨?_,hput⟩
      unfold gOff at hg
      unfold Region.wanted
      split at hg
      · simp at hg
      · rename_i j want hgu
        split at hg
        · rename_i dj hdj
          split at hg
          · rename_i s hs
            obtain ⟨hm,ht⟩:=Env.find_mem hs
            subst ht
            have h1:=hat s hm
            simp only [hgu,yielded,hdj,Option.bind_some,h1]
            cases hc:chT β s.ch
            · simp [undef]
            · simp only [if_true]
              split at hg <;> rename_i hv <;> simp_all
          · simp at hg
        · simp at hg
    · simp at h
  · split at h
    · rename_i ch c x y hch ho
      split at h
      · rename_i v hd hv
        injection h with h; subst h
        have hw:=J4 hβ hat hch
        have hput:=Ag.put ha hβ hat hd v
        by_cases hc:chT β ch=true
        · rw [if_pos hc] at hput
          refine .inr ⟨by rw [hw,hc],v,fun w=>?_,hput⟩
          unfold pickV at hv
          split at hv
          · rename_i t
            split at hv
            · rename_i b hb
              have hcv:a.eval (.tmp t)=.bool b:=G6 hat hc (x:=.tmp t) hb
              -- what the slot's value says of longer chains
              have hlong:∀ w,b=w→chT β ((t,w)::ch)=true:=by
                intro w hw'
                unfold evT at hb
                split at hb
                · rename_i s hs
                  obtain ⟨hm,ht⟩:=Env.find_mem hs
                  split at hb
                  · injection hb with hb
                    have:=hβ s hm w
                    rw [hb,ht] at this
                    simp only [chT,List.all_cons,Bool.and_eq_true]
                    refine ⟨?_,hc⟩
                    rw [this,hw']; simp [L6]
                  · simp at hb
                · simp at hb
              have hrun:(execOp a.eval o).run P w=.ok (.value (if b then a.eval x else a.eval y)) w:=by
                unfold execOp
                simp only [ho,hcv]
                simp [asBool]
              rw [hrun]
              congr 2
              split at hv
              · split at hv
                · simp only [if_true]; exact G6 hat (hlong true rfl) hv
                · simp at hv
              · split at hv
                · simp only [Bool.false_eq_true,if_false]; exact G6 hat (hlong false rfl) hv
                · simp at hv
              · split at hv
                · rename_i va vb hva hvb
                  rw [selV_sound hv]
                  cases b
                  · simp only [Bool.false_eq_true,if_false]; exact G6 hat (hlong false rfl) hvb
                  · simp only [if_true]; exact G6 hat (hlong true rfl) hva
                · simp at hv
              · split at hv
                · rename_i z hz
                  injection hv with hv; subst hv
                  cases b
                  · simp only [Bool.false_eq_true,if_false,Bool.false_or]; exact G6 hat (hlong false rfl) hz
                  · simp only [if_true,Bool.true_or]; rfl
                · simp at hv
              · split at hv
                · rename_i z hz
                  injection hv with hv; subst hv
                  cases b
                  · simp only [Bool.false_eq_true,if_false,Bool.false_and]; rfl
                  · simp only [if_true,Bool.true_and]; exact G6 hat (hlong true rfl) hz
                · simp at hv
              · simp at hv
            · simp at hv
          · simp at hv
        · rw [if_neg hc] at hput
          exact .inl ⟨by rw [hw]; simpa using hc,hput⟩
      · simp at h
    · simp at h
def J7 (P:Program) (ops:Array Oper) (n:Fr):List Nat→Nat→List Sl→Option (List Sl)
  | [],_,E=>some E
  | m::ms,i,E=>(match ops[i]? with
    | some o=>(match pstep P ops n m o E with | some E'=>J7 P ops n ms (i+1) E' | none=>none)
    | none=>none)
theorem GL_psteps {d:Bool} {P:Program} {ops:Array Oper} {Q:D9} {n:Fr} {W0:World} {H:List Grp}:∀ (ms:List Nat) {i:Nat} {E E':Env},
    J7 P ops n ms i E=some E'→GL d P ops (i+ms.length) Q n E' W0 H→GL d P ops i Q n E W0 H
  | [],i,E,E',h,k=>by simp only [J7,Option.some.injEq] at h; subst h; exact k
  | m::ms,i,E,E',h,k=>by
    simp only [J7] at h
    split at h
    · rename_i o ho
      split at h
      · rename_i E1 h1
        have k':GL d P ops (i+1) Q n E1 W0 H:=GL_psteps ms h (by rw [show i+1+ms.length=i+(m::ms).length from by simp; omega]; exact k)
        have hi:i<ops.toList.length:=by
          rcases Nat.lt_or_ge i ops.size with h | h
          · simpa using h
          · simp [Array.getElem?_eq_none h] at ho
        have hdrop:ops.toList.drop i=o::ops.toList.drop (i+1):=by
          rw [List.drop_eq_getElem_cons hi]
          congr 1
          have hi':i<ops.size:=by simpa using hi
          rw [Array.getElem?_eq_getElem hi'] at ho
          simpa using ho
        cases d with
        | true =>
          intro a ha
          rw [hdrop]
          unfold wpQuiet
          rcases pstep_sound h1 ha with ⟨hw,h2⟩ | ⟨hw,v,hv,h2⟩
          · rw [hw]; exact k' _ h2
          · rw [hw]; exact ⟨v,fun w _=>by unfold Oper.quietAt; rw [hv]; exact ⟨rfl,rfl⟩,k' _ h2⟩
        | false =>
          intro a w ha hs
          rw [hdrop]
          unfold wpList
          rcases pstep_sound h1 ha with ⟨hw,h2⟩ | ⟨hw,v,hv,h2⟩
          · rw [hw]; exact k' _ _ h2 hs
          · rw [hw]; exact .inl (by unfold Oper.wp; rw [hv]; exact k' _ _ h2 hs)
      · simp at h
    · simp at h
def Env.keep:List Nat→List Sl→List Sl
  | [],_=>[]
  | t::ts,E=>(match Env.find E t with
    | some ⟨u,[],v⟩=>⟨u,[],v⟩::Env.keep ts E
    | _=>Env.keep ts E)
theorem Env.keep_mem:∀ (ts:List Nat) {E:Env} {s:Sl},s∈Env.keep ts E→s∈E
  | [],E,s,h=>by simp [Env.keep] at h
  | t::ts,E,s,h=>by
    simp only [Env.keep] at h
    split at h
    · rename_i u v hf
      rcases List.mem_cons.1 h with rfl | h
      · exact (Env.find_mem hf).1
      · exact Env.keep_mem ts h
    · exact Env.keep_mem ts h
theorem GL_end {d:Bool} {P:Program} {ops:Array Oper} {i:Nat} {Q:D9} {n:Fr} {E:Env} {W0:World} {H:List Grp}
    (hi:ops.size=i) (k:N Q .normal n E W0 H):GL d P ops i Q n E W0 H:=by
  have hdrop:ops.toList.drop i=[]:=by rw [List.drop_eq_nil_of_le]; simp [hi]
  cases d with
  | true=>intro a ha; rw [hdrop]; exact fun w' hs=>k _ _ ha hs
  | false=>intro a w ha hs; rw [hdrop]; exact k _ _ ha hs
theorem N_sub {Q:D9} {x:Exit} {n:Fr} {E E':Env} {W0:World} {H:List Grp} (ts:List Nat) (h:Env.keep ts E=E') (k:N Q x n E' W0 H):N Q x n E W0 H :=
  fun a w ha hs=>k a w (ha.sub (by subst h; intro s hs; exact Env.keep_mem _ hs)) hs
theorem A2 {P:Program} {id:Nat} {ops:Array Oper} {Q:D9} {n:Fr} {E:Env} {W0:World} {H:List Grp}
    (k:GL false P ops 0 Q n E W0 H):G P (.region id ops false) Q n E W0 H :=
  fun a w ha hs=>wp_region_list (by have:=k a w ha hs; simpa using this)
theorem L2 {P:Program} {id:Nat} {ops:Array Oper} {Q:D9} {n:Fr} {E:Env} {W0:World} {H:List Grp}
    (hm:P.follows .mixedOrders=true:=by kernel_rfl) (hB:Region.lexB .any ops=true:=by kernel_rfl) (k:GL true P ops 0 Q n E W0 H):G P (.region id ops true) Q n E W0 H :=
  fun a w ha hs=>wp_region_quiet (C:=Sat W0 H) hm hB hs.drew (by have:=k a ha; simpa using this)
theorem B3 {P:Program} {id:Nat} {ops:Array Oper} {Q:D9} {n:Fr} {E E':Env} {W0:World} {H:List Grp} (ms ts:List Nat)
    (hl:ops.size=ms.length:=by exact rfl) (h:(J7 P ops n ms 0 E).map (Env.keep ts)=some E':=by kernel_rfl) (k:N Q .normal n E' W0 H):G P (.region id ops false) Q n E W0 H:=by
  cases hp:J7 P ops n ms 0 E with
  | none=>rw [hp] at h; simp at h
  | some E1 =>
    rw [hp] at h; simp only [Option.map_some,Option.some.injEq] at h
    exact A2 (GL_psteps ms hp (GL_end (by omega) (N_sub ts h k)))
def Env.only (ts:List Nat) (E:List Sl):List Sl:=E.filter fun s=>ts.contains s.t
theorem GL_sub {d:Bool} {P:Program} {ops:Array Oper} {i:Nat} {Q:D9} {n:Fr} {E E':Env} {W0:World} {H:List Grp} (hs:∀ s,s∈E'→s∈E) (k:GL d P ops i Q n E' W0 H):GL d P ops i Q n E W0 H:=by
  cases d
  · exact fun a w ha=>k a w (ha.sub hs)
  · exact fun a ha=>k a (ha.sub hs)
theorem C1 {d:Bool} {P:Program} {ops:Array Oper} {i j:Nat} {Q:D9} {n:Fr} {E E':Env} {W0:World} {H:List Grp} (ms:List Nat)
    (h:(J7 P ops n ms i E).map (Env.only (E'.map Sl.t))=some E':=by kernel_rfl) (hj:i+ms.length=j:=by exact rfl) (k:GL d P ops j Q n E' W0 H):GL d P ops i Q n E W0 H:=by
  cases hp:J7 P ops n ms i E with
  | none=>rw [hp] at h; simp at h
  | some E1 =>
    rw [hp] at h; simp only [Option.map_some,Option.some.injEq] at h
    refine GL_psteps ms hp (GL_sub (E':=E') (fun s hs=>?_) (by rw [hj]; exact k))
    rw [← h] at hs
    exact (List.mem_filter.1 hs).1
theorem B8 {d:Bool} {P:Program} {ops:Array Oper} {i:Nat} {Q:D9} {n:Fr} {E E':Env} {W0:World} {H:List Grp} (ms ts:List Nat)
    (hl:ops.size=i+ms.length:=by exact rfl) (h:(J7 P ops n ms i E).map (Env.keep ts)=some E':=by kernel_rfl) (k:N Q .normal n E' W0 H):GL d P ops i Q n E W0 H:=by
  cases hp:J7 P ops n ms i E with
  | none=>rw [hp] at h; simp at h
  | some E1 =>
    rw [hp] at h; simp only [Option.map_some,Option.some.injEq] at h
    exact GL_psteps ms hp (GL_end hl (N_sub ts h k))
theorem A1 {P:Program} {x y:Code} {Q:D9} {n:Fr} {E:Env} {W0:World} {H:List Grp}
    (k:G P x (Exit.then (y.wp P Q) Q) n E W0 H):G P (.seq x y) Q n E W0 H:=fun a w ha hs=>wp_seq (k a w ha hs)
theorem A0 {P:Program} {y:Code} {Q:D9} {n:Fr} {E:Env} {W0:World} {H:List Grp} (k:G P y Q n E W0 H):N (Exit.then (y.wp P Q) Q) .normal n E W0 H:=k
theorem A8 {K:Act→World→Prop} {Q:D9} {id:Nat} {n:Fr} {E:Env} {W0:World} {H:List Grp} (k:N Q (.exit id) n E W0 H):N (Exit.then K Q) (.exit id) n E W0 H:=k
theorem A3 {K:Act→World→Prop} {Q:D9} {n:Fr} {E:Env} {W0:World} {H:List Grp} (k:N Q .ret n E W0 H):N (Exit.then K Q) .ret n E W0 H:=k
theorem B2 {Q:D9} {id:Nat} {n:Fr} {E:Env} {W0:World} {H:List Grp} (k:N Q .normal n E W0 H):N (Exit.inBlock id Q) .normal n E W0 H:=k
theorem A9 {Q:D9} {id:Nat} {n:Fr} {E:Env} {W0:World} {H:List Grp} (k:N Q .ret n E W0 H):N (Exit.inBlock id Q) .ret n E W0 H:=k
theorem C2 {Q:D9} {id:Nat} {n:Fr} {E:Env} {W0:World} {H:List Grp} (k:N Q .normal n E W0 H):N (Exit.inBlock id Q) (.exit id) n E W0 H :=
  fun a w ha hs=>by simp only [Exit.inBlock,if_true]; exact k a w ha hs
theorem B4 {P:Program} {id:Nat} {c:Code} {Q:D9} {n:Fr} {E:Env} {W0:World} {H:List Grp} (k:G P c (Exit.inBlock id Q) n E W0 H):G P (.block id c) Q n E W0 H :=
  fun a w ha hs=>wp_block (k a w ha hs)
theorem A7 {P:Program} {Q:D9} {n:Fr} {E:Env} {W0:World} {H:List Grp} (k:N Q .normal n E W0 H):G P .skip Q n E W0 H:=fun a w ha hs=>wp_skip (k a w ha hs)
theorem F7 {P:Program} {id:Nat} {Q:D9} {n:Fr} {E:Env} {W0:World} {H:List Grp} (k:N Q (.exit id) n E W0 H):G P (.exit id) Q n E W0 H:=fun a w ha hs=>wp_exit (k a w ha hs)
theorem B6 {P:Program} {Q:D9} {n:Fr} {E:Env} {W0:World} {H:List Grp} (k:N Q .ret n E W0 H):G P .ret Q n E W0 H:=fun a w ha hs=>wp_ret (k a w ha hs)
theorem Ag.eval {n:Fr} {E:Env} {a:Act} (ha:Ag n E a) {x:Operand} {v:Value} (h:evO E [] x=some v):a.eval x=v:=by
  obtain ⟨β,_,hat⟩:=ha.at_
  exact G6 (ch:=[]) hat (by simp [chT]) h
theorem B1 {P:Program} {c:Operand} {x y:Code} {Q:D9} {n:Fr} {E:Env} {W0:World} {H:List Grp} {b:Bool}
    (hc:evO E [] c=some (.bool b):=by kernel_rfl) (ht:b=true→G P x Q n E W0 H) (hf:b=false→G P y Q n E W0 H):G P (.cond c x y) Q n E W0 H :=
  fun a w ha hs=>wp_cond_split (ha.eval hc) (fun h=>ht h a w ha hs) (fun h=>hf h a w ha hs)
theorem C6 {P:Program} {c:Operand} {x y:Code} {Q:D9} {n:Fr} {E:Env} {W0:World} {H:List Grp}
    (hc:evO E [] c=some (.bool true):=by kernel_rfl) (k:G P x Q n E W0 H):G P (.cond c x y) Q n E W0 H:=fun a w ha hs=>wp_cond_true (ha.eval hc) (k a w ha hs)
theorem D7 {P:Program} {c:Operand} {x y:Code} {Q:D9} {n:Fr} {E:Env} {W0:World} {H:List Grp}
    (hc:evO E [] c=some (.bool false):=by kernel_rfl) (k:G P y Q n E W0 H):G P (.cond c x y) Q n E W0 H:=fun a w ha hs=>wp_cond_false (ha.eval hc) (k a w ha hs)
theorem I8 {P:Program} {c:Code} {Q:D9} {n:Fr} {E:Env} {W0:World} {H:List Grp} {σ:Type} (EI:σ→Env) (HI:σ→List Grp) (Φ:σ→Prop) (μ:σ→Nat)
    (s0:σ) (ts:List Nat) (hE:Env.keep ts E=EI s0:=by kernel_rfl) (hH:H=HI s0:=by exact rfl) (h0:Φ s0)
    (round:∀ s,Φ s→G P c (Exit.then (fun a' w'=>∃ s',Φ s'∧μ s'<μ s∧Ag n (EI s') a'∧Sat W0 (HI s') w') Q) n (EI s) W0 (HI s)):G P (.loop c) Q n E W0 H:=by
  intro a w ha hs b k cs
  have ha':Ag n (EI s0) a:=ha.sub (by rw [← hE]; intro s hs; exact Env.keep_mem _ hs)
  have key:∀ m s,μ s=m→Φ s→∀ a w,Ag n (EI s) a→Sat W0 (HI s) w →
      ∃ e a' w',Q e a' w'∧Arrives P (lone (b.at a (.code c::.inLoop c::k)) cs w) b k cs e a' w':=by
    intro m
    induction m using Nat.strongRecOn with
    | _ m ih =>
      intro s hm hΦ a w ha hs
      obtain ⟨e,a₁,w₁,hq,harr⟩:=round s hΦ a w ha hs b (.inLoop c::k) cs
      cases e with
      | normal =>
        obtain ⟨s',hΦ',hlt,ha',hs'⟩:=hq
        obtain ⟨e₂,a₂,w₂,hq₂,harr₂⟩:=ih (μ s') (hm ▸ hlt) s' rfl hΦ' a₁ w₁ ha' hs'
        exact ⟨e₂,a₂,w₂,hq₂,.of_steps (Steps.trans harr (.one step_inLoop)) harr₂⟩
      | exit id=>exact ⟨_,a₁,w₁,hq,.pass (x:=.inLoop c) rfl (fun _ _=>.inl (by simp)) harr⟩
      | goto l=>exact ⟨_,a₁,w₁,hq,.pass (x:=.inLoop c) rfl (fun _ _=>.inl (by simp)) harr⟩
      | ret=>exact ⟨_,a₁,w₁,hq,.pass (x:=.inLoop c) rfl (fun _ _=>.inl (by simp)) harr⟩
      | panic ch=>exact ⟨_,a₁,w₁,hq,.pass (x:=.inLoop c) rfl (fun _ _=>.inl (by simp)) harr⟩
      | outgrown=>exact ⟨_,a₁,w₁,hq,.pass (x:=.inLoop c) rfl (fun _ _=>.inl (by simp)) harr⟩
  obtain ⟨e,a',w',hq,harr⟩:=key _ s0 rfl h0 a w ha' (hH ▸ hs)
  exact ⟨e,a',w',hq,.of_steps (.one step_loop) harr⟩
theorem D8 {Q:D9} {n:Fr} {E:Env} {W0:World} {H:List Grp} {σ:Type} {EI:σ→Env} {HI:σ→List Grp} {Φ:σ→Prop} {μ:σ→Nat} {s:σ}
    (s':σ) (ts:List Nat) (hE:Env.keep ts E=EI s':=by kernel_rfl) (hH:H=HI s':=by exact rfl) (hΦ:Φ s') (hμ:μ s'<μ s) :
    N (Exit.then (fun a' w'=>∃ s',Φ s'∧μ s'<μ s∧Ag n (EI s') a'∧Sat W0 (HI s') w') Q) .normal n E W0 H :=
  fun a w ha hs=>⟨s',hΦ,hμ,ha.sub (by rw [← hE]; intro s hs; exact Env.keep_mem _ hs),hH ▸ hs⟩
def GRd (P:Program) (c:Code) (Q:D9) (m:Nat) (n:Fr) (E:Env) (W0:World) (H:List Grp):Prop:=∀ a w,Ag n E a→Sat W0 H w→Code.rounds P c Q m a w
theorem L9 {P:Program} {c:Code} {Q:D9} {n:Fr} {E:Env} {W0:World} {H:List Grp} (m:Nat) (k:GRd P c Q m n E W0 H):G P (.loop c) Q n E W0 H :=
  fun a w ha hs=>wp_loop_rounds m (k a w ha hs)
theorem E4 {P:Program} {c:Code} {Q:D9} {n:Fr} {E:Env} {W0:World} {H:List Grp} {m:Nat} (k:G P c (Exit.then (Code.rounds P c Q m) Q) n E W0 H):GRd P c Q (m+1) n E W0 H:=k
theorem N_rd {P:Program} {c:Code} {Q:D9} {n:Fr} {E:Env} {W0:World} {H:List Grp} {m:Nat} (k:GRd P c Q m n E W0 H):N (Exit.then (Code.rounds P c Q m) Q) .normal n E W0 H:=k
def Tri (P:Program) (f:FuncId) (args:Array Value) (W0:World) (H:List Grp) (R:Value→List Grp→Prop):Prop :=
  ∀ w,Sat W0 H w→Calls P f args w fun e w'=>∃ v H',e=.returned v∧R v H'∧Sat W0 H' w'
theorem Tri.mono {P:Program} {f:FuncId} {args:Array Value} {W0:World} {H:List Grp} {R R':Value→List Grp→Prop} (h:Tri P f args W0 H R)
    (hr:∀ v H',R v H'→R' v H'):Tri P f args W0 H R' :=
  fun w hs=>(h w hs).mono fun _ _ ⟨v,H',he,hR,hs'⟩=>⟨v,H',he,hr _ _ hR,hs'⟩
def Body (P:Program) (fn:Func) (W0:World) (R:Value→List Grp→Prop):D9 :=
  bodyPost P fn fun e w'=>∃ v H',e=.returned v∧R v H'∧Sat W0 H' w'
def argEnv:Nat→List Value→List Sl
  | _,[]=>[]
  | i,v::r=>⟨i,[],v⟩::argEnv (i+1) r
theorem K5:∀ (vs:List Value) (i:Nat) (s:Sl),s∈argEnv i vs→s.ch=[]∧i≤s.t∧vs[s.t - i]? = some s.v
  | [],_,_,h=>by simp [argEnv] at h
  | v::r,i,s,h=>by
    simp only [argEnv,List.mem_cons] at h
    rcases h with rfl | h
    · simp
    · obtain ⟨h1,h2,h3⟩:=K5 r (i+1) s h
      refine ⟨h1,by omega,?_⟩
      have:s.t - i=(s.t - (i+1))+1:=by omega
      rw [this,List.getElem?_cons_succ]
      exact h3
theorem D1 {P:Program} {f:FuncId} {fn:Func} {c:Code} {args:List Value} {n:Fr} {W0:World} {H:List Grp} {R:Value→List Grp→Prop}
    (hf:P.funcs[f]? = some fn) (hb:fn.body=some c) (hn:fn.ntmps=n.k) (hle:args.length≤n.k)
    (k:G P c (Body P fn W0 R) n (argEnv 0 args) W0 H) (hz:n.dl=[]:=by rfl):Tri P f args.toArray W0 H R:=by
  intro w hs
  refine calls_of_wp hf hb (k _ w ?_ hs)
  refine ⟨by unfold Fr.ds; rw [hz],by simp [hn]; omega,fun u w=>match args[u]? with | some v=>L6 v==some w | none=>false,?_,?_⟩
  · intro s hs w
    obtain ⟨h1,h2,h3⟩:=K5 args 0 s hs
    simp only [Nat.sub_zero] at h3
    simp only [h3]
  · intro s hs
    obtain ⟨h1,h2,h3⟩:=K5 args 0 s hs
    simp only [Nat.sub_zero] at h3
    rw [h1]
    simp only [chT,List.all_nil,if_true]
    have hlt:s.t<args.length:=by
      rcases Nat.lt_or_ge s.t args.length with h | h
      · exact h
      · simp [List.getElem?_eq_none h] at h3
    rw [Array.getElem?_append_left (by simpa using hlt)]
    simpa using h3
def resV (E:List Sl):List ResultVar→Option (List Value)
  | []=>some []
  | .tmp t::r=>(match evT E [] t,resV E r with | some v,some l=>some (v::l) | _,_=>none)
  | _::_=>none
def packV:List Value→Value
  | [v]=>v
  | l=>.tuple l.toArray
def resOne (tmps:Array Value):ResultVar→Sem Value
  | .tmp t=>pure (tmps.getD t undef)
  | .cell a t=>do loadVar t (← asAddr (tmps.getD a undef))
theorem resList_of {P:Program} {n:Fr} {E:Env} {a:Act} (ha:Ag n E a) (w:World):∀ (rs:List ResultVar) {l:List Value},resV E rs=some l →
    (rs.mapM (resOne a.tmps)).run P w=.ok l w
  | [],l,h=>by simp only [resV,Option.some.injEq] at h; subst h; rfl
  | .tmp t::rs,l,h=>by
    simp only [resV] at h
    split at h
    · rename_i v l' hv hl
      injection h with h; subst h
      have e:a.tmps.getD t undef=v:=ha.eval (x:=.tmp t) hv
      have ih:=resList_of (P:=P) ha w rs hl
      simp only [List.mapM_cons,Sem.run_bind,resOne,Sem.run_pure,Result.andThen_ok,e,ih]
    · simp at h
  | .cell b t::rs,l,h=>by simp [resV] at h
theorem results_eq (fn:Func) (tmps:Array Value):results fn tmps=(fn.results.mapM (resOne tmps)) >>= fun vs=>(pure (if h:vs.size=1 then vs[0] else .tuple vs):Sem Value):=rfl
theorem results_of {P:Program} {fn:Func} {n:Fr} {E:Env} {a:Act} (ha:Ag n E a) {rs:List ResultVar} {l:List Value} (h:resV E rs=some l)
    (hr:fn.results=rs.toArray) (w:World):(results fn a.tmps).run P w=.ok (packV l) w:=by
  have e2:=resList_of (P:=P) ha w rs h
  have e3:((rs.toArray).mapM (resOne a.tmps)).run P w=.ok l.toArray w:=by
    rw [Array.mapM_eq_mapM_toList,Sem.run_map,e2]; rfl
  rw [results_eq,hr,Sem.run_bind,e3]
  simp only [Result.andThen_ok,Sem.run_pure]
  congr 1
  cases l with
  | nil=>rfl
  | cons v l=>cases l with
    | nil=>rfl
    | cons u l=>simp [packV]
theorem B5 {P:Program} {fn:Func} {n:Fr} {E:Env} {W0:World} {H:List Grp} {R:Value→List Grp→Prop} {x:Exit} (rs:List ResultVar) (l:List Value)
    (hr:fn.results=rs.toArray:=by exact rfl) (h:resV E rs=some l:=by kernel_rfl) (hx:(match x with | .normal=>true | .ret=>true | _=>false)=true:=by exact rfl) (k:R (packV l) H) (hz:n.dl=[]:=by rfl):N (Body P fn W0 R) x n E W0 H:=by
  intro a w ha hs
  cases x <;> simp at hx
  · exact ⟨ha.defers.trans (by unfold Fr.ds; rw [hz]),_,results_of ha h hr w,_,H,rfl,k,hs⟩
  · exact ⟨ha.defers.trans (by unfold Fr.ds; rw [hz]),_,results_of ha h hr w,_,H,rfl,k,hs⟩
theorem GL_call {P:Program} {ops:Array Oper} {i:Nat} {Q:D9} {n:Fr} {E:Env} {W0:World} {H:List Grp} {o:Oper} {ch:List (Nat × Bool)} {c:Call} {fo:Operand} {f:FuncId} {caps:Array Value} {fst:Array Value} {vs:List Value}
    {fn:Func} {R:Value→List Grp→Prop}
    (ho:ops[i]? = some o:=by exact rfl) (hop:o.op=.call c:=by exact rfl) (hce:c.callee=.value fo:=by exact rfl) (hfo:evO E ch fo=some (.func (.func f) fst caps):=by kernel_rfl) (hargs:evL (evO E ch) c.args.toList=some vs:=by kernel_rfl)
    (hf : P.funcs[f]? = some fn) (hrt : (fn.name == "runtime.NumGoroutine") = false := by exact rfl) (hbody : fn.body.isNone = false := by exact rfl)
    (hch:E3 ops E o.guard=some ch:=by kernel_rfl) (hd:F9 n ch o.dst=true:=by kernel_rfl) (hsure:∀ β:Nat→Bool→Bool,(∀ s,s∈E→∀ w,β s.t w=(L6 s.v==some w))→chT β ch=true)
    (hc:Tri P f (fst++vs.toArray++caps) W0 H R)
    (k:∀ v H',R v H'→GL false P ops (i+1) Q n (Env.put E o.dst ch v) W0 H'):GL false P ops i Q n E W0 H:=by
  have hi:i<ops.toList.length:=by
    rcases Nat.lt_or_ge i ops.size with h | h
    · simpa using h
    · simp [Array.getElem?_eq_none h] at ho
  have hdrop:ops.toList.drop i=o::ops.toList.drop (i+1):=by
    rw [List.drop_eq_getElem_cons hi]
    congr 1
    have hi':i<ops.size:=by simpa using hi
    rw [Array.getElem?_eq_getElem hi'] at ho
    simpa using ho
  intro a w ha hs
  rw [hdrop]
  obtain ⟨β,hβ,hat⟩:=ha.at_
  have hcT:=hsure β hβ
  have hw:=J4 hβ hat hch
  unfold wpList
  rw [hw,if_pos hcT]
  left
  have hrun:(execOp a.eval o).run P w=.ok (.enter f (fst++vs.toArray++caps)) w:=by
    unfold execOp
    simp only [hop]
    simp only [resolve,hce]
    rw [G6 hat hcT hfo,J0 (fun x v=>G6 hat hcT) hargs]
    simp only [Deferred.ofValue,Sem.run_bind,Sem.run_pure,Result.andThen_ok,invoke,callFunc,run_program,hf,hrt,hbody,Bool.false_eq_true,if_false]
  unfold Oper.wp
  rw [hrun]
  refine (hc w hs).mono ?_
  rintro e w' ⟨v,H',rfl,hR,hs'⟩
  have hput:=Ag.put ha hβ hat hd v
  rw [if_pos hcT] at hput
  exact k v H' hR _ _ hput hs'
theorem F6 {d:Bool} {P:Program} {ops:Array Oper} {i:Nat} {Q:D9} {n:Fr} {E:Env} {W0:World} {H:List Grp} {o:Oper} {ch:List (Nat × Bool)} {c:Call} {fo:Operand} {f:FuncId} {caps:Array Value} {fst:Array Value} {vs:List Value}
    {fn:Func} {v:Value}
    (ho:ops[i]? = some o:=by exact rfl) (hop:o.op=.call c:=by exact rfl) (hce:c.callee=.value fo:=by exact rfl) (hfo:evO E ch fo=some (.func (.func f) fst caps):=by kernel_rfl) (hargs:evL (evO E ch) c.args.toList=some vs:=by kernel_rfl)
    (hf : P.funcs[f]? = some fn) (hrt : (fn.name == "runtime.NumGoroutine") = false := by exact rfl) (hbody : fn.body.isNone = false := by exact rfl)
    (hch:E3 ops E o.guard=some ch:=by kernel_rfl) (hd:F9 n ch o.dst=true:=by kernel_rfl) (hk:H7 E ch=true:=by kernel_rfl)
    (hc:chB E ch→Tri P f (fst++vs.toArray++caps) W0 H (fun u H'=>u=v∧H'=H))
    (k:GL d P ops (i+1) Q n (Env.put E o.dst ch v) W0 H):GL d P ops i Q n E W0 H:=by
  refine G3 ho hch hd hk (fun r hr hcb w hs=>?_) k
  have hrun:(execOp r o).run P w=.ok (.enter f (fst++vs.toArray++caps)) w:=by
    unfold execOp
    simp only [hop]
    simp only [resolve,hce]
    rw [hr _ _ hfo,J0 hr hargs]
    simp only [Deferred.ofValue,Sem.run_bind,Sem.run_pure,Result.andThen_ok,invoke,callFunc,run_program,hf,hrt,hbody,Bool.false_eq_true,if_false]
  rw [hrun]
  refine ⟨rfl,(hc hcb w hs).mono ?_⟩
  rintro e w' ⟨u,H',rfl,⟨rfl,rfl⟩,hs'⟩
  exact ⟨rfl,hs'⟩
def I5 (E:List Sl) (ch:List (Nat × Bool)):Bool:=ch.all fun p=>match Env.find E p.1 with
  | some s=>(match s.v,p.2 with | .bool true,true=>true | .bool false,false=>true | _,_=>false)
  | none=>false
theorem chSure_of {E:Env} {ch:List (Nat × Bool)} (h:I5 E ch=true) (β:Nat→Bool→Bool) (hβ:∀ s,s∈E→∀ w,β s.t w=(L6 s.v==some w)):chT β ch=true:=by
  unfold chT
  rw [List.all_eq_true]
  intro p hp
  have:=List.all_eq_true.1 h p hp
  split at this
  · rename_i s hs
    obtain ⟨hm,ht⟩:=Env.find_mem hs
    rw [← ht,hβ s hm]
    split at this <;> rename_i hv hw <;> simp_all [L6]
  · simp at this
theorem w64 {x:Int} (h0:-9223372036854775808≤x) (h1:x≤9223372036854775807):IntKind.wrap .i64 x=x:=by
  simp only [IntKind.wrap,IntKind.bits,IntKind.signed]
  simp only [show (2:Int) ^ 64=18446744073709551616 from by decide,show (2:Int) ^ (64 - 1)=9223372036854775808 from by decide]
  split <;> rename_i h <;> simp at h <;> omega
theorem q64 {x y:Int} (h0:0≤x) (h1:x≤9223372036854775807) (hy:0<y):IntKind.wrap .i64 (Int.tdiv x y)=x / y:=by
  rw [Int.tdiv_eq_ediv_of_nonneg h0]
  have:=Int.ediv_nonneg h0 (Int.le_of_lt hy)
  have:=Int.ediv_le_self y h0
  exact w64 (by omega) (by omega)
theorem r64 {x y:Int} (h0:0≤x):Int.tmod x y=x % y:=Int.tmod_eq_emod_of_nonneg h0
def A5 (s:ByteArray) (i:Int):Int:=(((s.data.toList)[i.toNat]?.getD 0).toNat:Int)
theorem C7 (s:ByteArray) (i:Int):0≤A5 s i∧A5 s i<256:=by
  unfold A5
  have:=UInt8.toNat_lt ((s.data.toList)[i.toNat]?.getD 0)
  omega
theorem C0 {d:Bool} {P:Program} {ops:Array Oper} {i:Nat} {Q:D9} {n:Fr} {E:Env} {W0:World} {H:List Grp} {o:Oper} {ch:List (Nat × Bool)} {t:TypeId} {x ix:Operand} {s:ByteArray} {kd:IntKind} {j:Int}
    (ho:ops[i]? = some o:=by exact rfl) (hop:o.op=.index t x ix:=by exact rfl) (hx:evO E ch x=some (.string s):=by kernel_rfl) (hix:evO E ch ix=some (.int kd j):=by kernel_rfl) (hu:P.underlying t=some .string:=by kernel_rfl)
    (hch:E3 ops E o.guard=some ch:=by kernel_rfl) (hd:F9 n ch o.dst=true:=by kernel_rfl) (hk:H7 E ch=true:=by kernel_rfl)
    (hb:chB E ch→0≤j∧j<s.size)
    (k:GL d P ops (i+1) Q n (Env.put E o.dst ch (.int .u8 (A5 s j))) W0 H):GL d P ops i Q n E W0 H:=by
  refine G3 ho hch hd hk (fun r hr hcb w _=>?_) k
  obtain ⟨h0,h1⟩:=hb hcb
  have hlt:j.toNat<s.size:=by omega
  have e:s[j.toNat]? = some s[j.toNat]:=by simp [getElem?_pos,hlt]
  have e2:((s[j.toNat]:UInt8).toNat:Int)=A5 s j:=by
    unfold A5
    have:(s.data.toList)[j.toNat]? = some s[j.toNat]:=by
      rw [List.getElem?_eq_getElem (by simpa using hlt)]; rfl
    rw [this]; rfl
  unfold execOp
  simp only [hop]
  rw [hr _ _ hx,hr _ _ hix]
  simp only [Instr.index,asIntOf,Sem.run_bind,run_underlying hu,Sem.run_pure,Result.andThen_ok,if_pos h0,e,e2]
  exact ⟨rfl,rfl⟩
def loV:Option Value→Option Int
  | none=>some 0
  | some (.int _ n)=>some n
  | _=>none
def hiV (len:Int):Option Value→Option Int
  | none=>some len
  | some (.int _ n)=>some n
  | _=>none
def evOO (ρ:Operand→Option Value):Option Operand→Option (Option Value)
  | none=>some none
  | some x=>(match ρ x with | some v=>some (some v) | none=>none)
theorem run_sliceBound {P:Program} {x:Value} {y:Nat} {code:BoundsCode} {kd:IntKind} {n:Int} (hx:x=.int kd n) (h0:0≤n) (h1:n≤y) (w:World):(Instr.sliceBound x y code).run P w=.ok n.toNat w:=by
  subst hx
  simp [Instr.sliceBound,asIntOf,h0,h1]
theorem M5 {P:Program} {isSlice:Bool} {len cap:Nat} {lo hi:Option Value} {l h:Int} (hl:loV lo=some l) (hh:hiV len hi=some h)
    (h0:0≤l) (h1:l≤h) (h2:h≤cap) (w:World):(Instr.sliceBounds isSlice len cap lo hi none).run P w=.ok (l.toNat,h.toNat,cap) w:=by
  have hhi:(match hi with | some v=>Instr.sliceBound v cap (if isSlice then .sliceAcap else .sliceAlen) | none=>(pure len:Sem Nat)).run P w=.ok h.toNat w:=by
    cases hi with
    | none=>simp only [hiV,Option.some.injEq] at hh; subst hh; rfl
    | some v =>
      cases v <;> simp only [hiV,Option.some.injEq,reduceCtorEq] at hh
      subst hh
      exact run_sliceBound rfl (by omega) h2 w
  have hlo:(match lo with | some v=>Instr.sliceBound v h.toNat .sliceB | none=>(pure 0:Sem Nat)).run P w=.ok l.toNat w:=by
    cases lo with
    | none=>simp only [loV,Option.some.injEq] at hl; subst hl; rfl
    | some v =>
      cases v <;> simp only [loV,Option.some.injEq,reduceCtorEq] at hl
      subst hl
      exact run_sliceBound rfl h0 (by omega) w
  unfold Instr.sliceBounds
  cases hi with
  | none =>
    simp only [Sem.run_bind,Sem.run_pure,Result.andThen_ok] at hhi ⊢
    injection hhi with hhi
    subst hhi
    cases lo with
    | none=>simp only [Sem.run_bind,Sem.run_pure,Result.andThen_ok] at hlo ⊢; injection hlo with hlo; rw [← hlo]
    | some v=>simp only [Option.isSome_none,Bool.false_eq_true,if_false,Sem.run_bind] at hlo ⊢; rw [hlo]; rfl
  | some u =>
    simp only [Sem.run_bind,Sem.run_pure,Result.andThen_ok] at hhi ⊢
    rw [hhi]
    simp only [Result.andThen_ok]
    cases lo with
    | none=>simp only [Sem.run_bind,Sem.run_pure,Result.andThen_ok] at hlo ⊢; injection hlo with hlo; rw [← hlo]
    | some v=>simp only [Option.isSome_none,Bool.false_eq_true,if_false,Sem.run_bind] at hlo ⊢; rw [hlo]; rfl
theorem E8 {d:Bool} {P:Program} {ops:Array Oper} {i:Nat} {Q:D9} {n:Fr} {E:Env} {W0:World} {H:List Grp} {o:Oper} {ch:List (Nat × Bool)} {t:TypeId} {x:Operand} {lo hi:Option Operand} {s:ByteArray} {vl vh:Option Value} {l h:Int}
    (ho:ops[i]? = some o:=by exact rfl) (hop:o.op=.slice t x lo hi none:=by exact rfl) (hx:evO E ch x=some (.string s):=by kernel_rfl) (hvl:evOO (evO E ch) lo=some vl:=by kernel_rfl) (hvh:evOO (evO E ch) hi=some vh:=by kernel_rfl) (hu:P.underlying t=some .string:=by kernel_rfl)
    (hl:loV vl=some l:=by kernel_rfl) (hh:hiV s.size vh=some h:=by kernel_rfl)
    (hch:E3 ops E o.guard=some ch:=by kernel_rfl) (hd:F9 n ch o.dst=true:=by kernel_rfl) (hk:H7 E ch=true:=by kernel_rfl)
    (hb:chB E ch→0≤l∧l≤h∧h≤s.size)
    (k:GL d P ops (i+1) Q n (Env.put E o.dst ch (.string (s.extract l.toNat h.toNat))) W0 H):GL d P ops i Q n E W0 H:=by
  refine G3 ho hch hd hk (fun r hr hcb w _=>?_) k
  obtain ⟨h0,h1,h2⟩:=hb hcb
  have hm:∀ {y:Option Operand} {v:Option Value},evOO (evO E ch) y=some v→y.map r=v:=by
    intro y v hv
    cases y with
    | none=>simp only [evOO,Option.some.injEq] at hv; subst hv; rfl
    | some y =>
      simp only [evOO] at hv
      split at hv
      · rename_i u hu; injection hv with hv; subst hv; simp [hr _ _ hu]
      · simp at hv
  unfold execOp
  simp only [hop]
  rw [hr _ _ hx,hm hvl,hm hvh]
  simp only [Instr.sliceAt,Instr.slice,Sem.run_bind,run_underlying hu,Result.andThen_ok,Option.map_none,Option.isSome_none,Bool.false_eq_true,if_false,
    M5 (P:=P) (isSlice:=false) hl hh h0 h1 h2,Sem.run_pure]
  exact ⟨rfl,rfl⟩
theorem F5 {d:Bool} {P:Program} {ops:Array Oper} {i:Nat} {Q:D9} {n:Fr} {E:Env} {W0:World} {H:List Grp} {o:Oper} {ch:List (Nat × Bool)} {t t2:TypeId} {x y:Operand} {s u:ByteArray}
    (ho:ops[i]? = some o:=by exact rfl) (hop:o.op=.binOp .add t x y t2:=by exact rfl) (hx:evO E ch x=some (.string s):=by kernel_rfl) (hy:evO E ch y=some (.string u):=by kernel_rfl)
    (hch:E3 ops E o.guard=some ch:=by kernel_rfl) (hd:F9 n ch o.dst=true:=by kernel_rfl) (hk:H7 E ch=true:=by kernel_rfl)
    (hb:chB E ch→s.size+u.size≤9223372036854775807)
    (k:GL d P ops (i+1) Q n (Env.put E o.dst ch (.string (s++u))) W0 H):GL d P ops i Q n E W0 H:=by
  refine G3 ho hch hd hk (fun r hr hcb w _=>?_) k
  have h0:=hb hcb
  have h1:¬ (((s.size+u.size:Nat):Int) > IntKind.i64.max):=by
    have:IntKind.i64.max=9223372036854775807:=by decide
    rw [this]; omega
  unfold execOp
  simp only [hop]
  rw [hr _ _ hx,hr _ _ hy]
  simp only [eqGuard,Sem.run_bind,binOp,Op.stringOp,if_neg h1]
  exact ⟨rfl,rfl⟩
end Go.Sw
namespace Go.Sw
open Go.RowKit
def At (W0:World) (H:List Grp) (b:Nat) (o:Obj):Prop:=(b<W0.heap.size∧W0.heap[b]? = some o)∨(b,o)∈H.flatten
theorem Sat.at {W0:World} {H:List Grp} {w:World} (h:Sat W0 H w) {b:Nat} {o:Obj} (ha:At W0 H b o):w.heap[b]? = some o:=by
  rcases ha with ⟨hb,h0⟩ | hm
  · rw [h.below.block b hb]; exact h0
  · exact h.has _ hm
theorem At.grp {W0:World} {H:List Grp} {g:Grp} {b:Nat} {o:Obj} (j i:Nat) (hj:H[j]? = some g) (hi:g[i]? = some (b,o)):At W0 H b o :=
  .inr (List.mem_flatten.2 ⟨g,List.mem_of_getElem? hj,List.mem_of_getElem? hi⟩)
theorem At.mem {W0:World} {H:List Grp} {g:Grp} {b:Nat} {o:Obj} (hg:g∈H) (hi:(b,o)∈g):At W0 H b o:=.inr (List.mem_flatten.2 ⟨g,hg,hi⟩)
structure Wr (b:Nat) (o:Obj) (w w':World):Prop where
  os:w'.os=w.os
  tape:w'.tape=w.tape
  output:w'.output=w.output
  size:w'.heap.size=w.heap.size
  at_:w'.heap[b]? = some o
  other:∀ k,k≠b→w'.heap[k]? = w.heap[k]?
theorem nodup_swap {H:List Grp} {g:Grp} {b:Nat} {o o':Obj} {j i:Nat} (hj:H[j]? = some g) (hi:g[i]? = some (b,o)) :
    ((H.set j (g.set i (b,o'))).flatten.map Prod.fst)=H.flatten.map Prod.fst:=by
  induction H generalizing j with
  | nil=>simp at hj
  | cons x H ih =>
    cases j with
    | zero =>
      simp only [List.getElem?_cons_zero,Option.some.injEq] at hj
      subst hj
      simp only [List.set_cons_zero,List.flatten_cons,List.map_append]
      congr 1
      clear ih
      induction x generalizing i with
      | nil=>simp at hi
      | cons p x ih =>
        cases i with
        | zero=>simp only [List.getElem?_cons_zero,Option.some.injEq] at hi; subst hi; simp
        | succ i=>simp only [List.getElem?_cons_succ] at hi; simp [ih hi]
    | succ j =>
      simp only [List.getElem?_cons_succ] at hj
      simp only [List.set_cons_succ,List.flatten_cons,List.map_append,ih hj]
theorem mem_swap {H:List Grp} {g:Grp} {b:Nat} {o o':Obj} {j i:Nat} (hj:H[j]? = some g) (hi:g[i]? = some (b,o)) (hn:(H.flatten.map Prod.fst).Nodup)
    {p:Nat × Obj} (hp:p∈(H.set j (g.set i (b,o'))).flatten):p=(b,o')∨(p∈H.flatten∧p.1≠b):=by
  induction H generalizing j with
  | nil=>simp at hj
  | cons x H ih =>
    simp only [List.flatten_cons,List.map_append,List.nodup_append] at hn
    obtain ⟨n1,n2,n3⟩:=hn
    cases j with
    | zero =>
      simp only [List.getElem?_cons_zero,Option.some.injEq] at hj
      subst hj
      simp only [List.set_cons_zero,List.flatten_cons,List.mem_append] at hp
      have hb:b∈x.map Prod.fst:=List.mem_map.2 ⟨_,List.mem_of_getElem? hi,rfl⟩
      rcases hp with hp | hp
      · have:p=(b,o')∨(p∈x∧p.1≠b):=by
          clear ih n2 n3 hb
          induction x generalizing i with
          | nil=>simp at hi
          | cons q x ih =>
            simp only [List.map_cons,List.nodup_cons] at n1
            cases i with
            | zero =>
              simp only [List.getElem?_cons_zero,Option.some.injEq] at hi; subst hi
              simp only [List.set_cons_zero,List.mem_cons] at hp
              rcases hp with rfl | hp
              · exact .inl rfl
              · refine .inr ⟨List.mem_cons_of_mem _ hp,fun e=>n1.1 ?_⟩
                exact List.mem_map.2 ⟨p,hp,e⟩
            | succ i =>
              simp only [List.getElem?_cons_succ] at hi
              simp only [List.set_cons_succ,List.mem_cons] at hp
              rcases hp with rfl | hp
              · refine .inr ⟨List.mem_cons_self,fun e=>n1.1 ?_⟩
                exact List.mem_map.2 ⟨_,List.mem_of_getElem? hi,e.symm⟩
              · rcases ih n1.2 hi hp with h | ⟨h1,h2⟩
                · exact .inl h
                · exact .inr ⟨List.mem_cons_of_mem _ h1,h2⟩
        rcases this with h | ⟨h1,h2⟩
        · exact .inl h
        · exact .inr ⟨by simp [h1],h2⟩
      · refine .inr ⟨by simp [hp],fun e=>?_⟩
        have:p.1∈H.flatten.map Prod.fst:=List.mem_map.2 ⟨p,hp,rfl⟩
        exact n3 _ hb _ this e.symm
    | succ j =>
      simp only [List.getElem?_cons_succ] at hj
      simp only [List.set_cons_succ,List.flatten_cons,List.mem_append] at hp
      have hbH:b∈H.flatten.map Prod.fst:=List.mem_map.2 ⟨(b,o),List.mem_flatten.2 ⟨g,List.mem_of_getElem? hj,List.mem_of_getElem? hi⟩,rfl⟩
      rcases hp with hp | hp
      · refine .inr ⟨by simp [hp],fun e=>?_⟩
        have:p.1∈x.map Prod.fst:=List.mem_map.2 ⟨p,hp,rfl⟩
        exact n3 _ this _ hbH e
      · rcases ih hj n2 hp with h | ⟨h1,h2⟩
        · exact .inl h
        · exact .inr ⟨by simp [h1],h2⟩
theorem Sat.wr {W0:World} {H:List Grp} {w w':World} (h:Sat W0 H w) {g:Grp} {b:Nat} {o o':Obj} {j i:Nat} (hj:H[j]? = some g) (hi:g[i]? = some (b,o))
    (hw:Wr b o' w w'):Sat W0 (H.set j (g.set i (b,o'))) w':=by
  have hm:(b,o)∈H.flatten:=List.mem_flatten.2 ⟨g,List.mem_of_getElem? hj,List.mem_of_getElem? hi⟩
  have hhigh:W0.heap.size≤b:=h.high (b,o) hm
  refine ⟨⟨hw.os.trans h.below.os,hw.tape.trans h.below.tape,hw.output.trans h.below.output,by rw [hw.size]; exact h.below.size,fun k hk=>?_⟩,?_,?_,?_⟩
  · rw [hw.other k (by omega)]; exact h.below.block k hk
  · rw [nodup_swap hj hi]; exact h.nodup
  · intro p hp
    rcases mem_swap hj hi h.nodup hp with rfl | ⟨h1,h2⟩
    · exact hw.at_
    · rw [hw.other _ h2]; exact h.has p h1
  · intro p hp
    rcases mem_swap hj hi h.nodup hp with rfl | ⟨h1,h2⟩
    · exact hhigh
    · exact h.high p h1
theorem Sat.new {W0:World} {H:List Grp} {w w':World} (h:Sat W0 H w) {o:Obj} (hos:w'.os=w.os) (htape:w'.tape=w.tape) (hout:w'.output=w.output)
    (hheap:w'.heap=w.heap.push o):Sat W0 ([(w.heap.size,o)]::H) w':=by
  have hlt:∀ p,p∈H.flatten→p.1<w.heap.size:=fun p hp=>by
    have:=h.has p hp
    rcases Nat.lt_or_ge p.1 w.heap.size with h' | h'
    · exact h'
    · simp [Array.getElem?_eq_none h'] at this
  have hold:∀ k,k<w.heap.size→w'.heap[k]? = w.heap[k]? := fun k hk=>by
    rw [hheap,Array.getElem?_push,if_neg (by omega)]
  refine ⟨⟨hos.trans h.below.os,htape.trans h.below.tape,hout.trans h.below.output,by rw [hheap]; simp; have:=h.below.size; omega,fun k hk=>?_⟩,?_,?_,?_⟩
  · have:=h.below.size
    rw [hold k (by omega)]; exact h.below.block k hk
  · simp only [List.flatten_cons,List.cons_append,List.nil_append,List.map_cons,List.nodup_cons]
    refine ⟨fun hm=>?_,h.nodup⟩
    obtain ⟨p,hp,he⟩:=List.mem_map.1 hm
    have:=hlt p hp
    omega
  · intro p hp
    simp only [List.flatten_cons,List.cons_append,List.nil_append,List.mem_cons] at hp
    rcases hp with rfl | hp
    · simp [hheap]
    · rw [hold _ (hlt p hp)]; exact h.has p hp
  · intro p hp
    simp only [List.flatten_cons,List.cons_append,List.nil_append,List.mem_cons] at hp
    rcases hp with rfl | hp
    · exact h.below.size
    · exact h.high p hp
theorem Sat.perm {W0:World} {H H':List Grp} {w:World} (h:Sat W0 H w) (hp:H.Perm H'):Sat W0 H' w:=by
  have hf:H.flatten.Perm H'.flatten:=hp.flatten
  exact ⟨h.below,(hf.map _).nodup_iff.1 h.nodup,fun p hm=>h.has p (hf.mem_iff.2 hm),fun p hm=>h.high p (hf.mem_iff.2 hm)⟩
theorem Sat.flat {W0:World} {H H':List Grp} {w:World} (h:Sat W0 H w) (hf:H.flatten.Perm H'.flatten):Sat W0 H' w :=
  ⟨h.below,(hf.map _).nodup_iff.1 h.nodup,fun p hm=>h.has p (hf.mem_iff.2 hm),fun p hm=>h.high p (hf.mem_iff.2 hm)⟩
theorem Sat.subl {W0:World} {H H':List Grp} {w:World} (h:Sat W0 H w) (hf:H'.flatten.Sublist H.flatten):Sat W0 H' w :=
  ⟨h.below,h.nodup.sublist (hf.map _),fun p hm=>h.has p (hf.subset hm),fun p hm=>h.high p (hf.subset hm)⟩
theorem GL_heap {d:Bool} {P:Program} {ops:Array Oper} {i:Nat} {Q:D9} {n:Fr} {E:Env} {W0:World} {H H':List Grp} (hd:d=false:=by exact rfl)
    (hs:∀ w,Sat W0 H w→Sat W0 H' w) (k:GL d P ops i Q n E W0 H'):GL d P ops i Q n E W0 H:=by
  subst hd; exact fun a w ha h=>k a w ha (hs w h)
theorem G_heap {P:Program} {c:Code} {Q:D9} {n:Fr} {E:Env} {W0:World} {H H':List Grp}
    (hs:∀ w,Sat W0 H w→Sat W0 H' w) (k:G P c Q n E W0 H'):G P c Q n E W0 H:=fun a w ha h=>k a w ha (hs w h)
theorem C9 {Q:D9} {x:Exit} {n:Fr} {E:Env} {W0:World} {H H':List Grp}
    (hs:∀ w,Sat W0 H w→Sat W0 H' w) (k:N Q x n E W0 H'):N Q x n E W0 H:=fun a w ha h=>k a w ha (hs w h)
theorem Tri.heap {P:Program} {f:FuncId} {args:Array Value} {W0:World} {H H':List Grp} {R:Value→List Grp→Prop}
    (hs:∀ w,Sat W0 H w→Sat W0 H' w) (h:Tri P f args W0 H' R):Tri P f args W0 H R:=fun w h0=>h w (hs w h0)
theorem Tri.post {P:Program} {f:FuncId} {args:Array Value} {W0:World} {H:List Grp} {R R':Value→List Grp→Prop}
    (h:Tri P f args W0 H R) (hr:∀ v H1,R v H1→∃ H2,R' v H2∧∀ w,Sat W0 H1 w→Sat W0 H2 w):Tri P f args W0 H R' :=
  fun w hs=>(h w hs).mono fun _ _ ⟨v,H1,he,hR,hs'⟩=>let ⟨H2,h2,h3⟩:=hr v H1 hR; ⟨v,H2,he,h2,h3 _ hs'⟩
theorem GL_eff {P:Program} {ops:Array Oper} {i:Nat} {Q:D9} {n:Fr} {E:Env} {W0:World} {H:List Grp} {o:Oper} {ch:List (Nat × Bool)} {R:Value→List Grp→Prop}
    (ho:ops[i]? = some o) (hch:E3 ops E o.guard=some ch) (hd:F9 n ch o.dst=true) (hsure:I5 E ch=true)
    (hrun:∀ (r:Operand→Value),(∀ x v,evO E ch x=some v→r x=v)→∀ w,Sat W0 H w→∃ v w' H',R v H'∧Sat W0 H' w' ∧
      ((execOp r o).run P w=.ok (.value v) w'∨((execOp r o).run P w=.ok .skip w'∧v=undef)))
    (k:∀ v H',R v H'→GL false P ops (i+1) Q n (Env.put E o.dst ch v) W0 H'):GL false P ops i Q n E W0 H:=by
  have hi:i<ops.toList.length:=by
    rcases Nat.lt_or_ge i ops.size with h | h
    · simpa using h
    · simp [Array.getElem?_eq_none h] at ho
  have hdrop:ops.toList.drop i=o::ops.toList.drop (i+1):=by
    rw [List.drop_eq_getElem_cons hi]
    congr 1
    have hi':i<ops.size:=by simpa using hi
    rw [Array.getElem?_eq_getElem hi'] at ho
    simpa using ho
  intro a w ha hs
  rw [hdrop]
  obtain ⟨β,hβ,hat⟩:=ha.at_
  have hcT:=chSure_of hsure β hβ
  have hw:=J4 hβ hat hch
  unfold wpList
  rw [hw,if_pos hcT]
  left
  obtain ⟨v,w',H',hR,hs',hr⟩:=hrun a.eval (fun x v=>G6 hat hcT) w hs
  have hput:=Ag.put ha hβ hat hd v
  rw [if_pos hcT] at hput
  unfold Oper.wp
  rcases hr with hr | ⟨hr,rfl⟩
  · rw [hr]; exact k v H' hR _ _ hput hs'
  · rw [hr]; exact k _ H' hR _ _ hput hs'
theorem L4 {w:World} {b off:Nat} {c:Array Value} {e:TypeId} {fz:Nat × Nat} {v:Value} (h:w.heap[b]? = some (.cells c e fz)) (hv:c[off]? = some v):w.cell? ⟨b,off,none⟩=some v:=by
  simp [World.cell?,h,hv]
theorem J1 (b off i:Nat):(Addr.add ⟨b,off,none⟩ i)=⟨b,off+i,none⟩:=by
  unfold Addr.add
  split
  · rename_i h; subst h; rfl
  · rfl
theorem run_loadCells {P:Program} {w:World} {b off:Nat} {c:Array Value} {e:TypeId} {fz:Nat × Nat} (h:w.heap[b]? = some (.cells c e fz)):∀ (l:List Value) (i:Nat) (acc:Array Value),
    (∀ k (hk:k<l.length),c[off+i+k]? = some l[k])→(loadCellsFrom ⟨b,off,none⟩ i l.length acc).run P w=.ok (acc++l.toArray) w
  | [],i,acc,_=>by simp [loadCellsFrom]
  | v::l,i,acc,hl=>by
    have h0:=hl 0 (by simp)
    simp only [List.getElem_cons_zero,Nat.add_zero] at h0
    have ih:=run_loadCells (P:=P) (off:=off) h l (i+1) (acc.push v) (fun k hk=>by
      have:=hl (k+1) (by simp; omega)
      simp only [List.getElem_cons_succ] at this
      rw [show off+(i+1)+k=off+i+(k+1) from by omega]
      exact this)
    simp only [List.length_cons,loadCellsFrom,Sem.run_bind,J1,run_load,L4 h h0,Result.andThen_ok,ih]
    simp
theorem E9 {d:Bool} {P:Program} {ops:Array Oper} {i:Nat} {Q:D9} {n:Fr} {E:Env} {W0:World} {H:List Grp} {o:Oper} {ch:List (Nat × Bool)} {t:TypeId} {x:Operand}
    {b off:Nat} {c:Array Value} {e:TypeId} {fz:Nat × Nat} {v:Value}
    (ho:ops[i]? = some o:=by exact rfl) (hop:o.op=.load t x:=by exact rfl) (hx:evO E ch x=some (.pointer (some ⟨b,off,none⟩)):=by kernel_rfl) (ht:aggB P t=some false:=by kernel_rfl)
    (hch:E3 ops E o.guard=some ch:=by kernel_rfl) (hd:F9 n ch o.dst=true:=by kernel_rfl) (hk:H7 E ch=true:=by kernel_rfl)
    (hA:At W0 H b (.cells c e fz)) (hv:c[off]? = some v:=by kernel_rfl)
    (k:GL d P ops (i+1) Q n (Env.put E o.dst ch v) W0 H):GL d P ops i Q n E W0 H:=by
  refine G3 ho hch hd hk (fun r hr _ w hs=>?_) k
  unfold execOp
  simp only [hop]
  rw [hr _ _ hx]
  simp only [Instr.loadAt,Instr.sureAddr,loadVar,Sem.run_bind,Sem.run_pure,Result.andThen_ok,M2 ht,Bool.false_eq_true,if_false,run_load,L4 (hs.at hA) hv]
  exact ⟨rfl,rfl⟩
def thawed (fz:Nat × Nat) (off:Nat):Bool:=!(decide (fz.1≤off)&&decide (off<fz.2))
theorem run_store1 {P:Program} {w:World} {b off:Nat} {c:Array Value} {e:TypeId} {fz:Nat × Nat} {v:Value} (h:w.heap[b]? = some (.cells c e fz)) (hoff:off<c.size)
    (hfz:thawed fz off=true) (hv:v.oneCell'=true):∃ w',(store ⟨b,off,none⟩ v).run P w=.ok () w'∧Wr b (.cells (c.setIfInBounds off v) e fz) w w':=by
  have hc:w.cell? ⟨b,off,none⟩=some c[off]:=L4 h (by simp [hoff])
  have hf:w.frozen? ⟨b,off,none⟩=false:=by
    simp only [World.frozen?,h]
    simp [thawed] at hfz
    simp
    omega
  refine ⟨w.setCell ⟨b,off,none⟩ v,?_,?_⟩
  · rw [run_store P w _ v _ hv,hc]
    simp [hf]
  · have hb:b<w.heap.size:=by
      rcases Nat.lt_or_ge b w.heap.size with h' | h'
      · exact h'
      · simp [Array.getElem?_eq_none h'] at h
    refine ⟨rfl,rfl,rfl,by simp,?_,fun k hk=>?_⟩
    · simp only [World.setCell,Array.getElem?_modify,↓reduceIte,h,Option.map_some]
      simp
    · simp only [World.setCell,Array.getElem?_modify]
      rw [if_neg (fun e=>hk e.symm)]
theorem Wr.trans {b:Nat} {o1 o2:Obj} {w w1 w2:World} (h1:Wr b o1 w w1) (h2:Wr b o2 w1 w2):Wr b o2 w w2 :=
  ⟨h2.os.trans h1.os,h2.tape.trans h1.tape,h2.output.trans h1.output,h2.size.trans h1.size,h2.at_,fun k hk=>(h2.other k hk).trans (h1.other k hk)⟩
def setRow (c:Array Value) (off:Nat):List Value→Array Value
  | []=>c
  | v::r=>setRow (c.setIfInBounds off v) (off+1) r
theorem N3 {P:Program} {b:Nat} {e:TypeId} {fz:Nat × Nat}:∀ (l:List Value) {w:World} {off i:Nat} {c:Array Value},w.heap[b]? = some (.cells c e fz)→off+i+l.length≤c.size →
    (∀ k,k<l.length→thawed fz (off+i+k)=true)→(l.all Value.oneCell')=true →
    ∃ w',(storeCells ⟨b,off,none⟩ l i).run P w=.ok () w'∧(l=[]→w'=w)∧Wr b (.cells (setRow c (off+i) l) e fz) w w'
  | [],w,off,i,c,h,_,_,_=>⟨w,rfl,fun _=>rfl,rfl,rfl,rfl,rfl,h,fun _ _=>rfl⟩
  | v::l,w,off,i,c,h,hlen,hfz,hv=>by
    simp only [List.all_cons,Bool.and_eq_true] at hv
    simp only [List.length_cons] at hlen
    obtain ⟨w1,hr1,hw1⟩:=run_store1 (P:=P) h (off:=off+i) (by omega) (by simpa using hfz 0 (by simp)) hv.1
    obtain ⟨w2,hr2,_,hw2⟩:=N3 (P:=P) l (w:=w1) (off:=off) (i:=i+1) hw1.at_ (by simp; omega)
      (fun k hk=>by have:=hfz (k+1) (by simp; omega); rw [show off+(i+1)+k=off+i+(k+1) from by omega]; exact this) hv.2
    refine ⟨w2,?_,fun h=>by simp at h,?_⟩
    · simp only [storeCells,Sem.run_bind,J1,hr1,Result.andThen_ok,hr2]
    · have:=hw1.trans hw2
      simpa [setRow,Nat.add_assoc] using this
theorem M0 {P:Program} {ops:Array Oper} {i:Nat} {Q:D9} {n:Fr} {E:Env} {W0:World} {H H':List Grp} {o:Oper} {ch:List (Nat × Bool)} {t:TypeId} {x y:Operand}
    {b off:Nat} {c c':Array Value} {e:TypeId} {fz:Nat × Nat} {v:Value} {g:Grp} {j m:Nat}
    (ho:ops[i]? = some o:=by exact rfl) (hop:o.op=.store t x y:=by exact rfl) (hx:evO E ch x=some (.pointer (some ⟨b,off,none⟩)):=by kernel_rfl) (hy:evO E ch y=some v:=by kernel_rfl)
    (hsz:sizeV P t=some v.cells.size:=by kernel_rfl) (h1:(v.cells.toList.all Value.oneCell')=true:=by kernel_rfl)
    (hch:E3 ops E o.guard=some ch:=by kernel_rfl) (hd:F9 n ch o.dst=true:=by kernel_rfl) (hsure:I5 E ch=true:=by kernel_rfl)
    (hj:H[j]? = some g:=by exact rfl) (hi:g[m]? = some (b,.cells c e fz):=by exact rfl) (hoff:off+v.cells.size≤c.size) (hfz:∀ k,k<v.cells.size→thawed fz (off+k)=true)
    (hc':setRow c off v.cells.toList=c') (hH':H.set j (g.set m (b,.cells c' e fz))=H':=by kernel_rfl)
    (k:GL false P ops (i+1) Q n (Env.put E o.dst ch undef) W0 H'):GL false P ops i Q n E W0 H:=by
  refine GL_eff (R:=fun v H1=>v=undef∧H1=H') ho hch hd hsure (fun r hr w hs=>?_) (by rintro v H1 ⟨rfl,rfl⟩; exact k)
  have hblk:=hs.has _ (List.mem_flatten.2 ⟨g,List.mem_of_getElem? hj,List.mem_of_getElem? hi⟩)
  obtain ⟨w',hr',_,hw'⟩:=N3 (P:=P) v.cells.toList (w:=w) (off:=off) (i:=0) hblk (by simpa using hoff) (by simpa using hfz) h1
  refine ⟨undef,w',H',⟨rfl,rfl⟩,?_,.inr ⟨?_,rfl⟩⟩
  · have:=hs.wr hj hi (o':=.cells c' e fz) (by rw [← hc']; simpa using hw')
    rw [hH'] at this; exact this
  · unfold execOp
    simp only [hop]
    rw [hr _ _ hx,hr _ _ hy]
    simp only [Instr.storeAt,Instr.sureAddr,storeVar,Sem.run_bind,Sem.run_pure,Result.andThen_ok,H0 hsz,ne_eq,not_true_eq_false,if_false,hr']
theorem L3 {x:Nat}:thawed (0,0) x=true:=by simp [thawed]
theorem GL_new {P:Program} {ops:Array Oper} {i:Nat} {Q:D9} {n:Fr} {E:Env} {W0:World} {H:List Grp} {o:Oper} {ch:List (Nat × Bool)} {ob:Obj} {f:Nat→Value}
    (ho:ops[i]? = some o) (hch:E3 ops E o.guard=some ch) (hd:F9 n ch o.dst=true) (hsure:I5 E ch=true)
    (hrun:∀ (r:Operand→Value),(∀ x v,evO E ch x=some v→r x=v)→∀ w,(execOp r o).run P w=.ok (.value (f w.heap.size)) (w.alloc ob))
    (k:∀ b,GL false P ops (i+1) Q n (Env.put E o.dst ch (f b)) W0 ([(b,ob)]::H)):GL false P ops i Q n E W0 H:=by
  refine GL_eff (R:=fun v H1=>∃ b,v=f b∧H1=[(b,ob)]::H) ho hch hd hsure (fun r hr w hs=>?_) (by rintro v H1 ⟨b,rfl,rfl⟩; exact k b)
  exact ⟨f w.heap.size,w.alloc ob,_,⟨_,rfl,rfl⟩,hs.new rfl rfl rfl rfl,.inl (hrun r hr w)⟩
theorem O7 {P:Program} {ops:Array Oper} {i:Nat} {Q:D9} {n:Fr} {E:Env} {W0:World} {H:List Grp} {o:Oper} {ch:List (Nat × Bool)} {t:TypeId} {z:Value}
    (ho:ops[i]? = some o:=by exact rfl) (hop:o.op=.alloc t:=by exact rfl) (hz:zeroV P t=some z:=by kernel_rfl) (hch:E3 ops E o.guard=some ch:=by kernel_rfl) (hd:F9 n ch o.dst=true:=by kernel_rfl) (hsure:I5 E ch=true:=by kernel_rfl)
    (k:∀ b,GL false P ops (i+1) Q n (Env.put E o.dst ch (.pointer (some ⟨b,0,none⟩))) W0 ([(b,.cells z.cells t)]::H)):GL false P ops i Q n E W0 H :=
  GL_new (f:=fun b=>.pointer (some ⟨b,0,none⟩)) ho hch hd hsure (fun r hr w=>by
    unfold execOp; simp only [hop,Instr.alloc,Sem.run_bind,N8 hz,Result.andThen_ok]; rfl) k
theorem GL_box {P:Program} {ops:Array Oper} {i:Nat} {Q:D9} {n:Fr} {E:Env} {W0:World} {H:List Grp} {o:Oper} {ch:List (Nat × Bool)} {t:TypeId} {x:Operand} {v:Value}
    (ho:ops[i]? = some o) (hop:o.op=.box t x) (hx:evO E ch x=some v) (hch:E3 ops E o.guard=some ch) (hd:F9 n ch o.dst=true) (hsure:I5 E ch=true)
    (k:∀ b,GL false P ops (i+1) Q n (Env.put E o.dst ch (.pointer (some ⟨b,0,none⟩))) W0 ([(b,.cells v.cells t)]::H)):GL false P ops i Q n E W0 H :=
  GL_new (f:=fun b=>.pointer (some ⟨b,0,none⟩)) ho hch hd hsure (fun r hr w=>by
    unfold execOp; simp only [hop]; rw [hr _ _ hx]; rfl) k
def buildSliceV (P:Program) (t:TypeId) (len:Nat) (parts:List (Nat × Value)):Option (Array Value × TypeId) :=
  match P.underlying t with
  | some (.slice e) =>
    (match sizeV P e,zeroV P e with
     | some n,some z=>if len * n > 2 ^ 24 then none else
        (match Instr.fill (fun i=>some (i * n,n)) ((Array.range (len * n)).map (z.cells[· % z.cells.size]!)) parts with | some c=>some (c,e) | none=>none)
     | _,_=>none)
  | _=>none
theorem D0 {P:Program} {ops:Array Oper} {i:Nat} {Q:D9} {n:Fr} {E:Env} {W0:World} {H:List Grp} {o:Oper} {ch:List (Nat × Bool)} {t e:TypeId} {len:Nat} {parts:Array (Nat × Operand)} {l:List (Nat × Value)} {c:List Value}
    (ho:ops[i]? = some o:=by exact rfl) (hop:o.op=.buildSlice t len parts:=by exact rfl) (hx:evP (evO E ch) parts.toList=some l:=by kernel_rfl) (hc:buildSliceV P t len l=some (c.toArray,e):=by kernel_rfl)
    (hch:E3 ops E o.guard=some ch:=by kernel_rfl) (hd:F9 n ch o.dst=true:=by kernel_rfl) (hsure:I5 E ch=true:=by kernel_rfl)
    (k:∀ b,GL false P ops (i+1) Q n (Env.put E o.dst ch (.slice (some ⟨b,0,none⟩) len len)) W0 ([(b,.cells c.toArray e)]::H)):GL false P ops i Q n E W0 H :=
  GL_new (f:=fun b=>.slice (some ⟨b,0,none⟩) len len) ho hch hd hsure (fun r hr w=>by
    unfold execOp; simp only [hop]
    have e1:(Array.map (fun x=>(x.fst,r x.snd)) parts)=l.toArray:=by
      rw [← evP_map hr _ hx]; apply Array.ext'; rw [Array.toList_map]
    rw [e1]
    unfold buildSliceV at hc
    split at hc
    · rename_i el hu
      split at hc
      · rename_i sz z hsz hz
        split at hc
        · simp at hc
        · rename_i hbig
          split at hc
          · rename_i cc hf
            simp only [Option.some.injEq,Prod.mk.injEq] at hc
            obtain ⟨h1,rfl⟩:=hc
            have hm:len * sz=0→(Array.range (len * sz)).map (fun q=>(#[]:Array Value)[q % (#[]:Array Value).size]!)=(Array.range (len * sz)).map (z.cells[· % z.cells.size]!):=by
              intro h0
              rw [h0,show Array.range 0=#[] from rfl]
              simp
            simp only [Instr.buildSlice,Sem.run_bind,run_underlying hu,Result.andThen_ok,H0 hsz,if_neg hbig]
            by_cases h0:len * sz=0
            · rw [if_pos h0]
              simp only [Sem.run_bind,Sem.run_pure,Result.andThen_ok,hm h0,hf,newRow,run_newObj,h1]
              rfl
            · rw [if_neg h0]
              simp only [Sem.run_bind,Sem.run_pure,N8 hz,Result.andThen_ok,hf,newRow,run_newObj,h1]
              rfl
          · simp at hc
      · simp at hc
    · simp at hc) k
def psv (P:Program) (ops:Array Oper) (n:Fr) (ms:List Nat) (i:Nat) (E:List Sl):List Sl:=(J7 P ops n ms i E).getD []
theorem psv_some {P:Program} {ops:Array Oper} {n:Fr} {ms:List Nat} {i:Nat} {E:List Sl} (h:(J7 P ops n ms i E).isSome=true):J7 P ops n ms i E=some (psv P ops n ms i E):=by
  unfold psv
  cases hp:J7 P ops n ms i E with
  | none=>rw [hp] at h; cases h
  | some E1=>rfl
theorem A6 {d:Bool} {P:Program} {ops:Array Oper} {i j:Nat} {Q:D9} {n:Fr} {E:Env} {W0:World} {H:List Grp} (ms:List Nat)
    (h:(J7 P ops n ms i E).isSome=true:=by kernel_rfl) (hj:i+ms.length=j:=by exact rfl) (k:GL d P ops j Q n (psv P ops n ms i E) W0 H):GL d P ops i Q n E W0 H :=
  GL_psteps ms (psv_some h) (by rw [hj]; exact k)
def setI (E:List Sl) (t:Nat) (y:Int):List Sl:=⟨t,[],.int .i64 y⟩::E.filter fun s=>!(s.t==t)
theorem setI_sub {E:Env} {t:Nat} {x y:Int} (hw:x=y) (h:Env.find E t=some ⟨t,[],.int .i64 x⟩):∀ s,s∈setI E t y→s∈E:=by
  subst hw
  intro s hs
  rcases List.mem_cons.1 hs with rfl | hs
  · exact (Env.find_mem h).1
  · exact (List.mem_filter.1 hs).1
theorem GL_w {d:Bool} {P:Program} {ops:Array Oper} {i:Nat} {Q:D9} {n:Fr} {E:Env} {W0:World} {H:List Grp} (t:Nat) {x y:Int} (hw:x=y)
    (h:Env.find E t=some ⟨t,[],.int .i64 x⟩:=by kernel_rfl) (k:GL d P ops i Q n (setI E t y) W0 H):GL d P ops i Q n E W0 H:=GL_sub (setI_sub hw h) k
theorem C3 {d:Bool} {P:Program} {ops:Array Oper} {i:Nat} {Q:D9} {n:Fr} {E:Env} {W0:World} {H:List Grp} (t:Nat) (x:Int) (h1:-9223372036854775808≤x) (h2:x≤9223372036854775807)
    (h:Env.find E t=some ⟨t,[],.int .i64 (IntKind.wrap .i64 x)⟩:=by kernel_rfl) (k:GL d P ops i Q n (setI E t x) W0 H):GL d P ops i Q n E W0 H:=GL_sub (setI_sub (w64 h1 h2) h) k
theorem GL_st {P:Program} {ops:Array Oper} {i:Nat} {Q:D9} {n:Fr} {E:Env} {W0:World} {H:List Grp} {o:Oper} {ch:List (Nat × Bool)} {t:TypeId} {x y:Operand}
    {b off:Nat} {c:Array Value} {e:TypeId} {fz:Nat × Nat} {v:Value} {g:Grp} {j:Nat} (H':List Grp)
    (ho:ops[i]? = some o:=by exact rfl) (hop:o.op=.store t x y:=by exact rfl) (hx:evO E ch x=some (.pointer (some ⟨b,off,none⟩)):=by kernel_rfl) (hy:evO E ch y=some v:=by kernel_rfl)
    (hsz:sizeV P t=some v.cells.size:=by kernel_rfl) (h1:(v.cells.toList.all Value.oneCell')=true:=by kernel_rfl)
    (hch:E3 ops E o.guard=some ch:=by kernel_rfl) (hd:F9 n ch o.dst=true:=by kernel_rfl) (hsure:I5 E ch=true:=by kernel_rfl)
    (hj:H[j]? = some g:=by exact rfl) (hi:g[0]? = some (b,.cells c e fz):=by exact rfl) (hoff:off+v.cells.size≤c.size) (hfz:∀ k,k<v.cells.size→thawed fz (off+k)=true)
    (hH':H.set j (g.set 0 (b,.cells (setRow c off v.cells.toList) e fz))=H':=by kernel_rfl)
    (k:GL false P ops (i+1) Q n (Env.put E o.dst ch undef) W0 H'):GL false P ops i Q n E W0 H :=
  M0 (c':=setRow c off v.cells.toList) ho hop hx hy hsz h1 hch hd hsure hj hi hoff hfz rfl hH' k
theorem B0 {d:Bool} {P:Program} {ops:Array Oper} {i:Nat} {Q:D9} {n:Fr} {E:Env} {W0:World} {H:List Grp} (ms ts:List Nat)
    (hl:ops.size=i+ms.length:=by exact rfl) (h:(J7 P ops n ms i E).isSome=true:=by kernel_rfl) (k:N Q .normal n (Env.keep ts (psv P ops n ms i E)) W0 H):GL d P ops i Q n E W0 H :=
  B8 ms ts hl (by rw [psv_some h]; rfl) k
theorem G_p {P:Program} {id:Nat} {ops:Array Oper} {Q:D9} {n:Fr} {E:Env} {W0:World} {H:List Grp} (ms ts:List Nat)
    (hl:ops.size=ms.length:=by exact rfl) (h:(J7 P ops n ms 0 E).isSome=true:=by kernel_rfl) (k:N Q .normal n (Env.keep ts (psv P ops n ms 0 E)) W0 H):G P (.region id ops false) Q n E W0 H :=
  B3 ms ts hl (by rw [psv_some h]; rfl) k
theorem F2 {P:Program} {ops:Array Oper} {i:Nat} {Q:D9} {n:Fr} {E:Env} {W0:World} {H:List Grp} {o:Oper} {c:Call} {fo:Operand} {f:FuncId} {vs:List Value} {fn:Func} {R:Value→List Grp→Prop}
    (hf:P.funcs[f]? = some fn) (hc:Tri P f vs.toArray W0 H R)
    (k:∀ v H',R v H'→GL false P ops (i+1) Q n (Env.put E o.dst [] v) W0 H')
    (ho:ops[i]? = some o:=by exact rfl) (hop:o.op=.call c:=by exact rfl) (hce:c.callee=.value fo:=by exact rfl) (hfo:evO E [] fo=some (.func (.func f) #[] #[]):=by kernel_rfl) (hargs:evL (evO E []) c.args.toList=some vs:=by kernel_rfl)
    (hrt : (fn.name == "runtime.NumGoroutine") = false := by exact rfl) (hbody : fn.body.isNone = false := by exact rfl)
    (hch:E3 ops E o.guard=some []:=by kernel_rfl) (hd:F9 n [] o.dst=true:=by kernel_rfl):GL false P ops i Q n E W0 H :=
  GL_call (fst:=#[]) (caps:=#[]) ho hop hce hfo hargs hf hrt hbody hch hd (fun _ _=>rfl) (by rw [show (#[]++vs.toArray++#[]:Array Value)=vs.toArray by simp]; exact hc) k
theorem G4 {d:Bool} {P:Program} {ops:Array Oper} {i:Nat} {Q:D9} {n:Fr} {E:Env} {W0:World} {H:List Grp} {o:Oper} {c:Call} {fo:Operand} {f:FuncId} {vs:List Value} {fn:Func} {v:Value}
    (hf:P.funcs[f]? = some fn) (hc:Tri P f vs.toArray W0 H (fun u H'=>u=v∧H'=H))
    (k:GL d P ops (i+1) Q n (Env.put E o.dst [] v) W0 H)
    (ho:ops[i]? = some o:=by exact rfl) (hop:o.op=.call c:=by exact rfl) (hce:c.callee=.value fo:=by exact rfl) (hfo:evO E [] fo=some (.func (.func f) #[] #[]):=by kernel_rfl) (hargs:evL (evO E []) c.args.toList=some vs:=by kernel_rfl)
    (hrt : (fn.name == "runtime.NumGoroutine") = false := by exact rfl) (hbody : fn.body.isNone = false := by exact rfl)
    (hch:E3 ops E o.guard=some []:=by kernel_rfl) (hd:F9 n [] o.dst=true:=by kernel_rfl):GL d P ops i Q n E W0 H :=
  F6 (fst:=#[]) (caps:=#[]) ho hop hce hfo hargs hf hrt hbody hch hd rfl (fun _=>by rw [show (#[]++vs.toArray++#[]:Array Value)=vs.toArray by simp]; exact hc) k
end Go.Sw
namespace Go.Sw
open Go.RowKit
def Rd (S:Nat→Obj→Prop) (a:Option Addr) (cs:List Value):Prop :=
  cs=[]∨∃ b off c e fz,a=some ⟨b,off,none⟩∧S b (.cells c e fz)∧∀ (j:Nat) (u:Value),cs[j]? = some u→c[off+j]? = some u
def inG (g:Grp):Nat→Obj→Prop:=fun b o=>(b,o)∈g
def inB (W0:World):Nat→Obj→Prop:=fun b o=>b<W0.heap.size∧W0.heap[b]? = some o
theorem D2 {W0:World} {H:List Grp} {g:Grp} (j:Nat) (hj:H[j]? = some g):∀ b o,inG g b o→At W0 H b o:=fun _ _ h=>At.mem (List.mem_of_getElem? hj) h
theorem at_inB {W0:World} {H:List Grp}:∀ b o,inB W0 b o→At W0 H b o:=fun _ _ h=>.inl h
theorem Rd.mono {S S':Nat→Obj→Prop} {a:Option Addr} {cs:List Value} (h:Rd S a cs) (hs:∀ b o,S b o→S' b o):Rd S' a cs:=by
  rcases h with h | ⟨b,off,c,e,fz,h1,h2,h3⟩
  · exact .inl h
  · exact .inr ⟨b,off,c,e,fz,h1,hs _ _ h2,h3⟩
theorem Rd.lit {b:Nat} {c:List Value} {e:TypeId} {fz:Nat × Nat}:Rd (inG [(b,.cells c.toArray e fz)]) (some ⟨b,0,none⟩) c :=
  .inr ⟨b,0,_,_,_,rfl,List.mem_singleton.2 rfl,fun j u h=>by rw [Nat.zero_add]; simpa using h⟩
def strs (ws:List ByteArray):List Value:=ws.map Value.string
def eltA (a:Option Addr) (k:Nat):Addr:=(a.getD default).add k
theorem Rd.elt {S:Nat→Obj→Prop} {a:Option Addr} {cs:List Value} (h:Rd S a cs) {k:Nat} {v:Value} (hv:cs[k]? = some v) :
    ∃ b off c e fz,a=some ⟨b,off,none⟩∧S b (.cells c e fz)∧eltA a k=⟨b,off+k,none⟩∧c[off+k]? = some v:=by
  rcases h with h | ⟨b,off,c,e,fz,h1,h2,h3⟩
  · subst h; simp at hv
  · exact ⟨b,off,c,e,fz,h1,h2,by rw [h1]; exact J1 b off k,h3 k v hv⟩
theorem C4 {d:Bool} {P:Program} {ops:Array Oper} {i:Nat} {Q:D9} {n:Fr} {E:Env} {W0:World} {H:List Grp} {o:Oper} {ch:List (Nat × Bool)} {t e:TypeId} {x ix:Operand} {a:Option Addr} {len cap sz:Nat} {kd:IntKind} {j:Int} {S:Nat→Obj→Prop} {cs:List Value}
    (ho:ops[i]? = some o:=by exact rfl) (hop:o.op=.indexAddr t x ix:=by exact rfl) (hx:evO E ch x=some (.slice a len cap):=by kernel_rfl) (hix:evO E ch ix=some (.int kd j):=by kernel_rfl) (hu:P.underlying t=some (.slice e):=by kernel_rfl) (hsz:sizeV P e=some sz:=by kernel_rfl)
    (hch:E3 ops E o.guard=some ch:=by kernel_rfl) (hd:F9 n ch o.dst=true:=by kernel_rfl) (hk:H7 E ch=true:=by kernel_rfl)
    (hrd:Rd S a cs) (hb:chB E ch→0≤j∧j<len∧cs≠[])
    (k:GL d P ops (i+1) Q n (Env.put E o.dst ch (.pointer (some (eltA a (j.toNat * sz))))) W0 H):GL d P ops i Q n E W0 H:=by
  refine G3 ho hch hd hk (fun r hr hcb w _=>?_) k
  obtain ⟨h0,h1,h2⟩:=hb hcb
  have ha:∃ b,a=some b:=by
    rcases hrd with h | ⟨b,off,_,_,_,h,_⟩
    · exact absurd h h2
    · exact ⟨_,h⟩
  obtain ⟨b,rfl⟩:=ha
  unfold execOp
  simp only [hop]
  rw [hr _ _ hx,hr _ _ hix]
  simp only [Instr.indexAt,asIntOf,Sem.run_bind,Sem.run_pure,Result.andThen_ok,run_underlying hu,Bool.and_false,if_pos (⟨h0,h1⟩:0≤j∧j<(len:Int)),H0 hsz]
  exact ⟨rfl,rfl⟩
theorem E6 {d:Bool} {P:Program} {ops:Array Oper} {i:Nat} {Q:D9} {n:Fr} {E:Env} {W0:World} {H:List Grp} {o:Oper} {ch:List (Nat × Bool)} {t:TypeId} {x:Operand} {a:Option Addr} {q:Nat} {S:Nat→Obj→Prop} {cs:List Value} {v:Value}
    (ho:ops[i]? = some o:=by exact rfl) (hop:o.op=.load t x:=by exact rfl) (hx:evO E ch x=some (.pointer (some (eltA a q))):=by kernel_rfl) (ht:aggB P t=some false:=by kernel_rfl)
    (hch:E3 ops E o.guard=some ch:=by kernel_rfl) (hd:F9 n ch o.dst=true:=by kernel_rfl) (hk:H7 E ch=true:=by kernel_rfl)
    (hrd:Rd S a cs) (hS:∀ b o,S b o→At W0 H b o) (hv:chB E ch→cs[q]? = some v)
    (k:GL d P ops (i+1) Q n (Env.put E o.dst ch v) W0 H):GL d P ops i Q n E W0 H:=by
  refine G3 ho hch hd hk (fun r hr hcb w hs=>?_) k
  obtain ⟨b,off,c,e,fz,h1,h2,h3,h4⟩:=hrd.elt (hv hcb)
  unfold execOp
  simp only [hop]
  rw [hr _ _ hx,h3]
  simp only [Instr.loadAt,Instr.sureAddr,loadVar,Sem.run_bind,Sem.run_pure,Result.andThen_ok,M2 ht,Bool.false_eq_true,if_false,run_load,L4 (hs.at (hS _ _ h2)) h4]
  exact ⟨rfl,rfl⟩
def cutA (a:Option Addr) (cap l sz:Nat):Option Addr:=if cap=l then a else a.map (·.add (l * sz))
theorem Rd.cut {S:Nat→Obj→Prop} {a:Option Addr} {cs:List Value} (h:Rd S a cs) {cap l sz m:Nat} (hl:cap=l→m=0):Rd S (cutA a cap l sz) ((cs.drop (l * sz)).take m):=by
  rcases h with h | ⟨b,off,c,e,fz,h1,h2,h3⟩
  · exact .inl (by simp [h])
  · by_cases hc:cap=l
    · exact .inl (by rw [hl hc]; simp)
    · refine .inr ⟨b,off+l * sz,c,e,fz,?_,h2,?_⟩
      · rw [cutA,if_neg hc,h1]; simp [J1]
      · intro j u hj
        rw [List.getElem?_take] at hj
        split at hj
        · rw [List.getElem?_drop] at hj
          rw [Nat.add_assoc]; exact h3 _ _ hj
        · simp at hj
theorem GL_sliceL {d:Bool} {P:Program} {ops:Array Oper} {i:Nat} {Q:D9} {n:Fr} {E:Env} {W0:World} {H:List Grp} {o:Oper} {ch:List (Nat × Bool)} {t e:TypeId} {x:Operand} {lo hi:Option Operand} {a:Option Addr} {len cap sz:Nat} {vl vh:Option Value} {l h:Int}
    (ho:ops[i]? = some o) (hop:o.op=.slice t x lo hi none) (hx:evO E ch x=some (.slice a len cap)) (hvl:evOO (evO E ch) lo=some vl) (hvh:evOO (evO E ch) hi=some vh) (hu:P.underlying t=some (.slice e)) (hsz:sizeV P e=some sz)
    (hl:loV vl=some l) (hh:hiV len vh=some h)
    (hch:E3 ops E o.guard=some ch) (hd:F9 n ch o.dst=true) (hk:H7 E ch=true)
    (hb:chB E ch→0≤l∧l≤h∧h≤cap)
    (k:GL d P ops (i+1) Q n (Env.put E o.dst ch (.slice (cutA a cap l.toNat sz) (h.toNat - l.toNat) (cap - l.toNat))) W0 H):GL d P ops i Q n E W0 H:=by
  refine G3 ho hch hd hk (fun r hr hcb w _=>?_) k
  obtain ⟨h0,h1,h2⟩:=hb hcb
  have hm:∀ {y:Option Operand} {v:Option Value},evOO (evO E ch) y=some v→y.map r=v:=by
    intro y v hv
    cases y with
    | none=>simp only [evOO,Option.some.injEq] at hv; subst hv; rfl
    | some y =>
      simp only [evOO] at hv
      split at hv
      · rename_i u hu; injection hv with hv; subst hv; simp [hr _ _ hu]
      · simp at hv
  unfold execOp
  simp only [hop]
  rw [hr _ _ hx,hm hvl,hm hvh]
  simp only [Instr.sliceAt,Instr.slice,Sem.run_bind,run_underlying hu,Result.andThen_ok,Option.map_none,
    M5 (P:=P) (isSlice:=true) hl hh h0 h1 h2,H0 hsz,Sem.run_pure]
  exact ⟨rfl,rfl⟩
def Own (et:TypeId) (sz:Nat) (v:Value) (g:Grp) (n:Nat) (cs:List Value):Prop :=
  cs.length=n * sz∧((v=.slice none 0 0∧g=[]∧n=0)∨∃ b cap junk,v=.slice (some ⟨b,0,none⟩) n cap∧g=[(b,.cells (cs++junk).toArray et (0,0))]∧n≤cap∧(cs++junk).length=cap * sz)
theorem Own.nil {et:TypeId} {sz:Nat}:Own et sz (.slice none 0 0) [] 0 []:=⟨by simp,.inl ⟨rfl,rfl,rfl⟩⟩
theorem Own.lit {et:TypeId} {sz b n:Nat} {cs:List Value} (h:cs.length=n * sz):Own et sz (.slice (some ⟨b,0,none⟩) n n) [(b,.cells cs.toArray et (0,0))] n cs :=
  ⟨h,.inr ⟨b,n,[],rfl,by simp,Nat.le_refl _,by simpa using h⟩⟩
theorem Own.shape {et:TypeId} {sz:Nat} {v:Value} {g:Grp} {n:Nat} {cs:List Value} (h:Own et sz v g n cs):∃ a cap,v=.slice a n cap∧n≤cap∧Rd (inG g) a cs:=by
  obtain ⟨hl,⟨rfl,rfl,rfl⟩ | ⟨b,cap,junk,rfl,rfl,hc,hj⟩⟩:=h
  · exact ⟨none,0,rfl,Nat.le_refl _,.inl (by cases cs with | nil=>rfl | cons _ _=>simp at hl)⟩
  · refine ⟨_,_,rfl,hc,.inr ⟨b,0,_,_,_,rfl,List.mem_singleton.2 rfl,fun j u hu=>?_⟩⟩
    have:j<cs.length:=by
      rcases Nat.lt_or_ge j cs.length with h | h
      · exact h
      · rw [List.getElem?_eq_none h] at hu; simp at hu
    rw [List.getElem?_toArray,Nat.zero_add,List.getElem?_append_left this]
    exact hu
inductive SrcOf (S:Nat→Obj→Prop):Value→Nat→List Value→Prop
  | slice (a:Option Addr) (m cap:Nat) (cs:List Value) (h:Rd S a cs) (h0:a=none→m=0):SrcOf S (.slice a m cap) m cs
  | str (s:ByteArray):SrcOf S (.string s) s.size (byteCells s)
theorem setRow_mid:∀ (l:List Value) (pre post:List Value) (old:List Value),old.length=l.length→setRow (pre++old++post).toArray pre.length l=(pre++l++post).toArray
  | [],pre,post,old,h=>by
    have:old=[]:=by cases old with | nil=>rfl | cons _ _=>simp at h
    subst this; simp [setRow]
  | v::l,pre,post,old,h=>by
    cases old with
    | nil=>simp at h
    | cons x old =>
      simp only [setRow]
      have e1:((pre++x::old++post).toArray.setIfInBounds pre.length v)=((pre++[v])++old++post).toArray:=by
        simp
      rw [e1]
      have:=setRow_mid l (pre++[v]) post old (by simpa using h)
      simp only [List.length_append,List.length_cons,List.length_nil,Nat.zero_add] at this
      rw [this]
      simp
theorem srcOf_run {P:Program} {S:Nat→Obj→Prop} {x:Value} {m sz:Nat} {cs:List Value} {tx:TypeId} (h:SrcOf S x m cs) (hk:(∃ e',P.underlying tx=some (.slice e'))∨(P.underlying tx=some .string∧sz=1))
    (hks:(∃ s,x=.string s)→sz=1∧P.underlying tx=some .string) (hkl:(∃ a n c,x=.slice a n c)→∃ e',P.underlying tx=some (.slice e')) (hl:cs.length=m * sz) (h1:∀ u∈cs,u.oneCell'=true) {w:World} (hS:∀ b o,S b o→w.heap[b]? = some o):Src P sz tx x m cs w:=by
  cases h with
  | slice a m cap cs hrd h0 =>
    obtain ⟨e',he⟩:=hkl ⟨_,_,_,rfl⟩
    rcases hrd with hn | ⟨b,off,c,e,fz,h2,h3,h4⟩
    · subst hn
      cases a with
      | none =>
        have:=h0 rfl; subst this
        exact Src.ofNil w he cap
      | some a=>exact Src.ofSlice w he a m cap [] hl (fun j u hu=>by simp at hu) (fun u hu=>by simp at hu)
    · subst h2
      refine Src.ofSlice w he _ m cap cs hl (fun j u hu=>?_) h1
      rw [J1]
      exact L4 (hS _ _ h3) (h4 j u hu)
  | str s =>
    obtain ⟨rfl,hs⟩:=hks ⟨s,rfl⟩
    exact Src.ofString w hs s
theorem set_perm:∀ {H:List Grp} {j:Nat} {g:Grp} (g':Grp),H[j]? = some g→(H.set j g').Perm (g'::H.eraseIdx j)
  | [],j,g,g',h=>by simp at h
  | x::H,0,g,g',h=>by simp
  | x::H,j+1,g,g',h=>by
    simp only [List.set_cons_succ,List.eraseIdx_cons_succ]
    exact (List.Perm.cons x (set_perm g' (by simpa using h))).trans (List.Perm.swap _ _ _)
theorem sublist_flatten {α:Type} {A B:List (List α)} (h:A.Sublist B):A.flatten.Sublist B.flatten:=by
  induction h with
  | slnil=>exact List.Sublist.refl _
  | cons a _ ih=>simp only [List.flatten_cons]; exact ih.trans (List.sublist_append_right _ _)
  | cons_cons a _ ih=>simp only [List.flatten_cons]; exact List.Sublist.append (List.Sublist.refl _) ih
theorem Sat.replace {W0:World} {H:List Grp} {g g':Grp} {j:Nat} {w:World} (h:Sat W0 (g'::H) w) (hj:H[j]? = some g):Sat W0 (H.set j g') w:=by
  refine Sat.perm ?_ (set_perm g' hj).symm
  refine h.subl ?_
  simp only [List.flatten_cons]
  exact List.Sublist.append (List.Sublist.refl _) (sublist_flatten (List.eraseIdx_sublist _ _))
theorem At.cons {W0:World} {H:List Grp} {g:Grp} {b:Nat} {o:Obj} (h:At W0 H b o):At W0 (g::H) b o:=by
  rcases h with h | h
  · exact .inl h
  · exact .inr (by simp only [List.flatten_cons,List.mem_append]; exact .inr h)
theorem Sat.erase {W0:World} {H:List Grp} {w:World} (h:Sat W0 H w) (j:Nat):Sat W0 (H.eraseIdx j) w:=h.subl (sublist_flatten (List.eraseIdx_sublist _ _))
theorem erase_perm:∀ {H:List Grp} {j:Nat} {g:Grp},H[j]? = some g→H.Perm (g::H.eraseIdx j)
  | [],j,g,h=>by simp at h
  | x::H,0,g,h=>by simp at h; simp [h]
  | x::H,j+1,g,h=>by
    simp only [List.eraseIdx_cons_succ]
    exact (List.Perm.cons x (erase_perm (by simpa using h))).trans (List.Perm.swap _ _ _)
theorem Sat.front {W0:World} {H:List Grp} {w:World} (h:Sat W0 H w) {j:Nat} {g:Grp} (hj:H[j]? = some g):Sat W0 (g::H.eraseIdx j) w:=h.perm (erase_perm hj)
theorem Tri_below {P:Program} {f:FuncId} {args:Array Value} {W0:World} {H:List Grp} {v:Value}
    (h:∀ w,Sat W0 H w→Calls P f args w fun e w'=>e=.returned v∧Below w.heap.size w w'):Tri P f args W0 H (fun u H'=>u=v∧H'=H) :=
  fun w hs=>(h w hs).mono fun e w' ⟨he,hb⟩=>⟨v,H,he,⟨rfl,rfl⟩,by
    have hlt:∀ p,p∈H.flatten→p.1<w.heap.size:=fun p hp=>by
      have:=hs.has p hp
      rcases Nat.lt_or_ge p.1 w.heap.size with h' | h'
      · exact h'
      · simp [Array.getElem?_eq_none h'] at this
    exact ⟨hs.below.trans (hb.mono hs.below.size),hs.nodup,fun p hp=>by rw [hb.block _ (hlt p hp)]; exact hs.has p hp,hs.high⟩⟩
theorem run_append_room {P:Program} {w:World} {t tx ty e:TypeId} {inf:TypeInfo} (ht:P.underlying t=some (.slice e)) (hi:P.info? e=some inf) {b sLen sCap:Nat} {x:Value} {m:Nat} {news:List Value} (hs:Src P inf.size tx x m news w)
    (hroom:sLen+m≤sCap) {w':World} (hst:(storeCells ⟨b,sLen * inf.size,none⟩ news 0).run P w=.ok () w') :
    (Builtin.append_ #[t,tx] ty #[.slice (some ⟨b,0,none⟩) sLen sCap,x]).run P w=.ok (.slice (some ⟨b,0,none⟩) (sLen+m) sCap) w':=by
  have ha:(⟨b,0,none⟩:Addr).add (sLen * inf.size)=⟨b,sLen * inf.size,none⟩:=by rw [J1,Nat.zero_add]
  rcases hs.kind with ⟨e',hk⟩ | hk <;> simp [Builtin.append_,run_underlying ht,run_underlying hk,sizeOf,typeInfo,hi,hs.len,hroom,hs.cells,ha,hst]
theorem zeroCells_len (z:Array Value) (m:Nat):(Builtin.zeroCells z m).size=m * z.size:=by simp [Builtin.zeroCells]
theorem F3 {P:Program} {ops:Array Oper} {i:Nat} {Q:D9} {q:Fr} {E:Env} {W0:World} {H:List Grp} {o:Oper} {ch:List (Nat × Bool)} {c:Call} {t tx e:TypeId} {inf:TypeInfo} {z s x:Value} {n m j:Nat} {cs news:List Value} {g:Grp} {S:Nat→Obj→Prop}
    (ho:ops[i]? = some o:=by exact rfl) (hop:o.op=.call c:=by exact rfl) (hce:c.callee=.builtin .append:=by exact rfl) (hat:c.argTypes=#[t,tx]:=by exact rfl) (hargs:evL (evO E ch) c.args.toList=some [s,x]:=by kernel_rfl)
    (ht:P.underlying t=some (.slice e):=by kernel_rfl) (hi:P.info? e=some inf:=by kernel_rfl) (hz:inf.zero=some z:=by exact rfl) (hzs:z.cells.size=inf.size:=by exact rfl)
    (hkind:(∃ e',P.underlying tx=some (.slice e'))∨(P.underlying tx=some .string∧inf.size=1))
    (hks:(∃ s,x=.string s)→inf.size=1∧P.underlying tx=some .string) (hkl:(∃ a n c,x=.slice a n c)→∃ e',P.underlying tx=some (.slice e'))
    (hch:E3 ops E o.guard=some ch:=by kernel_rfl) (hd:F9 q ch o.dst=true:=by kernel_rfl) (hsure:I5 E ch=true:=by kernel_rfl)
    (hj:H[j]? = some g:=by exact rfl) (hown:Own e inf.size s g n cs) (hsrc:SrcOf S x m news) (hS:∀ b o,S b o→At W0 H b o) (hl:news.length=m * inf.size:=by kernel_rfl) (h1:∀ u∈news,u.oneCell'=true)
    (hmax:n+m≤9223372036854775807) (hbytes:(n+m) * inf.bytes≤140737488355328)
    (k:∀ v g',Own e inf.size v g' (n+m) (cs++news)→GL false P ops (i+1) Q q (Env.put E o.dst ch v) W0 (H.set j g')):GL false P ops i Q q E W0 H:=by
  refine GL_eff (R:=fun v H1=>∃ g',Own e inf.size v g' (n+m) (cs++news)∧H1=H.set j g') ho hch hd hsure (fun r hr w hs=>?_) (by rintro v H1 ⟨g',ho',rfl⟩; exact k v g' ho')
  have hS':∀ b o,S b o→w.heap[b]? = some o:=fun b o h=>hs.at (hS b o h)
  have hsrc':Src P inf.size tx x m news w:=srcOf_run hsrc hkind hks hkl hl h1 hS'
  have hexec:∀ {v:Value} {w':World},(Builtin.append_ #[t,tx] o.type #[s,x]).run P w=.ok v w'→(execOp r o).run P w=.ok (.value v) w':=by
    intro v w' h
    unfold execOp
    simp only [hop,resolve,hce,hat,J0 hr hargs,Sem.run_bind,Sem.run_pure,Result.andThen_ok,invoke,Go.builtin,h]
  have hlen2:(cs++news).length=(n+m) * inf.size:=by
    rw [List.length_append,hown.1,hl,Nat.add_mul]
  have hsame:H.set j g=H:=by
    apply List.ext_getElem?
    intro q
    rw [List.getElem?_set]
    split
    · rename_i e1; subst e1; split
      · exact hj.symm
      · rename_i hlt; rw [List.getElem?_eq_none (by omega)]
    · rfl
  obtain ⟨hlc,⟨rfl,rfl,rfl⟩ | ⟨b,cap,junk,rfl,rfl,hcap,hjunk⟩⟩:=hown
  · have hcs:cs=[]:=by cases cs with | nil=>rfl | cons _ _=>simp at hlc
    subst hcs
    by_cases hm:m=0
    · subst hm
      have hn:news=[]:=by cases news with | nil=>rfl | cons _ _=>simp at hl
      subst hn
      refine ⟨.slice none 0 0,w,H,⟨[],Own.nil,hsame.symm⟩,hs,.inl (hexec ?_)⟩
      rcases hsrc'.kind with ⟨e',hk⟩ | hk <;> simp [Builtin.append_,run_underlying ht,run_underlying hk,sizeOf,typeInfo,hi,hsrc'.len,hsrc'.cells]
    · have hg:=run_append_grow_src (P:=P) w t tx o.type e inf z ht hi hz none 0 0 [] (run_firstCells_none w.drew _ 0 0 0) x m news hsrc' (by omega) (by omega) (growslice_fits (by omega) hbytes)
      simp only [Nat.zero_add,List.nil_append] at hg
      refine ⟨_,_,H.set j [(w.heap.size,.cells (news++(Builtin.zeroCells z.cells (grownCap w m 0 e - m)).toList).toArray e (0,0))],⟨_,⟨by simpa using hl,.inr ⟨w.heap.size,grownCap w m 0 e,(Builtin.zeroCells z.cells (grownCap w m 0 e - m)).toList,by rw [Nat.zero_add],by simp,by rw [Nat.zero_add]; exact grownCap_ge w m 0 e,?_⟩⟩,rfl⟩,?_,.inl (hexec hg)⟩
      · have:=grownCap_ge w m 0 e
        simp only [List.nil_append,List.length_append,hl,Array.length_toList,zeroCells_len,hzs,← Nat.add_mul]
        congr 1; omega
      · have h2:=(hs.drew).new (w':=w.drew.alloc (.cells (news.toArray++Builtin.zeroCells z.cells (grownCap w m 0 e - m)) e)) (o:=.cells (news.toArray++Builtin.zeroCells z.cells (grownCap w m 0 e - m)) e) rfl rfl rfl rfl
        have h3:=h2.replace hj
        have e1:(news++(Builtin.zeroCells z.cells (grownCap w m 0 e - m)).toList).toArray=news.toArray++Builtin.zeroCells z.cells (grownCap w m 0 e - m):=by apply Array.ext'; simp
        rw [e1]; exact h3
  · by_cases hroom:n+m≤cap
    · have hblk:w.heap[b]? = some (.cells (cs++junk).toArray e (0,0)):=hs.has (b,_) (List.mem_flatten.2 ⟨_,List.mem_of_getElem? hj,List.mem_singleton.2 rfl⟩)
      have hjl:junk.length=(cap - n) * inf.size:=by
        rw [List.length_append,hlc] at hjunk
        rw [Nat.sub_mul]; omega
      have hfit:n * inf.size+news.length≤(cs++junk).length:=by
        rw [hjunk,hl,← Nat.add_mul]; exact Nat.mul_le_mul_right _ hroom
      obtain ⟨w',hr',_,hw'⟩:=N3 (P:=P) news (w:=w) (off:=n * inf.size) (i:=0) hblk (by simpa using hfit) (fun k _=>by simp [thawed]) (List.all_eq_true.2 h1)
      have hrow:setRow (cs++junk).toArray (n * inf.size+0) news=((cs++news)++junk.drop news.length).toArray:=by
        have hnl:news.length≤junk.length:=by
          rw [hl,hjl]; exact Nat.mul_le_mul_right _ (by omega)
        have:=setRow_mid news cs (junk.drop news.length) (junk.take news.length) (by simp [hnl])
        rw [List.append_assoc,List.take_append_drop,hlc] at this
        exact this
      rw [hrow] at hw'
      refine ⟨.slice (some ⟨b,0,none⟩) (n+m) cap,w',H.set j ([(b,.cells ((cs++news)++junk.drop news.length).toArray e (0,0))]),⟨_,⟨hlen2,.inr ⟨b,cap,junk.drop news.length,rfl,rfl,hroom,?_⟩⟩,rfl⟩,?_,.inl (hexec (run_append_room ht hi hsrc' hroom hr'))⟩
      · rw [List.length_append,List.length_append,List.length_drop,hjl,hl,hlc]
        have h2:(cap - n) * inf.size=(cap - n - m) * inf.size+m * inf.size:=by rw [← Nat.add_mul]; congr 1; omega
        have h3:cap * inf.size=n * inf.size+m * inf.size+(cap - n - m) * inf.size:=by rw [← Nat.add_mul,← Nat.add_mul]; congr 1; omega
        omega
      · exact hs.wr hj (i:=0) rfl hw'
    · have hblk:w.heap[b]? = some (.cells (cs++junk).toArray e (0,0)):=hs.has (b,_) (List.mem_flatten.2 ⟨_,List.mem_of_getElem? hj,List.mem_singleton.2 rfl⟩)
      have hold:(Builtin.firstCells inf.size n (.slice (some ⟨b,0,none⟩) n cap)).run P w.drew=.ok cs.toArray w.drew:=by
        refine run_firstCells_some (P:=P) w.drew inf.size n ⟨b,0,none⟩ n cap cs hlc (fun j v hv=>?_)
        rw [J1,Nat.zero_add]
        have hlt:j<cs.length:=by
          rcases Nat.lt_or_ge j cs.length with h | h
          · exact h
          · rw [List.getElem?_eq_none h] at hv; simp at hv
        exact L4 (w:=w.drew) hblk (by rw [List.getElem?_toArray,List.getElem?_append_left hlt]; exact hv)
      have hg:=run_append_grow_src (P:=P) w t tx o.type e inf z ht hi hz (some ⟨b,0,none⟩) n cap cs hold x m news hsrc' (by omega) (by omega) (growslice_fits (by omega) hbytes)
      have hge:=grownCap_ge w (n+m) cap e
      refine ⟨_,_,H.set j [(w.heap.size,.cells ((cs++news)++(Builtin.zeroCells z.cells (grownCap w (n+m) cap e - (n+m))).toList).toArray e (0,0))],⟨_,⟨hlen2,.inr ⟨w.heap.size,grownCap w (n+m) cap e,(Builtin.zeroCells z.cells (grownCap w (n+m) cap e - (n+m))).toList,rfl,rfl,hge,?_⟩⟩,rfl⟩,?_,.inl (hexec hg)⟩
      · rw [List.length_append,hlen2,Array.length_toList,zeroCells_len,hzs,← Nat.add_mul]
        congr 1; omega
      · have h2:=(hs.drew).new (w':=w.drew.alloc (.cells ((cs++news).toArray++Builtin.zeroCells z.cells (grownCap w (n+m) cap e - (n+m))) e)) (o:=.cells ((cs++news).toArray++Builtin.zeroCells z.cells (grownCap w (n+m) cap e - (n+m))) e) rfl rfl rfl rfl
        have h3:=h2.replace hj
        have e1:((cs++news)++(Builtin.zeroCells z.cells (grownCap w (n+m) cap e - (n+m))).toList).toArray=(cs++news).toArray++Builtin.zeroCells z.cells (grownCap w (n+m) cap e - (n+m)):=by apply Array.ext'; simp
        rw [e1]; exact h3
theorem M7 {t:TypeId} {k:Nat} {a:Option Addr} {n c:Nat} {g:Grp} {cs:List Value} (h:Own t k (.slice a n c) g n cs):Rd (inG g) a cs:=by
  obtain ⟨a',c',he,_,hr⟩:=h.shape
  injection he with e1 e2 e3
  subst e1; exact hr
end Go.Sw
namespace Go.Sw
theorem K0 {E:List Sl} {t:Nat} {w b:Bool} {r c:List (Nat × Bool)} (h:chB E ((t,w)::r)) (hf:Env.find E t=some ⟨t,c,.bool b⟩):b=w:=by
  have h1:=h.1
  rw [hf] at h1
  exact h1
def Qn (K:Act→World→Prop):D9:=fun x a w=>x=.normal∧K a w
theorem wp_swap {P:Program} {o:Oper} {a:Act} {w:World} {K1 K A B:Act→World→Prop} (h:∀ a w,K1 a w→K a w)
    (hh:o.wp P a w K1 (Qn A)):o.wp P a w K (Qn B):=by
  unfold Oper.wp at *
  generalize (execOp a.eval o).run P w=r at *
  cases r with
  | ok n w' =>
    cases n <;> simp only [Oper.upon] at hh ⊢ <;>
      first
        | exact h _ _ hh
        | exact Calls.mono hh (fun e w'' he=>by
            cases e
            · exact h _ _ he
            · exact absurd he.1 (by intro h; cases h)
            · obtain ⟨_,_,h1,_⟩:=he; cases h1)
        | exact Rows.mono hh (fun _ _ he=>h _ _ he)
  | halt x w'=>cases x <;> simp only [Oper.upon] at hh ⊢ <;> first | exact hh | exact absurd hh.1 (by intro h; cases h)
def M9 (ops:Array Oper) (i:Nat):Array Oper:=(ops.toList.take (i+1)).toArray
def I9 (ops:Array Oper) (i:Nat):Bool:=match ops[i]? with | some o=>(match o.guard with | some (j,_)=>decide (j≤i) | none=>true) | none=>false
theorem cutOps_get {ops:Array Oper} {i j:Nat} (h:j≤i):(M9 ops i)[j]? = ops[j]? := by
  rw [M9,List.getElem?_toArray,List.getElem?_take,if_pos (by omega),Array.getElem?_toList]
theorem cut_drop {ops:Array Oper} {i:Nat} {o:Oper} (h:ops[i]? = some o):(M9 ops i).toList.drop i=[o]:=by
  have hi:i<ops.toList.length:=by
    rcases Nat.lt_or_ge i ops.size with h' | h'
    · simpa using h'
    · simp [Array.getElem?_eq_none h'] at h
  have e:ops.toList[i]? = some o:=by rw [Array.getElem?_toList]; exact h
  rw [List.getElem?_eq_getElem hi] at e
  injection e with e
  unfold M9
  rw [List.toList_toArray,List.take_succ_eq_append_getElem hi,e,List.drop_append_of_le_length (by rw [List.length_take]; omega),List.drop_eq_nil_of_le (by rw [List.length_take]; omega)]
  rfl
theorem cut_wanted {ops:Array Oper} {i:Nat} {o:Oper} (h:ops[i]? = some o) (hg:I9 ops i=true) (tmps:Array Value) :
    Region.wanted o (yielded (M9 ops i) tmps)=Region.wanted o (yielded ops tmps):=by
  unfold I9 at hg
  rw [h] at hg
  unfold Region.wanted
  cases hgd:o.guard with
  | none=>rfl
  | some p =>
    obtain ⟨j,b⟩:=p
    simp only [hgd,decide_eq_true_eq] at hg
    simp only [yielded,cutOps_get hg]
def noCall (o:Oper):Bool:=match o.op with
  | .move _ | .assign _ | .pick .. | .load .. | .binOp .. | .unOp .. | .convert .. | .makeInterface .. | .makeFunc .. | .slice .. | .fieldAddr .. | .field .. | .indexAddr .. | .index .. | .lookup .. | .extract .. | .build ..=>true
  | _=>false
def GH (P:Program) (ops:Array Oper) (L:List Grp) (fuel:Nat) (listed:Array Bool) (Q:D9) (n:Fr) (E:Env) (W0:World) (H:List Grp):Prop :=
  ∀ a w,Ag n E a→Sat W0 H w→wpAnyH P .any ops (Qn (Q .normal)) (Sat W0 L) fuel listed a w
theorem G_regionH {P:Program} {id:Nat} {ops:Array Oper} {Q:D9} {n:Fr} {E:Env} {W0:World} {H:List Grp} (L:List Grp)
    (hm:P.follows .mixedOrders=true:=by kernel_rfl) (k:GH P ops L ops.size (Array.replicate ops.size false) Q n E W0 H):G P (.region id ops true) Q n E W0 H:=by
  intro a w ha hs
  refine Code.wp_mono (Q:=Qn (Q .normal)) (fun e a w h=>?_) (wp_region_held hm (k a _ ha hs.drew))
  obtain ⟨rfl,h⟩:=h
  exact h
theorem GH_more {P:Program} {ops:Array Oper} {L:List Grp} (L':List Grp) {fuel:Nat} {listed:Array Bool} {Q:D9} {n:Fr} {E:Env} {W0:World} {H:List Grp}
    (hL:∀ w,Sat W0 L' w→Sat W0 L w) (k:GH P ops L' fuel listed Q n E W0 H):GH P ops L fuel listed Q n E W0 H:=by
  have mono:∀ fuel listed a w,wpAnyH P .any ops (Qn (Q .normal)) (Sat W0 L') fuel listed a w→wpAnyH P .any ops (Qn (Q .normal)) (Sat W0 L) fuel listed a w:=by
    intro fuel
    induction fuel with
    | zero=>exact fun _ _ _ h=>h
    | succ fuel ih=>exact fun listed a w h=>⟨h.1,fun i hi=>wpOp_mono (fun a' w' h'=>⟨hL _ h'.1,ih _ _ _ h'.2⟩) (h.2 i hi)⟩
  exact fun a w ha hs=>mono _ _ _ _ (k a w ha hs)
theorem GH_done {P:Program} {ops:Array Oper} {L:List Grp} {fuel:Nat} {listed:Array Bool} {Q:D9} {n:Fr} {E E':Env} {W0:World} {H:List Grp} (ts:List Nat)
    (hr:Region.ready .any ops listed=[]:=by kernel_rfl) (hk:Env.keep ts E=E':=by kernel_rfl) (k:N Q .normal n E' W0 H):GH P ops L fuel listed Q n E W0 H :=
  fun a w ha hs=>wpAnyH_done hr ⟨rfl,N_sub ts hk k a w ha hs⟩ fuel
theorem GH_wpOp {P:Program} {ops:Array Oper} {L:List Grp} {fuel:Nat} {listed:Array Bool} {Q:D9} {n:Fr} {E:Env} {W0:World} {H:List Grp} (i:Nat)
    (hi:(ops[i]?).isSome=true) (hg:I9 ops i=true)
    (k:GL false P (M9 ops i) i (Qn fun a w=>Sat W0 L w∧wpAnyH P .any ops (Qn (Q .normal)) (Sat W0 L) fuel (listed.setIfInBounds i true) a w) n E W0 H) {a:Act} {w:World} (ha:Ag n E a) (hs:Sat W0 H w) :
    wpOp P ops (Qn (Q .normal)) i (fun a w=>Sat W0 L w∧wpAnyH P .any ops (Qn (Q .normal)) (Sat W0 L) fuel (listed.setIfInBounds i true) a w) a w:=by
  obtain ⟨o,ho⟩:=Option.isSome_iff_exists.1 hi
  have h1:=k a w ha hs
  rw [cut_drop ho] at h1
  unfold wpOp
  simp only [ho]
  unfold wpList at h1
  rw [cut_wanted ho hg] at h1
  split
  · rename_i hw
    rw [if_pos hw] at h1
    rcases h1 with h1 | ⟨_,_,_,h1,_⟩
    · exact .inl (wp_swap (fun a w h=>h.2) h1)
    · cases h1
  · rename_i hw
    rw [if_neg hw] at h1
    exact h1.2
theorem GH_eff {P:Program} {ops:Array Oper} {L:List Grp} {fuel:Nat} {listed:Array Bool} {Q:D9} {n:Fr} {E:Env} {W0:World} {H:List Grp} (i:Nat)
    (hr:Region.ready .any ops listed=[i]:=by kernel_rfl) (hi:(ops[i]?).isSome=true:=by kernel_rfl) (hg:I9 ops i=true:=by kernel_rfl)
    (k:GL false P (M9 ops i) i (Qn fun a w=>Sat W0 L w∧wpAnyH P .any ops (Qn (Q .normal)) (Sat W0 L) fuel (listed.setIfInBounds i true) a w) n E W0 H) :
    GH P ops L (fuel+1) listed Q n E W0 H:=by
  intro a w ha hs
  refine wpAnyH_all hr (by simp) (fun j hj=>?_)
  have hji:j=i:=by simpa using hj
  subst hji
  exact GH_wpOp j hi hg k ha hs
theorem GH_back {P:Program} {ops:Array Oper} {L:List Grp} {fuel:Nat} {listed:Array Bool} {Q:D9} {n:Fr} {E:Env} {W0:World} {H:List Grp} {i j:Nat}
    (hi:(M9 ops i).size=j:=by kernel_rfl) (hL:∀ w,Sat W0 H w→Sat W0 L w) (k:GH P ops L fuel listed Q n E W0 H) :
    GL false P (M9 ops i) j (Qn fun a w=>Sat W0 L w∧wpAnyH P .any ops (Qn (Q .normal)) (Sat W0 L) fuel listed a w) n E W0 H :=
  GL_end hi (fun a w ha hs=>⟨rfl,hL w hs,k a w ha hs⟩)
def valueM (m:Sem Value):Sem Next:=m >>= fun v=>pure (.value v)
theorem valueM_run {P:Program} {m:Sem Value} {w w':World} {x:Next} (h:(valueM m).run P w=.ok x w'):∃ v,x=.value v:=by
  unfold valueM at h
  rw [Sem.run_bind] at h
  generalize m.run P w=r at h
  cases r with
  | ok v w1=>simp only [Result.andThen_ok,Sem.run_pure] at h; injection h with h; exact ⟨v,h.symm⟩
  | halt x w1=>simp [Result.andThen] at h
theorem bindV_run {P:Program} {α:Type} {m:Sem α} {f:α→Value} {w w':World} {x:Next} (h:(m >>= fun b=>pure (Next.value (f b))).run P w=.ok x w'):∃ v,x=.value v:=by
  rw [Sem.run_bind] at h
  generalize m.run P w=r at h
  cases r with
  | ok v w1=>simp only [Result.andThen_ok,Sem.run_pure] at h; injection h with h; exact ⟨_,h.symm⟩
  | halt x w1=>simp [Result.andThen] at h
theorem noCall_value {P:Program} {o:Oper} (hn:noCall o=true) {r:Operand→Value} {C:World→Prop} {w:World} {v:Value}
    (h:Oper.quietUpon P C w v ((execOp r o).run P w)):(execOp r o).run P w=.ok (.value v) w:=by
  have key:∀ x w',(execOp r o).run P w=.ok x w'→∃ v,x=.value v:=by
    intro x w' he
    unfold noCall at hn
    cases hop:o.op <;> rw [hop] at hn <;> simp only [Bool.false_eq_true] at hn
    all_goals (unfold execOp at he; simp only [hop] at he)
    all_goals first
      | exact valueM_run (m:=_) he
      | (simp only [Sem.run_pure] at he; injection he with he; exact ⟨_,he.symm⟩)
      | exact bindV_run he
  generalize hr:(execOp r o).run P w=res at h ⊢
  cases res with
  | ok x w' =>
    obtain ⟨u,rfl⟩:=key x w' hr
    simp only [Oper.quietUpon] at h
    obtain ⟨rfl,rfl⟩:=h
    rfl
  | halt x w'=>simp [Oper.quietUpon] at h
theorem GH_take {P:Program} {ops:Array Oper} {L:List Grp} {fuel:Nat} {listed:Array Bool} {Q:D9} {n:Fr} {E E':Env} {W0:World} {H:List Grp} (i:Nat)
    (hi:(match ops[i]? with | some o=>noCall o | none=>false)=true) (hg:I9 ops i=true) (hs:Region.noSelect ops=true) (hf:Region.free .any ops listed i=true)
    (hr:(Region.ready .any ops listed).contains i=true) (hL:∀ w,Sat W0 H w→Sat W0 L w)
    (hy:GL true P (M9 ops i) i (fun _ a _=>Ag n E' a) n E W0 L)
    (k:GH P ops L fuel (listed.setIfInBounds i true) Q n E' W0 H):GH P ops L (fuel+1) listed Q n E W0 H:=by
  intro a w ha hsat
  cases ho:ops[i]? with
  | none=>rw [ho] at hi; simp at hi
  | some o =>
    rw [ho] at hi
    have hSw:=hL w hsat
    have h1:=hy a ha
    rw [cut_drop ho] at h1
    unfold wpQuiet at h1
    rw [cut_wanted ho hg] at h1
    by_cases hw:Region.wanted o (yielded ops a.tmps)=true
    · rw [if_pos hw] at h1
      obtain ⟨v,h2,h3⟩:=h1
      exact wpAnyH_take (v:=v) ho hs hf hr (fun c a w h=>absurd h.1 (by intro h; cases h)) (.inl ⟨hw,fun w' hw'=>noCall_value hi (h2 w' hw')⟩) hSw (k _ w (h3 w hSw) hsat)
    · rw [if_neg hw] at h1
      exact wpAnyH_take (v:=undef) ho hs hf hr (fun c a w h=>absurd h.1 (by intro h; cases h)) (.inr ⟨by simpa using hw,rfl⟩) hSw (k _ w (h1 w hSw) hsat)
theorem GH_nil {P:Program} {ops:Array Oper} {L:List Grp} {fuel:Nat} {listed:Array Bool} {Q:D9} {n:Fr} {E:Env} {W0:World} {H:List Grp} {o:Oper} {x:Operand} {ad:Addr} (i:Nat)
    (ho:ops[i]? = some o:=by exact rfl) (hop:o.op=.nilCheck x:=by exact rfl) (hgd:o.guard=none:=by exact rfl) (hx:evO E [] x=some (.pointer (some ad)):=by kernel_rfl) (hd:F9 n [] o.dst=true:=by kernel_rfl)
    (hs:Region.noSelect ops=true:=by kernel_rfl) (hf:Region.free .any ops listed i=true:=by kernel_rfl)
    (hr:(Region.ready .any ops listed).contains i=true:=by kernel_rfl) (hL:∀ w,Sat W0 H w→Sat W0 L w)
    (k:GH P ops L fuel (listed.setIfInBounds i true) Q n (Env.put E o.dst [] (.pointer (some ad))) W0 H):GH P ops L (fuel+1) listed Q n E W0 H:=by
  intro a w ha hsat
  obtain ⟨β,hβ,hat⟩:=ha.at_
  have hv:a.eval x=.pointer (some ad):=G6 hat rfl hx
  have hw:Region.wanted o (yielded ops a.tmps)=true:=by unfold Region.wanted; rw [hgd]
  have hput:Ag n (Env.put E o.dst [] (.pointer (some ad))) (a.put o.dst (.pointer (some ad))):=by
    have:=ha.put hβ hat hd (.pointer (some ad))
    simpa [chT] using this
  refine wpAnyH_take (v:=.pointer (some ad)) ho hs hf hr (fun c a w h=>absurd h.1 (by intro h; cases h)) (.inl ⟨hw,fun w' _=>?_⟩) (hL w hsat) (k _ w hput hsat)
  unfold execOp
  simp only [hop,hv]
  rfl
theorem GH_pev {P:Program} {ops:Array Oper} {L:List Grp} {fuel:Nat} {listed:Array Bool} {Q:D9} {n:Fr} {E:Env} {W0:World} {H:List Grp} {o:Oper} {v:Value} (i:Nat)
    (ho:ops[i]? = some o) (hgd:o.guard=none) (hp:pev P (evO E []) o.op=some v) (hd:F9 n [] o.dst=true)
    (hs:Region.noSelect ops=true) (hf:Region.free .any ops listed i=true)
    (hr:(Region.ready .any ops listed).contains i=true) (hL:∀ w,Sat W0 H w→Sat W0 L w)
    (k:GH P ops L fuel (listed.setIfInBounds i true) Q n (Env.put E o.dst [] v) W0 H):GH P ops L (fuel+1) listed Q n E W0 H:=by
  intro a w ha hsat
  obtain ⟨β,hβ,hat⟩:=ha.at_
  have hw:Region.wanted o (yielded ops a.tmps)=true:=by unfold Region.wanted; rw [hgd]
  have hput:Ag n (Env.put E o.dst [] v) (a.put o.dst v):=by
    have:=ha.put hβ hat hd v
    simpa [chT] using this
  exact wpAnyH_take (v:=v) ho hs hf hr (fun c a w h=>absurd h.1 (by intro h; cases h)) (.inl ⟨hw,fun w' _=>pev_sound (fun x v h=>G6 hat rfl h) hp w'⟩) (hL w hsat) (k _ w hput hsat)
theorem GL_yend {P:Program} {ops:Array Oper} {i:Nat} {n:Fr} {E E':Env} {W0:World} {L:List Grp} (hi:ops.size=i) (he:E=E'):GL true P ops i (fun _ a _=>Ag n E' a) n E W0 L :=
  GL_end hi (by subst he; exact fun a w ha _=>ha)
theorem cut_size {ops:Array Oper} {i:Nat} {o:Oper} (h:ops[i]? = some o):(M9 ops i).size=i+[0].length:=by
  have hi:i<ops.size:=(Array.getElem?_eq_some_iff.1 h).1
  unfold M9
  rw [List.size_toArray,List.length_take,Array.length_toList]; show min (i+1) ops.size=i+1; omega
theorem GH_pure {P:Program} {ops:Array Oper} {L:List Grp} {fuel:Nat} {listed:Array Bool} {Q:D9} {n:Fr} {E E':Env} {W0:World} {H:List Grp} (i m:Nat)
    (hc:((match ops[i]? with | some o=>noCall o | none=>false)&&(I9 ops i&&(Region.noSelect ops&&(Region.free .any ops listed i&&(Region.ready .any ops listed).contains i))))=true) (hL:∀ w,Sat W0 H w→Sat W0 L w)
    (h:(J7 P (M9 ops i) n [m] i E).map (Env.only (E'.map Sl.t))=some E')
    (k:GH P ops L fuel (listed.setIfInBounds i true) Q n E' W0 H):GH P ops L (fuel+1) listed Q n E W0 H:=by
  simp only [Bool.and_eq_true] at hc
  obtain ⟨h1,h2,h3,h4,h5⟩:=hc
  refine GH_take (E':=E') i h1 h2 h3 h4 h5 hL (C1 (j:=i+[m].length) [m] h rfl (GL_yend ?_ rfl)) k
  cases ho:ops[i]? with
  | none=>rw [ho] at h1; cases h1
  | some o=>exact cut_size ho
theorem O8 {P:Program} {ops:Array Oper} {L:List Grp} {fuel:Nat} {listed:Array Bool} {Q:D9} {n:Fr} {E E':Env} {W0:World} {H:List Grp} (i:Nat)
    (hc:((match ops[i]? with | some o=>noCall o | none=>false)&&(I9 ops i&&(Region.noSelect ops&&(Region.free .any ops listed i&&(Region.ready .any ops listed).contains i))))=true:=by kernel_rfl) (hL:∀ w,Sat W0 H w→Sat W0 L w)
    (hy:GL true P (M9 ops i) i (fun _ a _=>Ag n E' a) n E W0 L)
    (k:GH P ops L fuel (listed.setIfInBounds i true) Q n E' W0 H):GH P ops L (fuel+1) listed Q n E W0 H:=by
  simp only [Bool.and_eq_true] at hc
  obtain ⟨h1,h2,h3,h4,h5⟩:=hc
  exact GH_take i h1 h2 h3 h4 h5 hL hy k
theorem GH_env {P:Program} {ops:Array Oper} {L:List Grp} {fuel:Nat} {listed:Array Bool} {Q:D9} {n:Fr} {E E':Env} {W0:World} {H:List Grp} (h:E=E') (k:GH P ops L fuel listed Q n E' W0 H):GH P ops L fuel listed Q n E W0 H:=by subst h; exact k
theorem N_heq {Q:D9} {x:Exit} {n:Fr} {E:Env} {W0:World} {H H':List Grp} (h:H=H') (k:N Q x n E W0 H'):N Q x n E W0 H:=by subst h; exact k
theorem L5 {Q:D9} {x:Exit} {n:Fr} {E E':Env} {W0:World} {H:List Grp} (h:E=E') (k:N Q x n E' W0 H):N Q x n E W0 H:=by subst h; exact k
def JQ {T:Type} (n:Fr) (W0:World) (EJ:T→Env) (HJ:T→List Grp) (Φ:T→Prop):D9:=fun x a w=>x=.normal∧∃ v,Φ v∧Ag n (EJ v) a∧Sat W0 (HJ v) w
theorem G_join {P:Program} {c:Code} {Q:D9} {n:Fr} {E:Env} {W0:World} {H:List Grp} {T:Type} (EJ:T→Env) (HJ:T→List Grp) (Φ:T→Prop)
    (h:G P c (JQ n W0 EJ HJ Φ) n E W0 H) (k:∀ v,Φ v→N Q .normal n (EJ v) W0 (HJ v)):G P c Q n E W0 H :=
  fun a w ha hs=>Code.wp_mono (fun x a w ⟨hx,v,h1,h2,h3⟩=>by subst hx; exact k v h1 a w h2 h3) (h a w ha hs)
theorem N_join {n:Fr} {E:Env} {W0:World} {H:List Grp} {T:Type} {EJ:T→Env} {HJ:T→List Grp} {Φ:T→Prop} (v:T) (ts:List Nat) (h:Env.keep ts E=EJ v:=by kernel_rfl)
    (hH:∀ w,Sat W0 H w→Sat W0 (HJ v) w) (hp:Φ v):N (JQ n W0 EJ HJ Φ) .normal n E W0 H :=
  fun _ w ha hs=>⟨rfl,v,hp,ha.sub (by rw [← h]; intro s hs; exact Env.keep_mem _ hs),hH w hs⟩
theorem C8 {d:Bool} {P:Program} {ops:Array Oper} {i:Nat} {Q:D9} {n:Fr} {E E':Env} {W0:World} {H:List Grp} (h:E=E') (k:GL d P ops i Q n E' W0 H):GL d P ops i Q n E W0 H:=by subst h; exact k
inductive RV (P:Program) (E:List Sl) (W0:World) (H:List Grp):ResultVar→Value→Prop
  | tmp {t:Nat} {v:Value} (h:evT E [] t=some v):RV P E W0 H (.tmp t) v
  | agg {a t b off:Nat} {c:Array Value} {e:TypeId} {fz:Nat × Nat} {l:List Value} (h:evT E [] a=some (.pointer (some ⟨b,off,none⟩))) (ht:aggB P t=some true) (hz:sizeV P t=some l.length)
      (hA:At W0 H b (.cells c e fz)) (hv:(c.toList.drop off).take l.length=l):RV P E W0 H (.cell a t) (.agg l.toArray)
  | one {a t b off:Nat} {c:Array Value} {e:TypeId} {fz:Nat × Nat} {v:Value} (h:evT E [] a=some (.pointer (some ⟨b,off,none⟩))) (ht:aggB P t=some false)
      (hA:At W0 H b (.cells c e fz)) (hv:c[off]? = some v):RV P E W0 H (.cell a t) v
inductive RVs (P:Program) (E:List Sl) (W0:World) (H:List Grp):List ResultVar→List Value→Prop
  | nil:RVs P E W0 H [] []
  | cons {r:ResultVar} {v:Value} {rs:List ResultVar} {l:List Value} (h:RV P E W0 H r v) (k:RVs P E W0 H rs l):RVs P E W0 H (r::rs) (v::l)
theorem RV.run {P:Program} {n:Fr} {E:Env} {W0:World} {H:List Grp} {a:Act} (ha:Ag n E a) {w:World} (hs:Sat W0 H w) {r:ResultVar} {v:Value} (h:RV P E W0 H r v) :
    (resOne a.tmps r).run P w=.ok v w:=by
  cases h with
  | tmp h =>
    have e:=ha.eval (x:=.tmp _) h
    simp only [resOne,Sem.run_pure]
    rw [show a.tmps.getD _ undef=v from e]
  | @agg x t b off c e fz l h ht hz hA hv' =>
    have ee:a.tmps.getD x undef=_:=ha.eval (x:=.tmp x) h
    have hv:∀ k (hk:k<l.length),c[off+k]? = some l[k]:=by
      intro k hk
      have h1:((c.toList.drop off).take l.length)[k]? = some l[k]:=by rw [hv']; simp
      rw [List.getElem?_take,if_pos hk,List.getElem?_drop] at h1
      simpa using h1
    simp only [resOne,ee,asAddr,loadVar,Sem.run_bind,Sem.run_pure,Result.andThen_ok,M2 ht,if_true,H0 hz,loadCells,
      run_loadCells (P:=P) (hs.at hA) l 0 #[] (by simpa using hv)]
    simp
  | @one x t b off c e fz v h ht hA hv =>
    have ee:a.tmps.getD x undef=_:=ha.eval (x:=.tmp x) h
    simp only [resOne,ee,asAddr,loadVar,Sem.run_bind,Sem.run_pure,Result.andThen_ok,M2 ht,Bool.false_eq_true,if_false,run_load,L4 (hs.at hA) hv]
theorem RVs.run {P:Program} {n:Fr} {E:Env} {W0:World} {H:List Grp} {a:Act} (ha:Ag n E a) {w:World} (hs:Sat W0 H w) {rs:List ResultVar} {l:List Value} (h:RVs P E W0 H rs l) :
    (rs.mapM (resOne a.tmps)).run P w=.ok l w:=by
  induction h with
  | nil=>rfl
  | cons h _ ih=>simp only [List.mapM_cons,Sem.run_bind,h.run ha hs,Sem.run_pure,Result.andThen_ok,ih]
theorem GH_sub {P:Program} {ops:Array Oper} {L:List Grp} {fuel:Nat} {listed:Array Bool} {Q:D9} {n:Fr} {E E':Env} {W0:World} {H:List Grp} (hs:∀ s,s∈E'→s∈E) (k:GH P ops L fuel listed Q n E' W0 H):GH P ops L fuel listed Q n E W0 H :=
  fun a w ha=>k a w (ha.sub hs)
theorem GH_wi {P:Program} {ops:Array Oper} {L:List Grp} {fuel:Nat} {listed:Array Bool} {Q:D9} {n:Fr} {E:Env} {W0:World} {H:List Grp} (t:Nat) (x:Int) (h1:-9223372036854775808≤x) (h2:x≤9223372036854775807)
    (h:Env.find E t=some ⟨t,[],.int .i64 (IntKind.wrap .i64 x)⟩) (k:GH P ops L fuel listed Q n (setI E t x) W0 H):GH P ops L fuel listed Q n E W0 H:=GH_sub (setI_sub (w64 h1 h2) h) k
def hpo (P:Program) (ops:Array Oper) (n:Fr) (m i:Nat) (l:Array Bool) (E:List Sl):Option (List Sl) :=
  if (match ops[i]? with | some o=>noCall o | none=>false)&&(I9 ops i&&(Region.noSelect ops&&(Region.free .any ops l i&&(Region.ready .any ops l).contains i))) then J7 P (M9 ops i) n [m] i E else none
def hps (P:Program) (ops:Array Oper) (n:Fr):List (Nat × Nat)→Array Bool→List Sl→Option (List Sl)
  | [],_,E=>some E
  | (i,m)::r,l,E=>match hpo P ops n m i l E with
    | some E1=>hps P ops n r (l.setIfInBounds i true) E1
    | none=>none
def hls:List (Nat × Nat)→Array Bool→Array Bool
  | [],l=>l
  | (i,_)::r,l=>hls r (l.setIfInBounds i true)
def hpv (P:Program) (ops:Array Oper) (n:Fr) (ms:List (Nat × Nat)) (l:Array Bool) (E:List Sl):List Sl:=(hps P ops n ms l E).getD []
theorem GH_hps {P:Program} {ops:Array Oper} {L:List Grp} {Q:D9} {n:Fr} {W0:World} {H:List Grp} (hL:∀ w,Sat W0 H w→Sat W0 L w):∀ (ms:List (Nat × Nat)) {fuel:Nat} {listed:Array Bool} {E E':Env},
    hps P ops n ms listed E=some E'→GH P ops L fuel (hls ms listed) Q n E' W0 H→GH P ops L (fuel+ms.length) listed Q n E W0 H
  | [],fuel,listed,E,E',h,k=>by
    rw [hps,Option.some.injEq] at h; subst h; exact k
  | (i,m)::r,fuel,listed,E,E',h,k=>by
    rw [hps] at h
    cases h1:hpo P ops n m i listed E with
    | none=>rw [h1] at h; cases h
    | some E1 =>
      rw [h1] at h
      have k1:GH P ops L (fuel+r.length) (listed.setIfInBounds i true) Q n E1 W0 H:=GH_hps hL r h k
      unfold hpo at h1
      rw [Option.ite_none_right_eq_some] at h1
      obtain ⟨hc,h1⟩:=h1
      refine GH_pure (E':=E1) i m hc hL ?_ k1
      rw [h1]
      show some (Env.only (E1.map Sl.t) E1)=some E1
      congr 1
      exact List.filter_eq_self.2 fun s hs=>by
        rw [List.contains_iff_mem]; exact List.mem_map.2 ⟨s,hs,rfl⟩
theorem GH_p {P:Program} {ops:Array Oper} {L:List Grp} {fuel fuel':Nat} {listed:Array Bool} {Q:D9} {n:Fr} {E:Env} {W0:World} {H:List Grp} (ms:List (Nat × Nat)) (hL:∀ w,Sat W0 H w→Sat W0 L w)
    (h:(hps P ops n ms listed E).isSome=true:=by kernel_rfl) (hf:fuel'=fuel+ms.length:=by exact rfl) (k:GH P ops L fuel (hls ms listed) Q n (hpv P ops n ms listed E) W0 H):GH P ops L fuel' listed Q n E W0 H:=by
  subst hf
  refine GH_hps hL ms ?_ k
  unfold hpv
  cases hp:hps P ops n ms listed E with
  | none=>rw [hp] at h; cases h
  | some E1=>rfl
end Go.Sw
namespace Go.Sw
def u8s (l:List UInt8):List Value:=l.map fun b=>Value.int .u8 (b.toNat:Int)
theorem H4 {d:Bool} {P:Program} {ops:Array Oper} {i:Nat} {Q:D9} {n:Fr} {E:Env} {W0:World} {H:List Grp} {o:Oper} {ch:List (Nat × Bool)} {src dst e:TypeId} {x:Operand} {a:Addr} {cap:Nat} {S:Nat→Obj→Prop} (l:List UInt8)
    (ho:ops[i]? = some o:=by exact rfl) (hop:o.op=.convert src dst x:=by exact rfl) (hx:evO E ch x=some (.slice (some a) l.length cap):=by kernel_rfl) (hs:P.underlying src=some (.slice e):=by kernel_rfl) (he:P.underlying e=some (.int .u8):=by kernel_rfl) (hds:P.underlying dst=some .string:=by kernel_rfl)
    (hch:E3 ops E o.guard=some ch:=by kernel_rfl) (hd:F9 n ch o.dst=true:=by kernel_rfl) (hk:H7 E ch=true:=by kernel_rfl)
    (hrd:Rd S (some a) (u8s l)) (hS:∀ b o,S b o→At W0 H b o)
    (k:GL d P ops (i+1) Q n (Env.put E o.dst ch (.string ⟨l.toArray⟩)) W0 H):GL d P ops i Q n E W0 H:=by
  refine G3 ho hch hd hk (fun r hr _ w hsat=>?_) k
  unfold execOp
  simp only [hop]
  rw [hr _ _ hx]
  have:=Go.run_convert_bytes_back (P:=P) w src dst e a cap l hs he hds (fun j hj=>by
    have hv:(u8s l)[j]? = some (.int .u8 (l[j].toNat:Int)):=by simp [u8s,hj]
    obtain ⟨b,off,c,t,fz,h1,h2,h3,h4⟩:=hrd.elt hv
    have ha:a.add j=⟨b,off+j,none⟩:=h3
    rw [ha]
    exact L4 (hsat.at (hS _ _ h2)) h4)
  simp only [Sem.run_bind,Sem.run_pure,this,Result.andThen_ok]
  exact ⟨rfl,rfl⟩
theorem E0 {d:Bool} {P:Program} {ops:Array Oper} {i:Nat} {Q:D9} {n:Fr} {E:Env} {W0:World} {H:List Grp} {o:Oper} {ch:List (Nat × Bool)} {t e:TypeId} {x ix:Operand} {b off len sz:Nat} {kd:IntKind} {j:Int}
    (ho:ops[i]? = some o:=by exact rfl) (hop:o.op=.indexAddr t x ix:=by exact rfl) (hx:evO E ch x=some (.pointer (some ⟨b,off,none⟩)):=by kernel_rfl) (hix:evO E ch ix=some (.int kd j):=by kernel_rfl) (hu:P.underlying t=some (.array len e):=by kernel_rfl) (hsz:sizeV P e=some sz:=by kernel_rfl)
    (hch:E3 ops E o.guard=some ch:=by kernel_rfl) (hd:F9 n ch o.dst=true:=by kernel_rfl) (hk:H7 E ch=true:=by kernel_rfl)
    (hb:chB E ch→0≤j∧j<len)
    (k:GL d P ops (i+1) Q n (Env.put E o.dst ch (.pointer (some ⟨b,off+j.toNat * sz,none⟩))) W0 H):GL d P ops i Q n E W0 H:=by
  refine G3 ho hch hd hk (fun r hr hcb w _=>?_) k
  obtain ⟨h0,h1⟩:=hb hcb
  unfold execOp
  simp only [hop]
  rw [hr _ _ hx,hr _ _ hix]
  simp only [Instr.indexAt,asIntOf,Instr.sureAddr,Sem.run_bind,Sem.run_pure,Result.andThen_ok,run_underlying hu,if_pos (⟨h0,h1⟩:0≤j∧j<(len:Int)),H0 hsz,J1]
  exact ⟨rfl,rfl⟩
end Go.Sw
namespace Go.Esc
open Go.Lib
abbrev bk (l:List UInt8):ByteArray:=⟨l.toArray⟩
theorem I7 (l:List UInt8):(bk l).size=l.length:=by simp [ByteArray.size]
theorem bk_list (l:List UInt8):(bk l).data.toList=l:=rfl
def isR (p:Int):Prop:=0≤p∧p≤1114111∧(p<55296∨57343<p)
def runesF:Nat→List UInt8→List Int
  | 0,_=>[]
  | n+1,l=>if l=[] then [] else ((decodeL l).1:Int)::runesF n (l.drop (decodeL l).2)
def A4 (l:List UInt8):List Int:=runesF l.length l
def badL (l:List UInt8):Prop:=(decodeL l).1=65533∧(decodeL l).2=1
instance (l:List UInt8):Decidable (badL l):=by unfold badL; exact inferInstance
def ptsF:Nat→List UInt8→List Int
  | 0,_=>[]
  | n+1,l=>if l=[] then [] else (if badL l then -1 else ((decodeL l).1:Int))::ptsF n (l.drop (decodeL l).2)
def pts (l:List UInt8):List Int:=ptsF l.length l
theorem M1:∀ n,runesF n []=[]
  | 0=>rfl
  | _+1=>by simp [runesF]
theorem ptsF_nil:∀ n,ptsF n []=[]
  | 0=>rfl
  | _+1=>by simp [ptsF]
theorem runesF_fuel:∀ (n m:Nat) (l:List UInt8),l.length≤n→l.length≤m→runesF n l=runesF m l
  | 0,m,l,hn,_=>by
    have:l=[]:=List.eq_nil_of_length_eq_zero (by omega)
    subst this; rw [M1,M1]
  | n+1,0,l,_,hm=>by
    have:l=[]:=List.eq_nil_of_length_eq_zero (by omega)
    subst this; rw [M1,M1]
  | n+1,m+1,l,hn,hm=>by
    by_cases hne:l=[]
    · subst hne; rw [M1,M1]
    · have hw:=decodeL_width l
      have hl:0<l.length:=List.length_pos_iff.2 hne
      simp only [runesF,if_neg hne]
      rw [runesF_fuel n m _ (by rw [List.length_drop]; omega) (by rw [List.length_drop]; omega)]
theorem ptsF_fuel:∀ (n m:Nat) (l:List UInt8),l.length≤n→l.length≤m→ptsF n l=ptsF m l
  | 0,m,l,hn,_=>by
    have:l=[]:=List.eq_nil_of_length_eq_zero (by omega)
    subst this; rw [ptsF_nil,ptsF_nil]
  | n+1,0,l,_,hm=>by
    have:l=[]:=List.eq_nil_of_length_eq_zero (by omega)
    subst this; rw [ptsF_nil,ptsF_nil]
  | n+1,m+1,l,hn,hm=>by
    by_cases hne:l=[]
    · subst hne; rw [ptsF_nil,ptsF_nil]
    · have hw:=decodeL_width l
      have hl:0<l.length:=List.length_pos_iff.2 hne
      simp only [ptsF,if_neg hne]
      rw [ptsF_fuel n m _ (by rw [List.length_drop]; omega) (by rw [List.length_drop]; omega)]
theorem pts_nil:pts []=[]:=rfl
theorem runes_step (l:List UInt8) (hne:l≠[]):A4 l=((decodeL l).1:Int)::A4 (l.drop (decodeL l).2):=by
  have hw:=decodeL_width l
  have hl:0<l.length:=List.length_pos_iff.2 hne
  unfold A4
  obtain ⟨n,hn⟩:∃ n,l.length=n+1:=⟨l.length - 1,by omega⟩
  rw [hn]; simp only [runesF,if_neg hne]
  rw [runesF_fuel n (l.drop (decodeL l).2).length _ (by rw [List.length_drop]; omega) (Nat.le_refl _)]
theorem pts_step (l:List UInt8) (hne:l≠[]):pts l=(if badL l then -1 else ((decodeL l).1:Int))::pts (l.drop (decodeL l).2):=by
  have hw:=decodeL_width l
  have hl:0<l.length:=List.length_pos_iff.2 hne
  unfold pts
  obtain ⟨n,hn⟩:∃ n,l.length=n+1:=⟨l.length - 1,by omega⟩
  rw [hn]; simp only [ptsF,if_neg hne]
  rw [ptsF_fuel n (l.drop (decodeL l).2).length _ (by rw [List.length_drop]; omega) (Nat.le_refl _)]
theorem rune_ind {M:List UInt8→Prop} (h0:M []) (h1:∀ l,l≠[]→M (l.drop (decodeL l).2)→M l) (l:List UInt8):M l:=by
  suffices ∀ n (l:List UInt8),l.length≤n→M l from this l.length l (Nat.le_refl _)
  intro n
  induction n with
  | zero=>intro l hl; rw [List.eq_nil_of_length_eq_zero (by omega:l.length=0)]; exact h0
  | succ n ih =>
    intro l hl
    by_cases hne:l=[]
    · rw [hne]; exact h0
    · have:=List.length_pos_iff.2 hne
      have hw:=decodeL_width l
      exact h1 l hne (ih _ (by rw [List.length_drop]; omega))
def fixP (p:Int):Int:=if p<0 then 65533 else p
theorem runes_pts (l:List UInt8):A4 l=(pts l).map fixP:=by
  refine rune_ind (M:=fun l=>A4 l=(pts l).map fixP) rfl (fun l hne ih=>?_) l
  rw [runes_step l hne,pts_step l hne,List.map_cons,ih]
  congr 1
  unfold fixP
  split
  · rename_i h
    rw [if_pos (by decide)]
    show ((decodeL l).1:Int)=65533
    rw [h.1]; rfl
  · rw [if_neg (by omega)]
theorem decodeL_isR (l:List UInt8):isR ((decodeL l).1:Int):=by
  rw [decodeL_N]
  have k0:=(l.getD 0 0).toNat_lt
  have k1:=(l.getD 1 0).toNat_lt
  have k2:=(l.getD 2 0).toNat_lt
  have k3:=(l.getD 3 0).toNat_lt
  unfold isR
  rcases decodeN_shape l.length (l.getD 0 0).toNat (l.getD 1 0).toNat (l.getD 2 0).toNat (l.getD 3 0).toNat with ⟨c,e⟩ | ⟨c1,c2,c3,cv,e⟩ | ⟨c1,c2,c3,c4,cv,cs,e⟩ | ⟨c1,c2,c3,c4,c5,cv,cw,e⟩ | e
  all_goals (rw [e]; dsimp only; omega)
theorem K9 (l:List UInt8):∀ p∈A4 l,isR p:=by
  refine rune_ind (M:=fun l=>∀ p∈A4 l,isR p) (by intro p hp; cases hp) (fun l hne ih=>?_) l
  rw [runes_step l hne]
  intro p hp
  rcases List.mem_cons.1 hp with rfl | hp
  · exact decodeL_isR l
  · exact ih p hp
def encL (ps:List Int):List UInt8:=ps.flatMap encodeRune
theorem encL_nil:encL []=[]:=rfl
theorem M8 (p:Int) (ps:List Int):encL (p::ps)=encodeRune p++encL ps:=rfl
theorem encL_app (a b:List Int):encL (a++b)=encL a++encL b:=by simp [encL]
theorem byteZ (x:Int) (h0:0≤x) (h1:x<256):(x.toNat.toUInt8).toNat=x.toNat:=by
  rw [Nat.toUInt8,UInt8.toNat_ofNat']; exact Nat.mod_eq_of_lt (by omega)
theorem enc_one {p:Int} (h0:0≤p) (h1:p≤127):encodeRune p=[p.toNat.toUInt8]:=by unfold encodeRune; rw [encodeRuneZ_one h0 h1]; rfl
theorem decode_enc {p:Int} (h:isR p) (t:List UInt8):decodeL (encodeRune p++t)=(p.toNat,(encodeRune p).length)∧¬ badL (encodeRune p++t):=by
  unfold isR at h
  unfold badL
  rw [decodeL_N]
  unfold encodeRune
  by_cases h1:p≤127
  · rw [encodeRuneZ_one (by omega) h1]
    simp only [List.map_cons,List.map_nil,List.cons_append,List.nil_append,List.length_cons,List.length_nil,List.getD_cons_zero,List.getD_cons_succ]
    have e:decodeN (t.length+1) (p.toNat.toUInt8).toNat (t.getD 0 0).toNat (t.getD 1 0).toNat (t.getD 2 0).toNat=(p.toNat,1):=by
      rw [byteZ p (by omega) (by omega)]; unfold decodeN; rw [if_pos (by omega)]
    rw [e]; refine ⟨rfl,fun hh=>?_⟩; have:=hh.1; dsimp only at this; omega
  by_cases h2:p≤2047
  · rw [encodeRuneZ_two (by omega) h2]
    simp only [List.map_cons,List.map_nil,List.cons_append,List.nil_append,List.length_cons,List.length_nil,List.getD_cons_zero,List.getD_cons_succ]
    have e:decodeN (t.length+1+1) ((192+p / 64).toNat.toUInt8).toNat ((128+p % 64).toNat.toUInt8).toNat (t.getD 0 0).toNat (t.getD 1 0).toNat=(p.toNat,2):=by
      rw [byteZ _ (by omega) (by omega),byteZ _ (by omega) (by omega)]; unfold decodeN
      rw [if_neg (by omega),if_pos (by omega),if_pos (by omega)]
      exact Prod.ext (by dsimp only; omega) rfl
    rw [e]; refine ⟨rfl,fun hh=>?_⟩; have:=hh.2; dsimp only at this; omega
  by_cases h3:p≤65535
  · rw [encodeRuneZ_three (by omega)]
    simp only [List.map_cons,List.map_nil,List.cons_append,List.nil_append,List.length_cons,List.length_nil,List.getD_cons_zero,List.getD_cons_succ]
    have e:decodeN (t.length+1+1+1) ((224+p / 4096).toNat.toUInt8).toNat ((128+p / 64 % 64).toNat.toUInt8).toNat ((128+p % 64).toNat.toUInt8).toNat (t.getD 0 0).toNat=(p.toNat,3):=by
      rw [byteZ _ (by omega) (by omega),byteZ _ (by omega) (by omega),byteZ _ (by omega) (by omega)]; unfold decodeN
      rw [if_neg (by omega),if_neg (by omega),if_pos (by omega),if_pos (by omega)]
      exact Prod.ext (by dsimp only; omega) rfl
    rw [e]; refine ⟨rfl,fun hh=>?_⟩; have:=hh.2; dsimp only at this; omega
  · rw [encodeRuneZ_four (by omega) (by omega)]
    simp only [List.map_cons,List.map_nil,List.cons_append,List.nil_append,List.length_cons,List.length_nil,List.getD_cons_zero,List.getD_cons_succ]
    have e:decodeN (t.length+1+1+1+1) ((240+p / 262144).toNat.toUInt8).toNat ((128+p / 4096 % 64).toNat.toUInt8).toNat ((128+p / 64 % 64).toNat.toUInt8).toNat ((128+p % 64).toNat.toUInt8).toNat=(p.toNat,4):=by
      rw [byteZ _ (by omega) (by omega),byteZ _ (by omega) (by omega),byteZ _ (by omega) (by omega),byteZ _ (by omega) (by omega)]; unfold decodeN
      rw [if_neg (by omega),if_neg (by omega),if_neg (by omega),if_pos (by omega),if_pos (by omega)]
      exact Prod.ext (by dsimp only; omega) rfl
    rw [e]; refine ⟨rfl,fun hh=>?_⟩; have:=hh.2; dsimp only at this; omega
theorem enc_ne (p:Int) (t:List UInt8):encodeRune p++t≠[]:=by
  have:=(encodeRuneZ_length p).1
  intro h
  have:=congrArg List.length h
  simp only [encodeRune,List.length_append,List.length_map,List.length_nil] at this
  omega
theorem pts_enc1 {p:Int} (h:isR p) (t:List UInt8):pts (encodeRune p++t)=p::pts t:=by
  rw [pts_step _ (enc_ne p t),if_neg (decode_enc h t).2,(decode_enc h t).1]
  dsimp only
  rw [List.drop_left]
  congr 1
  have:=h.1; omega
theorem pts_enc:∀ {ps:List Int},(∀ p∈ps,isR p)→∀ t,pts (encL ps++t)=ps++pts t
  | [],_,t=>rfl
  | p::ps,h,t=>by rw [M8,List.append_assoc,pts_enc1 (h p List.mem_cons_self),pts_enc (fun q hq=>h q (List.mem_cons_of_mem _ hq)),List.cons_append]
theorem pts_enc0 {ps:List Int} (h:∀ p∈ps,isR p):pts (encL ps)=ps:=by
  have:=pts_enc h []; rwa [List.append_nil,pts_nil,List.append_nil] at this
def G9 (l:List UInt8):Bool:=(pts l).all fun p=>decide (0≤p)
theorem validP_D (l:List UInt8):G9 l=validD l:=by
  refine rune_ind (M:=fun l=>G9 l=validD l) rfl (fun l hne ih=>?_) l
  rw [validD_step l hne,← ih]
  unfold G9
  rw [pts_step l hne,List.all_cons]
  by_cases hb:badL l
  · rw [if_pos hb,if_pos (show _∧_ from hb)]; rfl
  · rw [if_neg hb,if_neg (show ¬ (_∧_) from hb),decide_eq_true (Int.natCast_nonneg _)]; rfl
theorem validP_enc {ps:List Int} (h:∀ p∈ps,isR p) (t:List UInt8):G9 (encL ps++t)=G9 t:=by
  unfold G9
  rw [pts_enc h,List.all_append,List.all_eq_true.2 (fun p hp=>decide_eq_true (h p hp).1),Bool.true_and]
end Go.Esc
namespace Go.Esc
def D3 (rep:UInt8→Option (List UInt8)) (l:List UInt8):List UInt8:=l.flatMap fun b=>(rep b).getD [b]
def gainR (rep:UInt8→Option (List UInt8)) (b:UInt8):Int:=match rep b with | some t=>(t.length:Int) - 1 | none=>0
theorem outR_nil (rep:UInt8→Option (List UInt8)):D3 rep []=[]:=rfl
theorem outR_cons (rep:UInt8→Option (List UInt8)) (b:UInt8) (l:List UInt8):D3 rep (b::l)=(rep b).getD [b]++D3 rep l:=rfl
theorem L7 (rep:UInt8→Option (List UInt8)) (l m:List UInt8):D3 rep (l++m)=D3 rep l++D3 rep m:=by simp [D3]
theorem gain_len (rep:UInt8→Option (List UInt8)) (b:UInt8):(((rep b).getD [b]).length:Int)=1+gainR rep b:=by
  unfold gainR
  cases rep b <;> simp; omega
theorem outR_len (rep:UInt8→Option (List UInt8)) (l:List UInt8):((D3 rep l).length:Int)=l.length+(l.map (gainR rep)).sum:=by
  induction l with
  | nil=>rfl
  | cons b l ih =>
    rw [outR_cons,List.length_append,Int.natCast_add,gain_len,ih]
    simp only [List.map_cons,List.sum_cons,List.length_cons]
    omega
theorem outR_same (rep:UInt8→Option (List UInt8)) (l:List UInt8) (h:∀ b∈l,rep b=none):D3 rep l=l:=by
  induction l with
  | nil=>rfl
  | cons b l ih =>
    rw [outR_cons,h b List.mem_cons_self,ih fun x hx=>h x (List.mem_cons_of_mem _ hx)]
    rfl
def B9 (b:UInt8):Option (List UInt8) :=
  if b=38 then some [38,97,109,112,59] else if b=60 then some [38,108,116,59] else if b=62 then some [38,103,116,59] else if b=34 then some [38,113,117,111,116,59] else if b=39 then some [38,35,51,57,59] else none
theorem htmlR_count (l:List UInt8):((D3 B9 l).length:Int)=l.length+(l.count 39:Int) * 4+(l.count 34:Int) * 5+(l.count 62:Int) * 3+(l.count 60:Int) * 3+(l.count 38:Int) * 4:=by
  rw [outR_len]
  induction l with
  | nil=>rfl
  | cons b l ih =>
    simp only [List.map_cons,List.sum_cons,List.length_cons,List.count_cons]
    have hg:gainR B9 b=(if (b==39)=true then 4 else 0)+(if (b==34)=true then 5 else 0)+(if (b==62)=true then 3 else 0)+(if (b==60)=true then 3 else 0)+(if (b==38)=true then 4 else 0):=by
      unfold gainR B9
      by_cases h1:b=38
      · subst h1; rfl
      by_cases h2:b=60
      · subst h2; rfl
      by_cases h3:b=62
      · subst h3; rfl
      by_cases h4:b=34
      · subst h4; rfl
      by_cases h5:b=39
      · subst h5; rfl
      simp [h1,h2,h3,h4,h5]
    rw [hg]
    split <;> split <;> split <;> split <;> split <;> omega
theorem htmlR_same (l:List UInt8) (h1:l.count 39=0) (h2:l.count 34=0) (h3:l.count 62=0) (h4:l.count 60=0) (h5:l.count 38=0):D3 B9 l=l:=by
  refine outR_same _ _ fun b hb=>?_
  unfold B9
  rw [List.count_eq_zero] at h1 h2 h3 h4 h5
  have n1:b≠39:=by rintro rfl; exact h1 hb
  have n2:b≠34:=by rintro rfl; exact h2 hb
  have n3:b≠62:=by rintro rfl; exact h3 hb
  have n4:b≠60:=by rintro rfl; exact h4 hb
  have n5:b≠38:=by rintro rfl; exact h5 hb
  rw [if_neg n5,if_neg n4,if_neg n3,if_neg n2,if_neg n1]
end Go.Esc
namespace Go.Esc
open Go.Lib
def unresI (x:Int):Bool:=(decide (97≤x)&&decide (x≤122))||(decide (65≤x)&&decide (x≤90))||(decide (48≤x)&&decide (x≤57))||decide (x=45)||decide (x=46)||decide (x=95)||decide (x=126)
def hexU (n:Nat):UInt8:=if n<10 then UInt8.ofNat (48+n) else UInt8.ofNat (55+n)
def hexl (n:Nat):UInt8:=if n<10 then UInt8.ofNat (48+n) else UInt8.ofNat (87+n)
def pcB (c:UInt8):List UInt8:=if unresI (c.toNat:Int) then [c] else [37,hexU (c.toNat / 16),hexU (c.toNat % 16)]
def percL (l:List UInt8):List UInt8:=l.flatMap pcB
def plainR (p:Int):Bool:=(decide (32≤p)&&(p != 65534)&&(p != 65535))||p==9||p==10||p==13
def D5 (l:List UInt8):List UInt8:=encL ((A4 l).filter plainR)
def fixL (l:List UInt8):List UInt8:=encL (A4 l)
def H8 (l:List UInt8):List UInt8:=D3 B9 (D5 l)
def L8 (p:Int):List UInt8 :=
  if p=38 then [38,97,109,112,59] else if p=60 then [38,108,116,59] else if p=62 then [38,103,116,59] else if p=34 then [38,113,117,111,116,59] else if p=39 then [38,35,51,57,59] else encodeRune p
def hex4 (n:Nat):List UInt8:=[hexl (n / 4096 % 16),hexl (n / 256 % 16),hexl (n / 16 % 16),hexl (n % 16)]
def I0 (p:Int):List UInt8 :=
  if p=34∨p=92 then 92::encodeRune p else if p=10 then [92,110] else if p=13 then [92,114] else if p=9 then [92,116]
  else if p<32∨p=127∨p=8232∨p=8233∨p=60∨p=62∨p=38 then 92::117::hex4 p.toNat else encodeRune p
def H5 (l:List UInt8):List UInt8:=34::((A4 l).flatMap I0++[34])
def digC (x:Int):Int:=if 48≤x∧x≤57 then x - 48 else if 97≤x∧x≤102 then x - 97+10 else if 65≤x∧x≤70 then x - 65+10 else -1
def J9 (x base:Int):Int:=if base≤digC x then -1 else digC x
def numV (base:Int):Int→List UInt8→Option Int
  | a,[]=>some a
  | a,c::t=>if J9 (c.toNat:Int) base<0 then none else numV base (base * a+J9 (c.toNat:Int) base) t
def isB (n:Int):Bool:=(decide (n ≥ 0)&&decide (n≤1114111))&&(decide (n<55296)||decide (n > 57343))
theorem isB_iff {n:Int}:isB n=true ↔ isR n:=by unfold isB isR; simp only [Bool.and_eq_true,Bool.or_eq_true,decide_eq_true_eq]; omega
theorem isBf_iff {n:Int}:isB n=false ↔ ¬ isR n:=by rw [← isB_iff,Bool.not_eq_true]
def G2 (t:List UInt8) (base:Int) (most:Nat):Int :=
  if t.length=0∨most<t.length then -1 else match numV base 0 t with
    | none=>-1
    | some n=>if n=0∨isB n=false then -1 else n
def refM (t:List UInt8):Int :=
  if t=[97,109,112] then 38 else if t=[108,116] then 60 else if t=[103,116] then 62 else if t=[113,117,111,116] then 34 else if t=[97,112,111,115] then 39
  else if t.take 2=[35,120] then G2 (t.drop 2) 16 6 else if t.take 2=[35,88] then G2 (t.drop 2) 16 6 else if t.take 1=[35] then G2 (t.drop 1) 10 7 else -1
def idxL (c:UInt8) (l:List UInt8):Nat:=l.findIdx (·==c)
def refC (l:List UInt8):Int × Nat:=let e:=idxL 59 l; if e<l.length then (refM (l.take e),e+1) else (-1,0)
def unF:Nat→List UInt8→List UInt8
  | 0,l=>l
  | _+1,[]=>[]
  | n+1,b::t=>if b≠38 then b::unF n t else if (refC t).1<0 then 38::unF n t else encodeRune (refC t).1++unF n (t.drop (refC t).2)
def unL (l:List UInt8):List UInt8:=unF l.length l
theorem unF_nil:∀ n,unF n []=[]
  | 0=>rfl
  | _+1=>rfl
theorem unF_fuel:∀ (n m:Nat) (l:List UInt8),l.length≤n→l.length≤m→unF n l=unF m l
  | _,_,[],_,_=>by rw [unF_nil,unF_nil]
  | 0,_,_::_,h,_=>by simp at h
  | _+1,0,_::_,_,h=>by simp at h
  | n+1,m+1,b::t,hn,hm=>by
    simp only [List.length_cons] at hn hm
    simp only [unF]
    rw [unF_fuel n m t (by omega) (by omega),unF_fuel n m (t.drop (refC t).2) (by rw [List.length_drop]; omega) (by rw [List.length_drop]; omega)]
theorem unL_nil:unL []=[]:=rfl
theorem unL_cons (b:UInt8) (t:List UInt8):unL (b::t)=if b≠38 then b::unL t else if (refC t).1<0 then 38::unL t else encodeRune (refC t).1++unL (t.drop (refC t).2):=by
  show unF (t.length+1) (b::t)=_
  simp only [unF]
  unfold unL
  rw [unF_fuel t.length (t.drop (refC t).2).length _ (by rw [List.length_drop]; omega) (Nat.le_refl _)]
theorem unL_app:∀ (p l:List UInt8),(∀ b∈p,b≠38)→unL (p++l)=p++unL l
  | [],l,_=>rfl
  | b::p,l,h=>by rw [List.cons_append,unL_cons,if_pos (h b List.mem_cons_self),unL_app p l (fun x hx=>h x (List.mem_cons_of_mem _ hx)),List.cons_append]
def C5 (l:List UInt8):Int:=if l.length<6∨l.take 2≠[92,117] then -1 else (numV 16 0 ((l.drop 2).take 4)).getD (-1)
def G5 (c:UInt8):Int:=if c=34 then 34 else if c=92 then 92 else if c=47 then 47 else if c=98 then 8 else if c=102 then 12 else if c=110 then 10 else if c=114 then 13 else if c=116 then 9 else -1
def F1 (l:List UInt8):Int × Nat :=
  if l.length<2 then (-1,0) else if 0≤G5 (l.getD 1 0) then (G5 (l.getD 1 0),2)
  else if 55296≤C5 l∧C5 l<56320 then (if C5 (l.drop 6)<56320∨57343<C5 (l.drop 6) then (-1,0) else (65536+(C5 l - 55296) * 1024+C5 (l.drop 6) - 56320,12))
  else if 56320≤C5 l∧C5 l<57344 then (-1,0) else (C5 l,6)
def ujF:Nat→List UInt8→Option (List UInt8)
  | 0,_=>some []
  | _+1,[]=>some []
  | n+1,c::t=>if c<32∨c=34 then none else if c≠92 then (ujF n t).map (c::·) else if (F1 (c::t)).1<0 then none else (ujF n ((c::t).drop (F1 (c::t)).2)).map (encodeRune (F1 (c::t)).1++·)
def ujL (l:List UInt8):Option (List UInt8):=ujF l.length l
end Go.Esc
namespace Go.Esc
open Go.Lib
theorem N4 (p:Int):1≤(encodeRune p).length∧(encodeRune p).length≤4:=by
  have:=encodeRuneZ_length p
  simpa [encodeRune] using this
theorem encL_len:∀ ps:List Int,(encL ps).length≤4 * ps.length
  | []=>Nat.le_refl _
  | p::ps=>by
    rw [M8,List.length_append,List.length_cons]
    have:=(N4 p).2
    have:=encL_len ps
    omega
theorem N6 (l:List UInt8):(A4 l).length≤l.length:=by
  refine rune_ind (M:=fun l=>(A4 l).length≤l.length) (Nat.le_refl _) (fun l hne ih=>?_) l
  have hl:=List.length_pos_iff.2 hne
  have hw:=decodeL_width l
  rw [runes_step l hne,List.length_cons]
  rw [List.length_drop] at ih
  omega
theorem plain_len (l:List UInt8):(D5 l).length≤4 * l.length:=by
  have h1:=encL_len ((A4 l).filter plainR)
  have h2:=List.length_filter_le plainR (A4 l)
  have h3:=N6 l
  unfold D5; omega
theorem jsonP_len (p:Int):(I0 p).length≤6:=by
  have:=(N4 p).2
  unfold I0 hex4
  (repeat' split) <;> (try simp only [List.length_cons,List.length_nil]) <;> omega
theorem flat_len {f:Int→List UInt8} {m:Nat} (hf:∀ p,(f p).length≤m):∀ ps:List Int,(ps.flatMap f).length≤m * ps.length
  | []=>Nat.le_refl _
  | p::ps=>by
    rw [List.flatMap_cons,List.length_append,List.length_cons,Nat.mul_succ]
    have:=hf p
    have:=flat_len hf ps
    omega
theorem json_len (l:List UInt8):(H5 l).length≤6 * l.length+2:=by
  have h1:=flat_len jsonP_len (A4 l)
  have h3:=N6 l
  unfold H5
  rw [List.length_cons,List.length_append,List.length_singleton]; omega
theorem pcB_len (b:UInt8):(pcB b).length≤3:=by unfold pcB; split <;> simp
theorem perc_len:∀ l:List UInt8,(percL l).length≤3 * l.length
  | []=>Nat.le_refl _
  | b::l=>by
    have:=pcB_len b
    have:=perc_len l
    rw [show percL (b::l)=pcB b++percL l from rfl,List.length_append,List.length_cons]; omega
theorem percL_cons (b:UInt8) (l:List UInt8):percL (b::l)=pcB b++percL l:=rfl
def litU:List UInt8:=[48,49,50,51,52,53,54,55,56,57,65,66,67,68,69,70]
theorem hexU_at:∀ n:Fin 256,litU[((n.val:Int) / 16).toNat]?.getD 0=hexU (n.val / 16)∧litU[((n.val:Int) % 16).toNat]?.getD 0=hexU (n.val % 16):=by decide +kernel
theorem pc_esc {b:UInt8} (h:unresI (b.toNat:Int)=false):pcB b=[37,litU[((b.toNat:Int) / 16).toNat]?.getD 0,litU[((b.toNat:Int) % 16).toNat]?.getD 0]:=by
  have:=hexU_at ⟨b.toNat,b.toNat_lt⟩
  dsimp only at this
  unfold pcB; rw [h,this.1,this.2]; rfl
theorem pc_same {b:UInt8} (h:unresI (b.toNat:Int)=true):pcB b=[b]:=by unfold pcB; rw [h]; rfl
theorem O3 (base a:Int):numV base a []=some a:=rfl
theorem H9 (base a:Int) (c:UInt8) (t:List UInt8):numV base a (c::t)=if J9 (c.toNat:Int) base<0 then none else numV base (base * a+J9 (c.toNat:Int) base) t:=rfl
theorem digC_rng (x:Int):-1≤digC x∧digC x≤15:=by unfold digC; (repeat' split) <;> omega
theorem digB_rng (x base:Int) (hb:0≤base):-1≤J9 x base∧(J9 x base<base):=by
  have:=digC_rng x
  unfold J9; split <;> omega
theorem G0 (l:List UInt8) {k:Nat} (h:k<l.length):l.drop k=l.getD k 0::l.drop (k+1):=by
  rw [List.drop_eq_getElem_cons h]; congr 1; simp [List.getD,h]
end Go.Esc
namespace Go.Sw
open Go.RowKit
theorem baEq {a b:ByteArray}:(a==b)=true ↔ a=b:=by
  constructor
  · intro h
    have h':(a.data==b.data)=true:=h
    cases a; cases b; simpa using h'
  · intro h
    subst h
    show (a.data==a.data)=true
    simp
theorem baNe {a b:ByteArray}:(a==b)=false ↔ a≠b:=by
  rw [← Bool.not_eq_true,ne_eq,baEq]
abbrev SM:=List (ByteArray × Value × Nat)
def mput:SM→Nat→ByteArray→Value→SM
  | [],c,k,v=>[(k,v,c)]
  | e::r,c,k,v=>if k==e.1 then (k,v,e.2.2)::r else e::mput r c k v
def mhas (m:SM) (k:ByteArray):Bool:=m.any fun e=>k==e.1
theorem Wr_setObj {P:Program} {w:World} {b:Nat} {o o':Obj} (h:w.heap[b]? = some o) (hc:(match o with | .cells ..=>false | _=>true)=true) :
    ∃ w',(setObj b o').run P w=.ok () w'∧Wr b o' w w':=by
  have hb:b<w.heap.size:=by
    rcases Nat.lt_or_ge b w.heap.size with h' | h'
    · exact h'
    · simp [Array.getElem?_eq_none h'] at h
  refine ⟨{ w with heap:=w.heap.setIfInBounds b o' },?_,rfl,rfl,rfl,by simp,by simp [hb],fun k hk=>?_⟩
  · simp only [setObj,Sem.run,h]
    cases o <;> simp at hc <;> rfl
  · show (w.heap.setIfInBounds b o')[k]? = _
    rw [Array.getElem?_setIfInBounds_ne (fun e=>hk e.symm)]
structure MapOk (m:SM) (c:Nat):Prop where
  keys:m.Pairwise fun x y=>(x.1==y.1)=false
  born:(m.map (·.2.2)).Nodup
  lt:∀ e,e∈m→e.2.2<c
theorem run_getObj_iter {P:Program} {w:World} {r:Nat} {o:Obj} (h:w.heap[r]? = some o) (hc:(match o with | .cells ..=>false | _=>true)=true):(getObj r).run P w=.ok o w:=by
  cases o <;> simp at hc <;> simp [getObj,Sem.run,h]
end Go.Sw
namespace Go.Sw
theorem N0 {d:Bool} {P:Program} {ops:Array Oper} {i:Nat} {Q:D9} {n:Fr} {E:Env} {W0:World} {H:List Grp} {o:Oper} {ch:List (Nat × Bool)} {c:Call} {fo:Operand} {f:FuncId} {vs:List Value}
    {fn:Func} {v:Value} {e:Array Value→Sem Value}
    (ho:ops[i]? = some o:=by exact rfl) (hop:o.op=.call c:=by exact rfl) (hce:c.callee=.value fo:=by exact rfl) (hfo:evO E ch fo=some (.func (.func f) #[] #[]):=by kernel_rfl) (hargs:evL (evO E ch) c.args.toList=some vs:=by kernel_rfl)
    (hf : P.funcs[f]? = some fn) (hrt : (fn.name == "runtime.NumGoroutine") = false := by kernel_rfl) (hbody : fn.body.isNone = true := by exact rfl) (hn : Extern.findNext fn = none := by kernel_rfl) (he : Extern.find fn = some e := by kernel_rfl)
    (hch:E3 ops E o.guard=some ch:=by kernel_rfl) (hd:F9 n ch o.dst=true:=by kernel_rfl) (hk:H7 E ch=true:=by kernel_rfl)
    (hrun:∀ w,(e vs.toArray).run P w=.ok v w)
    (k:GL d P ops (i+1) Q n (Env.put E o.dst ch v) W0 H):GL d P ops i Q n E W0 H:=by
  refine G3 ho hch hd hk (fun r hr hcb w hs=>?_) k
  have hrun':(execOp r o).run P w=.ok (.value v) w:=by
    unfold execOp
    simp only [hop]
    simp only [resolve,hce]
    rw [hr _ _ hfo,J0 hr hargs]
    simp only [Deferred.ofValue,Sem.run_bind,Sem.run_pure,Result.andThen_ok,invoke]
    have:=run_callFunc_extern hf hrt hbody hn he vs.toArray w
    simp only [Array.empty_append,Array.append_empty,this,hrun,Result.andThen_ok]
  rw [hrun']
  exact ⟨rfl,rfl⟩
def noB (s:ByteArray) (c:Int) (k:Nat):Prop:=∀ j:Nat,j<k→A5 s j≠c
theorem byteAt_get {s:ByteArray} {k:Nat} (h:k<s.size):A5 s k=((s[k]!).toNat:Int):=by
  unfold A5
  have e1:s[k]! = s[k]:=getElem!_pos s k h
  have e2:(s.data.toList)[((k:Nat):Int).toNat]? = some s[k]:=by
    rw [Int.toNat_natCast,List.getElem?_eq_getElem (by simpa using h)]; rfl
  rw [e1,e2]; rfl
def bIdx (s:ByteArray) (c:Int):Int:=firstIdx s c.toNat.toUInt8
theorem bIdx_spec (s:ByteArray) {c:Int} (h0:0≤c) (h1:c<256) :
    (∃ k:Nat,k<s.size∧bIdx s c=k∧A5 s k=c∧noB s c k)∨(bIdx s c=-1∧noB s c s.size):=by
  have hc:∀ b:UInt8,(b==c.toNat.toUInt8)=true ↔ ((b.toNat:Nat):Int)=c:=by
    intro b
    rw [beq_iff_eq]
    constructor
    · intro h; rw [h]; simp [Nat.toUInt8]; omega
    · intro h; apply UInt8.toNat_inj.1; simp [Nat.toUInt8]; omega
  unfold bIdx firstIdx
  cases hf:(List.range s.size).find? fun i=>s[i]! == c.toNat.toUInt8 with
  | none =>
    right
    refine ⟨rfl,fun j hj he=>?_⟩
    have:=List.find?_eq_none.1 hf j (List.mem_range.2 hj)
    rw [hc,← byteAt_get hj] at this
    exact this he
  | some k =>
    left
    have hk:=List.mem_range.1 (List.mem_of_find?_eq_some hf)
    refine ⟨k,hk,rfl,?_,fun j hj he=>?_⟩
    · have:=List.find?_some hf
      rw [byteAt_get hk]; exact (hc _).1 this
    · rw [List.find?_range_eq_some] at hf
      have:=hf.2.2 j hj
      rw [byteAt_get (by omega)] at he
      have h2:=(hc s[j]!).2 he
      simp [h2] at this
theorem size_extract (s:ByteArray) (a b:Nat):(s.extract a b).size=min b s.size - a:=by simp
end Go.Sw
namespace Go.Sw
open Go.RowKit
theorem mhas_false {m:SM} {k:ByteArray}:mhas m k=false ↔ ∀ e∈m,(k==e.1)=false:=by
  unfold mhas; rw [List.any_eq_false]
  constructor
  · intro h e he; simpa using h e he
  · intro h e he; simpa using h e he
theorem mput_new {m:SM} {k:ByteArray} (c:Nat) (v:Value) (h:mhas m k=false):mput m c k v=m++[(k,v,c)]:=by
  induction m with
  | nil=>rfl
  | cons e m ih =>
    rw [mhas_false] at h
    have h0:=h e List.mem_cons_self
    rw [mput,h0]
    simp only [Bool.false_eq_true,if_false]
    rw [ih (mhas_false.2 (fun x hx=>h x (List.mem_cons_of_mem _ hx)))]
    rfl
theorem mput_keys (m:SM) (c:Nat) (k:ByteArray) (v:Value) (h:mhas m k=true):(mput m c k v).map (fun e=>(e.2.2))=m.map (fun e=>(e.2.2))∧(mput m c k v).map Prod.fst=m.map Prod.fst:=by
  induction m with
  | nil=>cases h
  | cons e m ih =>
    rw [mput]
    cases hk:k==e.1
    · simp only [Bool.false_eq_true,if_false,List.map_cons]
      unfold mhas at h
      rw [List.any_cons,hk,Bool.false_or] at h
      obtain ⟨h1,h2⟩:=ih h
      exact ⟨by rw [h1],by rw [h2]⟩
    · simp only [if_true,List.map_cons,true_and]
      rw [baEq] at hk; rw [hk]
theorem pw_keys {m:SM}:(m.Pairwise fun x y=>(x.1==y.1)=false) ↔ (m.map Prod.fst).Nodup:=by
  rw [List.nodup_iff_pairwise_ne,List.pairwise_map]
  constructor
  · intro h; exact h.imp (fun h=>baNe.1 h)
  · intro h; exact h.imp (fun h=>baNe.2 h)
theorem MapOk.put {m:SM} {c:Nat} (h:MapOk m c) (k:ByteArray) (v:Value):MapOk (mput m c k v) (if mhas m k then c else c+1):=by
  cases hm:mhas m k with
  | true =>
    obtain ⟨h1,h2⟩:=mput_keys m c k v hm
    refine ⟨pw_keys.2 (by rw [h2]; exact pw_keys.1 h.keys),by rw [h1]; exact h.born,fun e he=>?_⟩
    have:e.2.2∈(mput m c k v).map (fun e=>e.2.2):=List.mem_map.2 ⟨e,he,rfl⟩
    rw [h1] at this
    obtain ⟨x,hx,hx2⟩:=List.mem_map.1 this
    have:=h.lt x hx
    simp only [if_true]; omega
  | false =>
    rw [mput_new c v hm]
    simp only [Bool.false_eq_true,if_false]
    rw [mhas_false] at hm
    refine ⟨?_,?_,?_⟩
    · rw [List.pairwise_append]
      refine ⟨h.keys,by simp,fun x hx y hy=>?_⟩
      rw [List.mem_singleton.1 hy]
      have:=hm x hx
      rw [baNe] at this ⊢
      exact fun e=>this e.symm
    · rw [List.map_append,List.nodup_append]
      refine ⟨h.born,by simp,?_⟩
      intro a ha b hb
      obtain ⟨x,hx,rfl⟩:=List.mem_map.1 ha
      simp only [List.map_cons,List.map_nil,List.mem_singleton] at hb
      have:=h.lt x hx
      omega
    · intro e he
      rcases List.mem_append.1 he with he | he
      · have:=h.lt e he; omega
      · rw [List.mem_singleton.1 he]; simp
end Go.Sw
namespace Go.Sw
open Go.RowKit
theorem GL_makeS {P:Program} {ops:Array Oper} {i:Nat} {Q:D9} {n:Fr} {E:Env} {W0:World} {H:List Grp} {o:Oper} {ch:List (Nat × Bool)} {t e:TypeId} {x y:Operand} {inf:TypeInfo} {z:Value} {l:Nat} {c:List Value}
    (ho:ops[i]? = some o) (hop:o.op=.makeSlice t x y) (hx:evO E ch x=some (.int .i64 (l:Int))) (hy:evO E ch y=some (.int .i64 (l:Int))) (ht:P.underlying t=some (.slice e)) (hi:P.info? e=some inf) (hz:inf.zero=some z)
    (hb:(inf.bytes:Int) * (l:Int)≤281474976710656) (hl:l≤9223372036854775807) (hm:l * inf.size≤16777216) (hc:madeCells z.cells (l * inf.size)=c.toArray)
    (hch:E3 ops E o.guard=some ch) (hd:F9 n ch o.dst=true) (hsure:I5 E ch=true)
    (k:∀ b,GL false P ops (i+1) Q n (Env.put E o.dst ch (.slice (some ⟨b,0,none⟩) l l)) W0 ([(b,.cells c.toArray e)]::H)):GL false P ops i Q n E W0 H :=
  GL_new (f:=fun b=>.slice (some ⟨b,0,none⟩) l l) ho hch hd hsure (fun r hr w=>by
    unfold execOp; simp only [hop]
    rw [hr _ _ hx,hr _ _ hy]
    have:=run_makeSlice (P:=P) w t e inf z ht hi hz .i64 .i64 (l:Int) (l:Int) (by omega) (Int.le_refl _) (by simpa using hm) hb (by omega)
    simp only [Int.toNat_natCast,hc] at this
    simp only [Sem.run_bind,this,Result.andThen_ok]
    rfl) k
theorem J2 {P:Program} {ops:Array Oper} {i:Nat} {Q:D9} {n:Fr} {E:Env} {W0:World} {H:List Grp} {o:Oper} {ch:List (Nat × Bool)} {src dst e:TypeId} {x:Operand} {s:ByteArray}
    (ho:ops[i]? = some o:=by exact rfl) (hop:o.op=.convert src dst x:=by exact rfl) (hx:evO E ch x=some (.string s):=by kernel_rfl) (hs':P.underlying src=some .string:=by kernel_rfl) (hds:P.underlying dst=some (.slice e):=by kernel_rfl) (he:P.underlying e=some (.int .u8):=by kernel_rfl)
    (hch:E3 ops E o.guard=some ch:=by kernel_rfl) (hd:F9 n ch o.dst=true:=by kernel_rfl) (hsure:I5 E ch=true:=by kernel_rfl)
    (k:∀ b cap g,s.size≤cap→Rd (inG g) (some ⟨b,0,none⟩) (u8s s.data.toList)→GL false P ops (i+1) Q n (Env.put E o.dst ch (.slice (some ⟨b,0,none⟩) s.size cap)) W0 (g::H)):GL false P ops i Q n E W0 H:=by
  refine GL_eff (R:=fun v H1=>∃ b cap g,v=.slice (some ⟨b,0,none⟩) s.size cap∧s.size≤cap∧Rd (inG g) (some ⟨b,0,none⟩) (u8s s.data.toList)∧H1=g::H) ho hch hd hsure (fun rr hr w hs=>?_) (by rintro v H1 ⟨b,cap,g,rfl,h1,h2,rfl⟩; exact k b cap g h1 h2)
  have hrun:=run_bytes_of_string (P:=P) w src dst e s hs' hds he
  refine ⟨_,w.drew.alloc (.cells (bytesRow s (grownCap w s.size 0 e)) e ((bytesRow s (grownCap w s.size 0 e)).size,(bytesRow s (grownCap w s.size 0 e)).size+1)),_,⟨w.heap.size,grownCap w s.size 0 e,_,rfl,by have:=grownCap_ge w s.size 0 e; omega,?_,rfl⟩,(hs.drew).new rfl rfl rfl rfl,.inl ?_⟩
  · refine .inr ⟨_,0,_,_,_,rfl,List.mem_singleton.2 rfl,fun j u hu=>?_⟩
    unfold u8s at hu
    rw [List.getElem?_map] at hu
    cases hj:s.data.toList[j]? with
    | none=>rw [hj] at hu; simp at hu
    | some b =>
      rw [hj] at hu
      simp only [Option.map_some,Option.some.injEq] at hu
      obtain ⟨hlt,hb⟩:=List.getElem?_eq_some_iff.1 hj
      have hlt':j<s.data.size:=by simpa using hlt
      rw [Nat.zero_add,bytesRow_at s _ j hlt',← hu,← hb]
      simp
  · unfold execOp
    simp only [hop]
    rw [hr _ _ hx]
    simp only [Sem.run_bind,Sem.run_pure,hrun,Result.andThen_ok]
end Go.Sw
namespace Go.Sw
theorem M3 {P:Program} {ops:Array Oper} {i:Nat} {Q:D9} {n:Fr} {E:Env} {W0:World} {H:List Grp} {o:Oper} {ch:List (Nat × Bool)} {c:Call} {fo:Operand} {f:FuncId} {vs:List Value} {R:Value→List Grp→Prop}
    (ho:ops[i]? = some o) (hop:o.op=.call c) (hce:c.callee=.value fo) (hfo:evO E ch fo=some (.func (.func f) #[] #[])) (hargs:evL (evO E ch) c.args.toList=some vs)
    (hch:E3 ops E o.guard=some ch) (hd:F9 n ch o.dst=true) (hsure:I5 E ch=true)
    (hrun:∀ w,Sat W0 H w→∃ v w' H',R v H'∧Sat W0 H' w'∧(callFunc f vs.toArray).run P w=.ok (.value v) w')
    (k:∀ v H',R v H'→GL false P ops (i+1) Q n (Env.put E o.dst ch v) W0 H'):GL false P ops i Q n E W0 H:=by
  refine GL_eff ho hch hd hsure (fun r hr w hs=>?_) k
  obtain ⟨v,w',H',hR,hs',hc⟩:=hrun w hs
  refine ⟨v,w',H',hR,hs',.inl ?_⟩
  unfold execOp
  simp only [hop]
  simp only [resolve,hce]
  rw [hr _ _ hfo,J0 hr hargs]
  simp only [Deferred.ofValue,Sem.run_bind,Sem.run_pure,Result.andThen_ok,invoke,Array.empty_append,Array.append_empty,hc]
theorem cell_in {W0:World} {H:List Grp} {w:World} {g:Grp} {j b off:Nat} {c:Array Value} {e:TypeId} {v:Value} (hs:Sat W0 H w) (hj:H[j]? = some g) (hi:g[0]? = some (b,.cells c e (0,0))) (hv:c[off]? = some v) :
    w.heap[b]? = some (.cells c e (0,0))∧w.cell? ⟨b,off,none⟩=some v∧w.frozen? ⟨b,off,none⟩=false∧off<c.size:=by
  have hblk:=hs.has _ (List.mem_flatten.2 ⟨g,List.mem_of_getElem? hj,List.mem_of_getElem? hi⟩)
  obtain ⟨hlt,he⟩:=Array.getElem?_eq_some_iff.1 hv
  refine ⟨hblk,L4 hblk (by simpa using hv),?_,hlt⟩
  simp only [World.frozen?,hblk]
  simp
theorem set_wr {w:World} {b off:Nat} {c:Array Value} {e:TypeId} {v:Value} (h:w.heap[b]? = some (.cells c e (0,0))):Wr b (.cells (c.setIfInBounds off v) e (0,0)) w (w.setCell ⟨b,off,none⟩ v):=by
  have hb:b<w.heap.size:=by
    rcases Nat.lt_or_ge b w.heap.size with h' | h'
    · exact h'
    · simp [Array.getElem?_eq_none h'] at h
  refine ⟨rfl,rfl,rfl,by simp,?_,fun k hk=>?_⟩
  · simp only [World.setCell,Array.getElem?_modify,↓reduceIte,h,Option.map_some]
    simp
  · simp only [World.setCell,Array.getElem?_modify]
    rw [if_neg (fun e=>hk e.symm)]
theorem GL_cas {P:Program} {ops:Array Oper} {i:Nat} {Q:D9} {n:Fr} {E:Env} {W0:World} {H H':List Grp} {o:Oper} {ch:List (Nat × Bool)} {c:Call} {fo:Operand} {f:FuncId} {fn:Func} {kd:IntKind} {b off j:Nat} {x y:Int} {cs:Array Value} {e:TypeId} {g:Grp}
    (ho:ops[i]? = some o) (hop:o.op=.call c) (hce:c.callee=.value fo) (hfo:evO E ch fo=some (.func (.func f) #[] #[])) (hargs:evL (evO E ch) c.args.toList=some [.pointer (some ⟨b,off,none⟩),.int kd x,.int kd y])
    (hf : P.funcs[f]? = some fn) (hrt : (fn.name == "runtime.NumGoroutine") = false) (hbody : fn.body.isNone = true) (hn : Extern.findNext fn = none) (he : Extern.find fn = some (Extern.Atomic.casT (.int kd)))
    (hch:E3 ops E o.guard=some ch) (hd:F9 n ch o.dst=true) (hsure:I5 E ch=true)
    (hj:H[j]? = some g) (hi:g[0]? = some (b,.cells cs e (0,0))) (hv:cs[off]? = some (.int kd x)) (hH':H.set j (g.set 0 (b,.cells (cs.setIfInBounds off (.int kd y)) e (0,0)))=H')
    (k:GL false P ops (i+1) Q n (Env.put E o.dst ch (.bool true)) W0 H'):GL false P ops i Q n E W0 H :=
  M3 (R:=fun v H1=>v=.bool true∧H1=H') ho hop hce hfo hargs hch hd hsure (fun w hs=>by
    obtain ⟨h1,h2,h3,_⟩:=cell_in hs hj hi hv
    refine ⟨_,_,H',⟨rfl,rfl⟩,?_,run_call_cas_hit hf hrt hbody hn kd he h2 h3⟩
    have:=hs.wr hj hi (set_wr (off:=off) (v:=.int kd y) h1)
    rw [hH'] at this; exact this) (by rintro v H1 ⟨rfl,rfl⟩; exact k)
theorem GL_atLoad {P:Program} {ops:Array Oper} {i:Nat} {Q:D9} {n:Fr} {E:Env} {W0:World} {H:List Grp} {o:Oper} {ch:List (Nat × Bool)} {c:Call} {fo:Operand} {f:FuncId} {fn:Func} {kd:IntKind} {b off j:Nat} {x:Int} {cs:Array Value} {e:TypeId} {g:Grp}
    (ho:ops[i]? = some o) (hop:o.op=.call c) (hce:c.callee=.value fo) (hfo:evO E ch fo=some (.func (.func f) #[] #[])) (hargs:evL (evO E ch) c.args.toList=some [.pointer (some ⟨b,off,none⟩)])
    (hf : P.funcs[f]? = some fn) (hrt : (fn.name == "runtime.NumGoroutine") = false) (hbody : fn.body.isNone = true) (hn : Extern.findNext fn = none) (he : Extern.find fn = some (Extern.Atomic.loadT (.int kd)))
    (hch:E3 ops E o.guard=some ch) (hd:F9 n ch o.dst=true) (hsure:I5 E ch=true)
    (hj:H[j]? = some g) (hi:g[0]? = some (b,.cells cs e (0,0))) (hv:cs[off]? = some (.int kd x))
    (k:GL false P ops (i+1) Q n (Env.put E o.dst ch (.int kd x)) W0 H):GL false P ops i Q n E W0 H :=
  M3 (R:=fun v H1=>v=.int kd x∧H1=H) ho hop hce hfo hargs hch hd hsure (fun w hs=>by
    obtain ⟨h1,h2,h3,_⟩:=cell_in hs hj hi hv
    exact ⟨_,_,H,⟨rfl,rfl⟩,hs,run_call_load hf hrt hbody hn kd he h2⟩) (by rintro v H1 ⟨rfl,rfl⟩; exact k)
theorem GL_atStore {P:Program} {ops:Array Oper} {i:Nat} {Q:D9} {n:Fr} {E:Env} {W0:World} {H H':List Grp} {o:Oper} {ch:List (Nat × Bool)} {c:Call} {fo:Operand} {f:FuncId} {fn:Func} {kd:IntKind} {b off j:Nat} {y:Int} {u:Value} {cs:Array Value} {e:TypeId} {g:Grp}
    (ho:ops[i]? = some o) (hop:o.op=.call c) (hce:c.callee=.value fo) (hfo:evO E ch fo=some (.func (.func f) #[] #[])) (hargs:evL (evO E ch) c.args.toList=some [.pointer (some ⟨b,off,none⟩),.int kd y])
    (hf : P.funcs[f]? = some fn) (hrt : (fn.name == "runtime.NumGoroutine") = false) (hbody : fn.body.isNone = true) (hn : Extern.findNext fn = none) (he : Extern.find fn = some Extern.Atomic.storeT)
    (hch:E3 ops E o.guard=some ch) (hd:F9 n ch o.dst=true) (hsure:I5 E ch=true)
    (hj:H[j]? = some g) (hi:g[0]? = some (b,.cells cs e (0,0))) (hv:cs[off]? = some u) (hH':H.set j (g.set 0 (b,.cells (cs.setIfInBounds off (.int kd y)) e (0,0)))=H')
    (k:GL false P ops (i+1) Q n (Env.put E o.dst ch (.tuple #[])) W0 H'):GL false P ops i Q n E W0 H :=
  M3 (R:=fun v H1=>v=.tuple #[]∧H1=H') ho hop hce hfo hargs hch hd hsure (fun w hs=>by
    obtain ⟨h1,h2,h3,_⟩:=cell_in hs hj hi hv
    refine ⟨_,_,H',⟨rfl,rfl⟩,?_,run_call_store hf hrt hbody hn he h2 h3⟩
    have:=hs.wr hj hi (set_wr (off:=off) (v:=.int kd y) h1)
    rw [hH'] at this; exact this) (by rintro v H1 ⟨rfl,rfl⟩; exact k)
theorem GL_atAdd {P:Program} {ops:Array Oper} {i:Nat} {Q:D9} {n:Fr} {E:Env} {W0:World} {H H':List Grp} {o:Oper} {ch:List (Nat × Bool)} {c:Call} {fo:Operand} {f:FuncId} {fn:Func} {kd:IntKind} {b off j:Nat} {x y s:Int} {cs:Array Value} {e:TypeId} {g:Grp}
    (ho:ops[i]? = some o) (hop:o.op=.call c) (hce:c.callee=.value fo) (hfo:evO E ch fo=some (.func (.func f) #[] #[])) (hargs:evL (evO E ch) c.args.toList=some [.pointer (some ⟨b,off,none⟩),.int kd y])
    (hf : P.funcs[f]? = some fn) (hrt : (fn.name == "runtime.NumGoroutine") = false) (hbody : fn.body.isNone = true) (hn : Extern.findNext fn = none) (he : Extern.find fn = some (Extern.Atomic.update (Op.intArith .add) kd true))
    (hch:E3 ops E o.guard=some ch) (hd:F9 n ch o.dst=true) (hsure:I5 E ch=true)
    (hj:H[j]? = some g) (hi:g[0]? = some (b,.cells cs e (0,0))) (hv:cs[off]? = some (.int kd x)) (hsum:∀ w,(Op.intArith .add kd x y).run P w=.ok (.int kd s) w) (hH':H.set j (g.set 0 (b,.cells (cs.setIfInBounds off (.int kd s)) e (0,0)))=H')
    (k:GL false P ops (i+1) Q n (Env.put E o.dst ch (.int kd s)) W0 H'):GL false P ops i Q n E W0 H :=
  M3 (R:=fun v H1=>v=.int kd s∧H1=H') ho hop hce hfo hargs hch hd hsure (fun w hs=>by
    obtain ⟨h1,h2,h3,_⟩:=cell_in hs hj hi hv
    refine ⟨_,_,H',⟨rfl,rfl⟩,?_,run_call_add hf hrt hbody hn kd he h2 h3 (hsum w)⟩
    have:=hs.wr hj hi (set_wr (off:=off) (v:=.int kd s) h1)
    rw [hH'] at this; exact this) (by rintro v H1 ⟨rfl,rfl⟩; exact k)
theorem GL_mark0 {P:Program} {ops:Array Oper} {i:Nat} {Q:D9} {n:Fr} {E:Env} {W0:World} {H:List Grp} {o:Oper} {ch:List (Nat × Bool)} {c:Call} {fo:Operand} {f:FuncId} {fn:Func} {m:Mark}
    (ho:ops[i]? = some o:=by exact rfl) (hop:o.op=.call c:=by exact rfl) (hce:c.callee=.value fo:=by exact rfl) (hfo:evO E ch fo=some (.func (.func f) #[] #[]):=by kernel_rfl) (hargs:evL (evO E ch) c.args.toList=some []:=by kernel_rfl)
    (hf : P.funcs[f]? = some fn) (hrt : (fn.name == "runtime.NumGoroutine") = false := by exact rfl) (hbody : fn.body.isNone = true := by exact rfl) (hn : Extern.findNext fn = none := by exact rfl) (he : Extern.find fn = some (fun _ => do mark m; pure Extern.Race.none_) := by exact rfl)
    (hch:E3 ops E o.guard=some ch:=by kernel_rfl) (hd:F9 n ch o.dst=true:=by kernel_rfl) (hsure:I5 E ch=true:=by kernel_rfl)
    (k:GL false P ops (i+1) Q n (Env.put E o.dst ch (.tuple #[])) W0 H):GL false P ops i Q n E W0 H :=
  M3 (R:=fun v H1=>v=.tuple #[]∧H1=H) ho hop hce hfo hargs hch hd hsure (fun w hs=>⟨_,_,H,⟨rfl,rfl⟩,hs,run_call_mark0 hf hrt hbody hn m he w⟩) (by rintro v H1 ⟨rfl,rfl⟩; exact k)
theorem GL_markA {P:Program} {ops:Array Oper} {i:Nat} {Q:D9} {n:Fr} {E:Env} {W0:World} {H:List Grp} {o:Oper} {ch:List (Nat × Bool)} {c:Call} {fo:Operand} {f:FuncId} {fn:Func} {m:Addr→Mark} {a:Addr}
    (ho:ops[i]? = some o) (hop:o.op=.call c) (hce:c.callee=.value fo) (hfo:evO E ch fo=some (.func (.func f) #[] #[])) (hargs:evL (evO E ch) c.args.toList=some [.pointer (some a)])
    (hf : P.funcs[f]? = some fn) (hrt : (fn.name == "runtime.NumGoroutine") = false) (hbody : fn.body.isNone = true) (hn : Extern.findNext fn = none) (he : Extern.find fn = some (Extern.Race.marked m))
    (hch:E3 ops E o.guard=some ch) (hd:F9 n ch o.dst=true) (hsure:I5 E ch=true)
    (k:GL false P ops (i+1) Q n (Env.put E o.dst ch (.tuple #[])) W0 H):GL false P ops i Q n E W0 H :=
  M3 (R:=fun v H1=>v=.tuple #[]∧H1=H) ho hop hce hfo hargs hch hd hsure (fun w hs=>⟨_,_,H,⟨rfl,rfl⟩,hs,run_call_marked hf hrt hbody hn m he a w⟩) (by rintro v H1 ⟨rfl,rfl⟩; exact k)
theorem GL_toUnsafeA {d:Bool} {P:Program} {ops:Array Oper} {i:Nat} {Q:D9} {n:Fr} {E:Env} {W0:World} {H:List Grp} {o:Oper} {ch:List (Nat × Bool)} {src dst t e:TypeId} {x:Operand} {b off:Nat} {c:Array Value} {fz:Nat × Nat} {v:Value}
    (ho:ops[i]? = some o) (hop:o.op=.convert src dst x) (hx:evO E ch x=some (.pointer (some ⟨b,off,none⟩))) (hs:P.underlying src=some (.pointer t)) (hdd:P.underlying dst=some .unsafePointer) (hsz:(P.info? t).map (fun i=>decide (i.size=0))=some false)
    (hch:E3 ops E o.guard=some ch) (hd:F9 n ch o.dst=true) (hk:H7 E ch=true)
    (hA:At W0 H b (.cells c e fz)) (hc:c[off]? = some v)
    (k:GL d P ops (i+1) Q n (Env.put E o.dst ch (.pointer (some ⟨b,off,none⟩))) W0 H):GL d P ops i Q n E W0 H:=by
  refine G3 ho hch hd hk (fun r hr _ w hsat=>?_) k
  unfold execOp
  simp only [hop]
  rw [hr _ _ hx]
  have:=run_convert_to_unsafe hs hdd hsz (a:=⟨b,off,none⟩) (w:=w) (L4 (hsat.at hA) (by simpa using hc))
  simp only [Sem.run_bind,this,Result.andThen_ok]
  exact ⟨rfl,rfl⟩
def TriD (P:Program) (f:FuncId) (args:Array Value) (W0:World) (H:List Grp) (R:Value→List Grp→Prop):Prop :=
  ∀ u w,Sat W0 H w→CallsD P f args u w fun e u' w'=>u'=u∧∃ v H',e=.returned v∧R v H'∧Sat W0 H' w'
theorem Tri_ofd {P:Program} {f:FuncId} {fn:Func} {c:Code} {args:List Value} {n:Fr} {W0:World} {H:List Grp} {R:Value→List Grp→Prop}
    (hf:P.funcs[f]? = some fn) (hb:fn.body=some c) (hn:fn.ntmps=n.k) (hle:args.length≤n.k)
    (k:G P c (Body P fn W0 R) n (argEnv 0 args) W0 H) (hz:n.dl=[]:=by rfl):TriD P f args.toArray W0 H R:=by
  intro u w hs
  refine callsD_of_wp hf hb (k _ w ?_ hs)
  refine ⟨by unfold Fr.ds; rw [hz],by simp [hn]; omega,fun u w=>match args[u]? with | some v=>L6 v==some w | none=>false,?_,?_⟩
  · intro s hs w
    obtain ⟨h1,h2,h3⟩:=K5 args 0 s hs
    simp only [Nat.sub_zero] at h3
    simp only [h3]
  · intro s hs
    obtain ⟨h1,h2,h3⟩:=K5 args 0 s hs
    simp only [Nat.sub_zero] at h3
    rw [h1]
    simp only [chT,List.all_nil,if_true]
    have hlt:s.t<args.length:=by
      rcases Nat.lt_or_ge s.t args.length with h | h
      · exact h
      · simp [List.getElem?_eq_none h] at h3
    rw [Array.getElem?_append_left (by simpa using hlt)]
    simpa using h3
def BodyD (P:Program) (fn:Func) (W0:World) (R:Value→List Grp→Prop):D9 :=
  bodyPostD P fn fun e w'=>∃ v H',e=.returned v∧R v H'∧Sat W0 H' w'
theorem Tri_ofDf {P:Program} {f:FuncId} {fn:Func} {c:Code} {args:List Value} {n:Fr} {W0:World} {H:List Grp} {R:Value→List Grp→Prop}
    (hf:P.funcs[f]? = some fn) (hb:fn.body=some c) (hn:fn.ntmps=n.k) (hle:args.length≤n.k)
    (k:G P c (BodyD P fn W0 R) n (argEnv 0 args) W0 H) (hz:n.dl=[]:=by rfl):Tri P f args.toArray W0 H R:=by
  intro w hs
  refine calls_of_wp_defers hf hb (k _ w ?_ hs)
  refine ⟨by unfold Fr.ds; rw [hz],by simp [hn]; omega,fun u w=>match args[u]? with | some v=>L6 v==some w | none=>false,?_,?_⟩
  · intro s hs w
    obtain ⟨h1,h2,h3⟩:=K5 args 0 s hs
    simp only [Nat.sub_zero] at h3
    simp only [h3]
  · intro s hs
    obtain ⟨h1,h2,h3⟩:=K5 args 0 s hs
    simp only [Nat.sub_zero] at h3
    rw [h1]
    simp only [chT,List.all_nil,if_true]
    have hlt:s.t<args.length:=by
      rcases Nat.lt_or_ge s.t args.length with h | h
      · exact h
      · simp [List.getElem?_eq_none h] at h3
    rw [Array.getElem?_append_left (by simpa using hlt)]
    simpa using h3
theorem GL_defer {P:Program} {ops:Array Oper} {i:Nat} {Q:D9} {n:Fr} {E:Env} {W0:World} {H:List Grp} {o:Oper} {c:Call} {fo:Operand} {f:FuncId} {vs:List Value}
    (ho:ops[i]? = some o) (hop:o.op=.defer c) (hce:c.callee=.value fo) (hfo:evO E [] fo=some (.func (.func f) #[] #[])) (hargs:evL (evO E []) c.args.toList=some vs)
    (hgd:o.guard=none) (hdst:o.dst=none)
    (k:GL false P ops (i+1) Q ⟨n.k,{ target:=.fn (.func f) #[],args:=vs.toArray }::n.dl⟩ E W0 H):GL false P ops i Q n E W0 H:=by
  have hi:i<ops.toList.length:=by
    rcases Nat.lt_or_ge i ops.size with h | h
    · simpa using h
    · simp [Array.getElem?_eq_none h] at ho
  have hdrop:ops.toList.drop i=o::ops.toList.drop (i+1):=by
    rw [List.drop_eq_getElem_cons hi]
    congr 1
    have hi':i<ops.size:=by simpa using hi
    rw [Array.getElem?_eq_getElem hi'] at ho
    simpa using ho
  intro a w ha hs
  rw [hdrop]
  obtain ⟨β,hβ,hat⟩:=ha.at_
  have hcT:chT β []=true:=rfl
  have hw:Region.wanted o (yielded ops a.tmps)=true:=by unfold Region.wanted; rw [hgd]
  unfold wpList
  rw [hw,if_pos rfl]
  left
  have hrun:(execOp a.eval o).run P w=.ok (.defer { target:=.fn (.func f) #[],args:=vs.toArray }) w:=by
    unfold execOp
    simp only [hop]
    simp only [resolve,hce]
    rw [G6 hat hcT hfo,J0 (fun x v=>G6 hat hcT) hargs]
    simp only [Deferred.ofValue,Sem.run_bind,Sem.run_pure,Result.andThen_ok,Array.empty_append]
  unfold Oper.wp
  rw [hrun,Oper.upon_defer,hdst]
  refine k _ _ ⟨?_,ha.size,β,hβ,hat⟩ hs
  show _::a.defers=_
  rw [ha.defers]; rfl
inductive LvD (P:Program) (W0:World):List Deferred→List Grp→List Grp→Prop
  | nil {H:List Grp}:LvD P W0 [] H H
  | cons {f : FuncId} {vs : List Value} {fn : Func} {ds : List Deferred} {H H1 H' : List Grp} (hf : P.funcs[f]? = some fn) (hrt : (fn.name == "runtime.NumGoroutine") = false) (hbody : fn.body.isNone = false)
      (hc:TriD P f vs.toArray W0 H (fun _ H2=>H2=H1)) (hr:LvD P W0 ds H1 H'):LvD P W0 ({ target:=.fn (.func f) #[],args:=vs.toArray }::ds) H H'
theorem LvD.leaves {P:Program} {W0:World} {fn:Func} {tmps:Array Value} {R':Ending→World→Prop} {ds:List Deferred} {H H':List Grp} (h:LvD P W0 ds H H') :
    ∀ w,Sat W0 H w→(∀ w',Sat W0 H' w'→∃ v,(results fn tmps).run P w'=.ok v w'∧R' (.returned v) w')→Leaves P fn tmps R' ds .returning w:=by
  induction h with
  | nil=>exact fun w hs hk=>hk w hs
  | cons hf hrt hbody hc hr ih =>
    intro w hs hk
    refine leaves_cons (by intro h; cases h) (f:=_) (args:=_) ?_ ((hc .returning w hs).mono ?_)
    · simp only [invoke,callFunc,Sem.run_bind,run_program,hf,hrt,hbody,Bool.false_eq_true,if_false,Array.append_empty,Result.andThen_ok,Sem.run_pure]
    · rintro e u' w' ⟨rfl,v,H2,rfl,rfl,hs'⟩
      exact ih w' hs' hk
theorem N_retD {P:Program} {fn:Func} {n:Fr} {E:Env} {W0:World} {H H':List Grp} {R:Value→List Grp→Prop} {x:Exit} (rs:List ResultVar) (l:List Value)
    (hr:fn.results=rs.toArray) (h:resV E rs=some l) (hx:(match x with | .normal=>true | .ret=>true | _=>false)=true) (hl:LvD P W0 n.dl H H') (k:R (packV l) H'):N (BodyD P fn W0 R) x n E W0 H:=by
  intro a w ha hs
  have key:Leaves P fn a.tmps (fun e w'=>∃ v H',e=.returned v∧R v H'∧Sat W0 H' w') a.defers .returning w:=by
    rw [ha.defers]
    exact hl.leaves w hs fun w' hs'=>⟨_,results_of ha h hr w',packV l,H',rfl,k,hs'⟩
  cases x <;> simp at hx
  · exact key
  · exact key
theorem GL_invoke {P:Program} {ops:Array Oper} {i:Nat} {Q:D9} {n:Fr} {E:Env} {W0:World} {H:List Grp} {o:Oper} {c:Call} {fo:Operand} {name:String} {t:TypeId} {rv:Value} {f:FuncId} {vs:List Value} {av:Array Value} {R:Value→List Grp→Prop}
    (ho:ops[i]? = some o) (hop:o.op=.call c) (hce:c.callee=.invoke fo name) (hfo:evO E [] fo=some (.iface t rv)) (hargs:evL (evO E []) c.args.toList=some vs)
    (hgd:o.guard=none) (hd:F9 n [] o.dst=true)
    (hm:∀ w,(callMethod (.iface t rv) name vs.toArray).run P w=.ok (.enter f av) w)
    (hc:Tri P f av W0 H R)
    (k:∀ v H',R v H'→GL false P ops (i+1) Q n (Env.put E o.dst [] v) W0 H'):GL false P ops i Q n E W0 H:=by
  have hi:i<ops.toList.length:=by
    rcases Nat.lt_or_ge i ops.size with h | h
    · simpa using h
    · simp [Array.getElem?_eq_none h] at ho
  have hdrop:ops.toList.drop i=o::ops.toList.drop (i+1):=by
    rw [List.drop_eq_getElem_cons hi]
    congr 1
    have hi':i<ops.size:=by simpa using hi
    rw [Array.getElem?_eq_getElem hi'] at ho
    simpa using ho
  intro a w ha hs
  rw [hdrop]
  obtain ⟨β,hβ,hat⟩:=ha.at_
  have hcT:chT β []=true:=rfl
  have hw:Region.wanted o (yielded ops a.tmps)=true:=by unfold Region.wanted; rw [hgd]
  unfold wpList
  rw [hw,if_pos rfl]
  left
  have hrun:(execOp a.eval o).run P w=.ok (.enter f av) w:=by
    unfold execOp
    simp only [hop]
    simp only [resolve,hce]
    rw [G6 hat hcT hfo,J0 (fun x v=>G6 hat hcT) hargs]
    simp only [Sem.run_bind,Sem.run_pure,Result.andThen_ok,invoke]
    have e1:((#[Value.iface t rv]++vs.toArray)[0]?)=some (.iface t rv):=by simp
    have e2:(#[Value.iface t rv]++vs.toArray).extract 1 (#[Value.iface t rv]++vs.toArray).size=vs.toArray:=by
      apply Array.ext'
      simp [List.extract_eq_take_drop]
    simp only [e1,e2,hm]
  unfold Oper.wp
  rw [hrun]
  refine (hc w hs).mono ?_
  rintro e w' ⟨v,H',rfl,hR,hs'⟩
  have hput:=Ag.put ha hβ hat hd v
  rw [if_pos hcT] at hput
  exact k v H' hR _ _ hput hs'
theorem GL_makeLC {P:Program} {ops:Array Oper} {i:Nat} {Q:D9} {n:Fr} {E:Env} {W0:World} {H:List Grp} {o:Oper} {ch:List (Nat × Bool)} {t e:TypeId} {x y:Operand} {inf:TypeInfo} {z:Value} {l m:Nat} {c:List Value}
    (ho:ops[i]? = some o) (hop:o.op=.makeSlice t x y) (hx:evO E ch x=some (.int .i64 (l:Int))) (hy:evO E ch y=some (.int .i64 (m:Int))) (ht:P.underlying t=some (.slice e)) (hi:P.info? e=some inf) (hz:inf.zero=some z)
    (hlm:l≤m) (hb:(inf.bytes:Int) * (m:Int)≤281474976710656) (hl:m≤9223372036854775807) (hm:m * inf.size≤16777216) (hc:madeCells z.cells (m * inf.size)=c.toArray)
    (hch:E3 ops E o.guard=some ch) (hd:F9 n ch o.dst=true) (hsure:I5 E ch=true)
    (k:∀ b,GL false P ops (i+1) Q n (Env.put E o.dst ch (.slice (some ⟨b,0,none⟩) l m)) W0 ([(b,.cells c.toArray e)]::H)):GL false P ops i Q n E W0 H :=
  GL_new (f:=fun b=>.slice (some ⟨b,0,none⟩) l m) ho hch hd hsure (fun r hr w=>by
    unfold execOp; simp only [hop]
    rw [hr _ _ hx,hr _ _ hy]
    have:=run_makeSlice (P:=P) w t e inf z ht hi hz .i64 .i64 (l:Int) (m:Int) (by omega) (by omega) (by simpa using hm) hb (by omega)
    simp only [Int.toNat_natCast,hc] at this
    simp only [Sem.run_bind,this,Result.andThen_ok]
    rfl) k
end Go.Sw
namespace Go.Proofs.YtbnfbffiehoapaaGreatDoor
open Go.Sw
def repG (b:Nat) (d s:Int) (r t:Value):Grp:=[(b,.cells #[.int .u32 d,.int .i32 s,.int .u32 0,r,t] 71 (0,0))]
theorem b32_  (W0:World) (H:List Grp):Tri Tryz.prog 92 #[.bool true] W0 H (fun v H'=>v=.int .u32 1∧H'=H):=by
 refine D1 (args:=[.bool true]) (n:=4) Tryz.func92 rfl rfl (Nat.le_of_ble_eq_true rfl) ?_
 refine A1 (B3 (E':=[⟨0,[],.bool true⟩]) [0] [0] (k:=?_))
 refine A0 (A1 ?_)
 refine A1 (B3 (E':=[⟨3,[],.bool true⟩]) [0] [3] (k:=?_))
 refine A0 (C6 kr ?_)
 refine A1 (B3 (E':=[⟨2,[],.int .u32 1⟩]) [0] [2] (k:=?_))
 refine A0 (B6 ?_)
 refine A3 (B5 [.tmp 2] [.int .u32 1] (k:=?_))
 exact ⟨rfl,rfl⟩
theorem bLoad0 (b:Nat) (r t:Value) (s:Int) (W0:World) (H:List Grp):Tri Tryz.prog 57 #[pt b] W0 ([(b,.cells #[.int .u32 0,.int .i32 s,.int .u32 0,r,t] 71 (0,0))]::H) (fun v H'=>v=.bool false∧H'=repG b 0 s r t::H):=by
 refine D1 (args:=[pt b]) (n:=8) Tryz.func57 rfl rfl (Nat.le_of_ble_eq_true rfl) ?_
 refine A1 (B3 (E':=[⟨0,[],pt b⟩]) [0] [0] (k:=?_))
 refine A0 (A1 ?_)
 refine A2 (A6 (j:=3) [0,0,0] (k:=?_))
 refine GL_atLoad (i:=3) (ch:=[]) (f:=73) (kd:=.u32) (b:=b) (off:=0) (j:=0) (x:=0) rfl rfl rfl kr kr Tryz.func73 rfl rfl rfl rfl kr kr kr rfl rfl rfl (B8 (E':=[⟨2,[],.bool false⟩]) [0,0] [2] (k:=?_))
 refine A0 (B6 ?_)
 refine B5 [.tmp 2] [.bool false] (k:=?_)
 exact ⟨rfl,rfl⟩
theorem mLock (b:Nat) (r t:Value) (d:Int) (W0:World) (H:List Grp):Tri Tryz.prog 89 #[.pointer (some ⟨b,1,none⟩)] W0 ([(b,.cells #[.int .u32 d,.int .i32 0,.int .u32 0,r,t] 71 (0,0))]::H) (fun _ H'=>H'=repG b d 1 r t::H):=by
 refine D1 (args:=[.pointer (some ⟨b,1,none⟩)]) (n:=13) Tryz.func89 rfl rfl (Nat.le_of_ble_eq_true rfl) ?_
 refine A1 (A2 ?_)
 refine GL_mark0 (ch:=[]) (f:=107) (hf:=Tryz.func107) (k:=B8 (E':=[⟨0,[],.pointer (some ⟨b,1,none⟩)⟩]) [] [0] (k:=?_))
 refine A0 (A1 ?_)
 refine A1 (A2 ?_)
 refine A6 (j:=3) [0,0,0] (k:=GL_cas (H':=([(b,.cells #[.int .u32 d,.int .i32 1,.int .u32 0,r,t] 71 (0,0))]::H)) (i:=3) (ch:=[]) (f:=108) (kd:=.i32) (b:=b) (off:=1) (j:=0) (x:=0) (y:=1) rfl rfl rfl kr kr Tryz.func108 rfl rfl rfl rfl kr kr kr rfl rfl rfl rfl ?_)
 refine B0 [] [0,6] (k:=A0 ?_)
 refine C6 kr (A1 ?_)
 refine C6 kr (A1 ?_)
 refine A2 (GL_mark0 (ch:=[]) (f:=109) (hf:=Tryz.func109) (k:=?_))
 refine B8 (E':=[⟨0,[],.pointer (some ⟨b,1,none⟩)⟩]) [] [0] (k:=A0 ?_)
 refine A2 (A6 (j:=1) [0] (k:=?_))
 refine GL_toUnsafeA (i:=1) (ch:=[]) (t:=63) (e:=71) (b:=b) (off:=1) (v:=.int .i32 1) rfl rfl kr kr kr kr kr kr kr (At.grp 0 0 rfl rfl) rfl (GL_markA (i:=2) (ch:=[]) (f:=110) (a:=⟨b,1,none⟩) rfl rfl rfl kr kr Tryz.func110 rfl rfl rfl rfl kr kr kr ?_)
 refine B8 (E':=[]) [] [] (k:=A0 ?_)
 refine B6 (A3 ?_)
 refine B5 [] [] (k:=?_)
 exact rfl
theorem muLock (b:Nat) (r t:Value) (d:Int) (W0:World) (H:List Grp):Tri Tryz.prog 74 #[.pointer (some ⟨b,1,none⟩)] W0 ([(b,.cells #[.int .u32 d,.int .i32 0,.int .u32 0,r,t] 71 (0,0))]::H) (fun _ H'=>H'=repG b d 1 r t::H):=by
 refine D1 (args:=[.pointer (some ⟨b,1,none⟩)]) (n:=6) Tryz.func74 rfl rfl (Nat.le_of_ble_eq_true rfl) ?_
 refine A2 (A6 (j:=3) [0,0,0] (k:=?_))
 refine F2 Tryz.func89 (mLock b (r) (t) d _ _) ?_
 rintro _ _ rfl
 refine B8 (E':=[]) [] [] (k:=B5 [] [] (k:=?_))
 exact rfl
theorem mUnlock (b:Nat) (r t:Value) (d:Int) (W0:World) (H:List Grp):Tri Tryz.prog 90 #[.pointer (some ⟨b,1,none⟩)] W0 ([(b,.cells #[.int .u32 d,.int .i32 1,.int .u32 0,r,t] 71 (0,0))]::H) (fun _ H'=>H'=repG b d 0 r t::H):=by
 refine D1 (args:=[.pointer (some ⟨b,1,none⟩)]) (n:=21) Tryz.func90 rfl rfl (Nat.le_of_ble_eq_true rfl) ?_
 refine A1 (C6 kr ?_)
 refine A1 (A2 ?_)
 refine A6 (j:=3) [0,0,0] (k:=E9 (ch:=[]) (b:=b) (off:=1) (v:=.int .i32 1) (hA:=At.grp 0 0 rfl rfl) (hv:=rfl) (k:=?_))
 refine B8 (E':=[⟨0,[],.pointer (some ⟨b,1,none⟩)⟩]) [] [0] (k:=A0 ?_)
 refine A1 (A2 ?_)
 refine A6 (j:=1) [0] (k:=GL_toUnsafeA (i:=1) (ch:=[]) (t:=63) (e:=71) (b:=b) (off:=1) (v:=.int .i32 1) rfl rfl kr kr kr kr kr kr kr (At.grp 0 0 rfl rfl) rfl ?_)
 refine GL_markA (i:=2) (ch:=[]) (f:=112) (a:=⟨b,1,none⟩) rfl rfl rfl kr kr Tryz.func112 rfl rfl rfl rfl kr kr kr (B8 (E':=[⟨0,[],.pointer (some ⟨b,1,none⟩)⟩]) [] [0] (k:=?_))
 refine A0 (A2 ?_)
 refine GL_mark0 (ch:=[]) (f:=107) (hf:=Tryz.func107) (k:=B8 (E':=[⟨0,[],.pointer (some ⟨b,1,none⟩)⟩]) [] [0] (k:=?_))
 refine A0 (A1 ?_)
 refine A2 (A6 (j:=3) [0,0,0] (k:=?_))
 refine GL_atAdd (H':=([(b,.cells #[.int .u32 d,.int .i32 0,.int .u32 0,r,t] 71 (0,0))]::H)) (i:=3) (ch:=[]) (f:=113) (kd:=.i32) (b:=b) (off:=1) (j:=0) (x:=1) (y:=(-1)) (s:=0) rfl rfl rfl kr kr Tryz.func113 rfl rfl rfl rfl kr kr kr rfl rfl rfl (fun _=>rfl) rfl (B0 [0] [0,2] (k:=?_))
 refine A0 (A1 ?_)
 refine A1 (G_p [0,0] [0,2,16] (k:=?_))
 refine A0 (D7 kr ?_)
 refine A7 (A0 ?_)
 refine A2 (GL_mark0 (ch:=[]) (f:=109) (hf:=Tryz.func109) (k:=?_))
 refine B8 (E':=[]) [] [] (k:=B5 [] [] (k:=?_))
 exact rfl
theorem muUnlockD (b:Nat) (r t:Value) (d:Int) (W0:World) (H:List Grp):TriD Tryz.prog 75 #[.pointer (some ⟨b,1,none⟩)] W0 ([(b,.cells #[.int .u32 d,.int .i32 1,.int .u32 0,r,t] 71 (0,0))]::H) (fun _ H'=>H'=repG b d 0 r t::H):=by
 refine Tri_ofd (args:=[.pointer (some ⟨b,1,none⟩)]) (n:=6) Tryz.func75 rfl rfl (Nat.le_of_ble_eq_true rfl) ?_
 refine A2 (A6 (j:=3) [0,0,0] (k:=?_))
 refine F2 Tryz.func90 (mUnlock b (r) (t) d _ _) ?_
 rintro _ _ rfl
 refine B8 (E':=[]) [] [] (k:=B5 [] [] (k:=?_))
 exact rfl
theorem bStoreD (b:Nat) (r t:Value) (s:Int) (W0:World) (H:List Grp):TriD Tryz.prog 76 #[pt b,.bool true] W0 ([(b,.cells #[.int .u32 0,.int .i32 s,.int .u32 0,r,t] 71 (0,0))]::H) (fun _ H'=>H'=repG b 1 s r t::H):=by
 refine Tri_ofd (args:=[pt b,.bool true]) (n:=10) Tryz.func76 rfl rfl (Nat.le_of_ble_eq_true rfl) ?_
 refine G_regionH H kr (GH_p (fuel:=5) [(0,0)] (fun w h=>(h.erase 0)) (k:=?_))
 refine GH_nil (ad:=⟨b,0,none⟩) 1 (hL:=(fun w h=>(h.erase 0))) (k:=GH_p (fuel:=2) [(2,0),(3,0)] (fun w h=>(h.erase 0)) (k:=?_))
 refine GH_eff 4 (k:=G4 Tryz.func92 (b32_ _ _) ?_)
 refine GH_back kr (fun w h=>(h.erase 0)) (GH_eff 5 (k:=?_))
 refine GL_atStore (H':=([(b,.cells #[.int .u32 1,.int .i32 s,.int .u32 0,r,t] 71 (0,0))]::H)) (i:=5) (ch:=[]) (f:=91) (kd:=.u32) (b:=b) (off:=0) (j:=0) (y:=1) rfl rfl rfl kr kr Tryz.func91 rfl rfl rfl rfl kr kr kr rfl rfl rfl rfl (GH_back kr (fun w h=>(h.erase 0)) ?_)
 refine GH_done (E':=[]) [] (k:=B5 [] [] (k:=?_))
 exact rfl
theorem doSlow_ (b:Nat) (r t t2:Value) (K:List Grp) (S:Value→List Grp→Prop) (hb:∀ W0 H,Tri Tryz.prog 42 #[pt b] W0 (repG b 0 1 r t::(K++H)) (fun _ H'=>∃ r2 K2,S r2 K2∧H'=repG b 0 1 r2 t2::(K2++H))) (W0:World) (H:List Grp):Tri Tryz.prog 58 #[pt b,.func (.func 42) #[pt b] #[]] W0 ([(b,.cells #[.int .u32 0,.int .i32 0,.int .u32 0,r,t] 71 (0,0))]::(K++H)) (fun _ H'=>∃ r2 K2,S r2 K2∧H'=repG b 1 0 r2 t2::(K2++H)):=by
 refine Tri_ofDf (args:=[pt b,.func (.func 42) #[pt b] #[]]) (n:=21) Tryz.func58 rfl rfl (Nat.le_of_ble_eq_true rfl) ?_
 refine A1 (A2 ?_)
 refine A6 (j:=3) [0,0,0] (k:=F2 Tryz.func74 (muLock b (r) (t) 0 _ _) ?_)
 rintro _ _ rfl
 refine B0 [] [0,1] (k:=A0 ?_)
 refine A1 (A2 ?_)
 refine A6 (j:=3) [0,0,0] (k:=GL_defer (i:=3) (f:=75) (vs:=[.pointer (some ⟨b,1,none⟩)]) rfl rfl rfl kr kr rfl rfl ?_)
 refine B0 [] [0,1] (k:=A0 ?_)
 refine A1 (A2 ?_)
 refine A6 (j:=3) [0,0,0] (k:=F2 Tryz.func57 (bLoad0 b (r) (t) 1 _ _) ?_)
 rintro _ _ ⟨rfl,rfl⟩
 refine B0 [0] [0,1,15] (k:=A0 ?_)
 refine C6 kr (A1 ?_)
 refine A2 (A6 (j:=3) [0,0,0] (k:=?_))
 refine GL_defer (i:=3) (f:=76) (vs:=[pt b,.bool true]) rfl rfl rfl kr kr rfl rfl (B8 (E':=[⟨1,[],.func (.func 42) #[pt b] #[]⟩]) [] [1] (k:=?_))
 refine A0 (A2 ?_)
 refine A6 (j:=1) [0] (k:=GL_call (ch:=[]) (f:=42) (fst:=#[pt b]) (caps:=#[]) (vs:=[]) (hf:=Tryz.func42) (hsure:=chSure_of kr) (hc:=hb _ _) (k:=?_))
 rintro _ _ ⟨r2,K2,hS,rfl⟩
 refine B8 (E':=[]) [] [] (k:=N_retD [] [] rfl kr rfl (.cons Tryz.func76 rfl rfl (bStoreD b r2 t2 1 _ _) (.cons Tryz.func75 rfl rfl (muUnlockD b r2 t2 1 _ _) .nil)) ?_)
 exact ⟨_,_,hS,rfl⟩
theorem onceDo_ (b:Nat) (r t t2:Value) (K:List Grp) (S:Value→List Grp→Prop) (hb:∀ W0 H,Tri Tryz.prog 42 #[pt b] W0 (repG b 0 1 r t::(K++H)) (fun _ H'=>∃ r2 K2,S r2 K2∧H'=repG b 0 1 r2 t2::(K2++H))) (W0:World) (H:List Grp):Tri Tryz.prog 41 #[pt b,.func (.func 42) #[pt b] #[]] W0 ([(b,.cells #[.int .u32 0,.int .i32 0,.int .u32 0,r,t] 71 (0,0))]::(K++H)) (fun _ H'=>∃ r2 K2,S r2 K2∧H'=repG b 1 0 r2 t2::(K2++H)):=by
 refine D1 (args:=[pt b,.func (.func 42) #[pt b] #[]]) (n:=12) Tryz.func41 rfl rfl (Nat.le_of_ble_eq_true rfl) ?_
 refine A1 (A2 ?_)
 refine A6 (j:=3) [0,0,0] (k:=F2 Tryz.func57 (bLoad0 b (r) (t) 0 _ _) ?_)
 rintro _ _ ⟨rfl,rfl⟩
 refine B0 [0] [0,1,8] (k:=A0 ?_)
 refine C6 kr (A2 ?_)
 refine A6 (j:=2) [0,0] (k:=F2 Tryz.func58 (doSlow_ b r t t2 K S hb _ _) ?_)
 rintro _ _ ⟨r2,K2,hS,rfl⟩
 refine B8 (E':=[]) [] [] (k:=B5 [] [] (k:=?_))
 exact ⟨_,_,hS,rfl⟩
end Go.Proofs.YtbnfbffiehoapaaGreatDoor
namespace Go.Proofs.YtbnfbffiehoapaaGreatDoor
open Go.Sw
theorem own_nilE {et:TypeId} {sz:Nat} {v:Value} {g:Grp} {m:Nat} {cs:List Value} (h:Go.Sw.Own et sz v g (0+m) ([]++cs)):Go.Sw.Own et sz v g m cs:=by rw [Nat.zero_add,List.nil_append] at h; exact h
def H6:List Value:=[.string (ByteArray.mk #[38]),.string (ByteArray.mk #[38,97,109,112,59]),.string (ByteArray.mk #[60]),.string (ByteArray.mk #[38,108,116,59]),.string (ByteArray.mk #[62]),.string (ByteArray.mk #[38,103,116,59]),.string (ByteArray.mk #[34]),.string (ByteArray.mk #[38,113,117,111,116,59]),.string (ByteArray.mk #[39]),.string (ByteArray.mk #[38,35,51,57,59])]
theorem newRep_ (v:Nat) (W0:World) (H:List Grp):Tri Tryz.prog 23 #[.slice (some ⟨v,0,none⟩) 10 10] W0 ([(v,.cells #[.string (ByteArray.mk #[38]),.string (ByteArray.mk #[38,97,109,112,59]),.string (ByteArray.mk #[60]),.string (ByteArray.mk #[38,108,116,59]),.string (ByteArray.mk #[62]),.string (ByteArray.mk #[38,103,116,59]),.string (ByteArray.mk #[34]),.string (ByteArray.mk #[38,113,117,111,116,59]),.string (ByteArray.mk #[39]),.string (ByteArray.mk #[38,35,51,57,59])] 9 (0,0))]::H) (fun x H'=>∃ b a cap g,x=pt b∧Go.Sw.Own 9 1 (.slice a 10 cap) g 10 H6∧H'=repG b 0 0 .nilIface (.slice a 10 cap)::g::[(v,.cells #[.string (ByteArray.mk #[38]),.string (ByteArray.mk #[38,97,109,112,59]),.string (ByteArray.mk #[60]),.string (ByteArray.mk #[38,108,116,59]),.string (ByteArray.mk #[62]),.string (ByteArray.mk #[38,103,116,59]),.string (ByteArray.mk #[34]),.string (ByteArray.mk #[38,113,117,111,116,59]),.string (ByteArray.mk #[39]),.string (ByteArray.mk #[38,35,51,57,59])] 9 (0,0))]::H):=by
 refine D1 (args:=[.slice (some ⟨v,0,none⟩) 10 10]) (n:=12) Tryz.func23 rfl rfl (Nat.le_of_ble_eq_true rfl) ?_
 refine A1 (G_p [0] [0] (k:=?_))
 refine A0 (A1 ?_)
 refine A1 (A2 ?_)
 refine A6 (j:=3) [0,0,0] (k:=?_)
 have hw1:Int.tmod 10 2=10 % 2:=r64 (by omega)
 refine GL_w 5 hw1 kr (B0 [0] [0,6] (k:=?_))
 refine A0 (B1 (b:=(10 % 2)==1) kr (fun hc2=>?_) (fun hc2=>?_))
 ·
  exact absurd hc2 (by decide)
 ·
  skip
  refine A7 (A0 ?_)
  refine A1 (A2 ?_)
  refine A6 (j:=1) [0] (k:=GL_heap rfl (H':=([]::[(v,.cells #[.string (ByteArray.mk #[38]),.string (ByteArray.mk #[38,97,109,112,59]),.string (ByteArray.mk #[60]),.string (ByteArray.mk #[38,108,116,59]),.string (ByteArray.mk #[62]),.string (ByteArray.mk #[38,103,116,59]),.string (ByteArray.mk #[34]),.string (ByteArray.mk #[38,113,117,111,116,59]),.string (ByteArray.mk #[39]),.string (ByteArray.mk #[38,35,51,57,59])] 9 (0,0))]::H)) (fun w h=>h.flat (List.Perm.refl _)) ?_)
  refine F3 (i:=1) (ch:=[]) (t:=55) (tx:=55) (e:=9) (inf:=Tryz.t9) (s:=.slice none 0 0) (x:=.slice (some ⟨v,0,none⟩) 10 10) (n:=0) (m:=10) (j:=0) (cs:=[]) (news:=[.string (ByteArray.mk #[38]),.string (ByteArray.mk #[38,97,109,112,59]),.string (ByteArray.mk #[60]),.string (ByteArray.mk #[38,108,116,59]),.string (ByteArray.mk #[62]),.string (ByteArray.mk #[38,103,116,59]),.string (ByteArray.mk #[34]),.string (ByteArray.mk #[38,113,117,111,116,59]),.string (ByteArray.mk #[39]),.string (ByteArray.mk #[38,35,51,57,59])]) (g:=[]) (S:=(inG [(v,.cells #[.string (ByteArray.mk #[38]),.string (ByteArray.mk #[38,97,109,112,59]),.string (ByteArray.mk #[60]),.string (ByteArray.mk #[38,108,116,59]),.string (ByteArray.mk #[62]),.string (ByteArray.mk #[38,103,116,59]),.string (ByteArray.mk #[34]),.string (ByteArray.mk #[38,113,117,111,116,59]),.string (ByteArray.mk #[39]),.string (ByteArray.mk #[38,35,51,57,59])] 9 (0,0))])) rfl rfl rfl rfl kr kr kr rfl rfl (.inl ⟨9,kr⟩) (fun ⟨_,h⟩=>by cases h) (fun _=>⟨9,kr⟩) kr kr kr rfl Go.Sw.Own.nil (SrcOf.slice _ _ _ _ Rd.lit (fun h=>by cases h)) (D2 1 rfl) kr (by intro u hu; simp only [List.mem_cons,List.not_mem_nil,or_false] at hu; rcases hu with rfl | rfl | rfl | rfl | rfl | rfl | rfl | rfl | rfl | rfl <;> rfl) (by omega) (by show (0+10) * 16≤140737488355328; omega) (fun v3 g4 hO5=>?_)
  replace hO5:=own_nilE hO5
  obtain ⟨a6,cap7,rfl,hcap8,hrd9⟩:=hO5.shape
  refine A6 (j:=3) [0] (k:=GL_box (i:=3) (ch:=[]) (v:=.agg #[.int .u32 0,.int .i32 0,.int .u32 0,.nilIface,.slice a6 10 cap7]) rfl rfl kr kr kr kr (fun b10=>?_))
  refine B8 (E':=[⟨2,[],pt b10⟩]) [0] [2] (k:=A0 ?_)
  refine B6 (B5 [.tmp 2] [pt b10] (k:=?_))
  exact ⟨_,_,_,_,rfl,hO5,rfl⟩
end Go.Proofs.YtbnfbffiehoapaaGreatDoor
namespace Go.Sw
theorem frozen_end {w:World} {b:Nat} {c:Array Value} {e:TypeId} (h:w.heap[b]? = some (.cells c e (0,0))):Wr b (.cells c e (c.size,c.size+1)) w (w.freeze ⟨b,c.size,none⟩ 1):=by
  have hlt:b<w.heap.size:=by
    rcases Nat.lt_or_ge b w.heap.size with h' | h'
    · exact h'
    · rw [Array.getElem?_eq_none h'] at h; cases h
  have hb:w.heap[b]=.cells c e (0,0):=by rw [Array.getElem?_eq_getElem hlt] at h; exact Option.some.inj h
  unfold World.freeze
  rw [if_neg (by decide)]
  refine ⟨rfl,rfl,rfl,Array.size_modify,?_,fun k hk=>?_⟩
  · show (w.heap.modify b _)[b]? = _
    rw [Array.getElem?_modify,if_pos rfl,h]
    rfl
  · show (w.heap.modify b _)[k]? = _
    rw [Array.getElem?_modify,if_neg (by omega)]
theorem GL_sameBytes {P:Program} {ops:Array Oper} {i:Nat} {Q:D9} {n:Fr} {E:Env} {W0:World} {H H':List Grp} {o:Oper} {ch:List (Nat × Bool)} {t e:TypeId} {x:Operand} {b off l cap:Nat} {c:Array Value} {e':TypeId} {g:Grp} {j m:Nat}
    (ho:ops[i]? = some o) (hop:o.op=.convert t t x) (hx:evO E ch x=some (.slice (some ⟨b,off,none⟩) l cap)) (ht:P.underlying t=some (.slice e)) (he:P.underlying e=some (.int .u8))
    (hch:E3 ops E o.guard=some ch) (hd:F9 n ch o.dst=true) (hsure:I5 E ch=true)
    (hj:H[j]? = some g) (hi:g[m]? = some (b,.cells c e' (0,0))) (hH':H.set j (g.set m (b,.cells c e' (c.size,c.size+1)))=H')
    (k:GL false P ops (i+1) Q n (Env.put E o.dst ch (.slice (some ⟨b,off,none⟩) l cap)) W0 H'):GL false P ops i Q n E W0 H:=by
  refine GL_eff (R:=fun v H1=>v=.slice (some ⟨b,off,none⟩) l cap∧H1=H') ho hch hd hsure (fun r hr w hs=>?_) (by rintro v H1 ⟨rfl,rfl⟩; exact k)
  have hblk:=hs.has _ (List.mem_flatten.2 ⟨g,List.mem_of_getElem? hj,List.mem_of_getElem? hi⟩)
  have hw:=frozen_end hblk
  have hsh:w.shape? b=some (e',c.size):=by unfold World.shape?; rw [hblk]
  refine ⟨_,w.freeze ⟨b,c.size,none⟩ 1,H',⟨rfl,rfl⟩,?_,.inl ?_⟩
  · have:=hs.wr hj hi hw
    rw [hH'] at this; exact this
  · unfold execOp
    simp only [hop]
    rw [hr _ _ hx]
    simp [convert,run_underlying ht,run_underlying he,markStringish,hsh]
end Go.Sw
namespace Go.Sw
open Go.RowKit
theorem GL_copy {P:Program} {ops:Array Oper} {i:Nat} {Q:D9} {n:Fr} {E:Env} {W0:World} {H H':List Grp} {o:Oper} {ch:List (Nat × Bool)} {dT sT el:TypeId} {x y:Operand}
    {b o1 n1 c1 n2 c2:Nat} {a:Addr} {c c':Array Value} {e:TypeId} {g:Grp} {j m:Nat} (cs:List Value)
    (ho:ops[i]? = some o) (hop:o.op=.call { callee:=.builtin .copy,args:=#[x,y],argTypes:=#[dT,sT] }) (hx:evO E ch x=some (.slice (some ⟨b,o1,none⟩) n1 c1)) (hy:evO E ch y=some (.slice (some a) n2 c2))
    (hu:P.underlying dT=some (.slice el)) (hs1:(P.info? el).map (·.size)=some 1)
    (hch:E3 ops E o.guard=some ch) (hd:F9 n ch o.dst=true) (hsure:I5 E ch=true)
    (hj:H[j]? = some g) (hi:g[m]? = some (b,.cells c e (0,0))) (hn:cs.length=Nat.min n2 n1)
    (hsrc:∀ w,Sat W0 H w→∀ k v,cs[k]? = some v→w.cell? (a.add k)=some v) (hfit:o1+cs.length≤c.size) (h1:(cs.all Value.oneCell')=true)
    (hc':(c.toList.take o1++cs++c.toList.drop (o1+cs.length)).toArray=c') (hH':H.set j (g.set m (b,.cells c' e (0,0)))=H')
    (k:GL false P ops (i+1) Q n (Env.put E o.dst ch (.int .i64 (cs.length:Int))) W0 H'):GL false P ops i Q n E W0 H:=by
  refine GL_eff (R:=fun v H1=>v=.int .i64 (cs.length:Int)∧H1=H') ho hch hd hsure (fun r hr w hs=>?_) (by rintro v H1 ⟨rfl,rfl⟩; exact k)
  have hblk:=hs.has _ (List.mem_flatten.2 ⟨g,List.mem_of_getElem? hj,List.mem_of_getElem? hi⟩)
  have hrun:=run_copy_row (P:=P) w dT sT o.type el b o1 n1 c1 a n2 c2 c e cs hu hs1 hblk hn (hsrc w hs) hfit (fun v hv=>List.all_eq_true.1 h1 v hv)
  rw [hc'] at hrun
  have hwr:Wr b (.cells c' e (0,0)) w (w.setRow b c'):=by
    have hlt:=(Array.getElem?_eq_some_iff.1 hblk).1
    refine ⟨rfl,rfl,rfl,by simp [World.setRow],setRow_heap w b c c' e (0,0) hblk,fun k hk=>?_⟩
    show (w.heap.modify b _)[k]? = w.heap[k]?
    rw [Array.getElem?_modify,if_neg (Ne.symm hk)]
  refine ⟨_,w.setRow b c',H',⟨rfl,rfl⟩,?_,.inl ?_⟩
  · have:=hs.wr hj hi hwr
    rw [hH'] at this; exact this
  · unfold execOp
    simp only [hop,resolve,Array.map,Sem.run_bind,Sem.run_pure,Result.andThen_ok,invoke,Go.builtin]
    simp [hr _ _ hx,hr _ _ hy,hrun,goInt,Result.andThen_ok]
theorem O6 {d:Bool} {P:Program} {ops:Array Oper} {i:Nat} {Q:D9} {n:Fr} {E:Env} {W0:World} {H:List Grp} {o:Oper} {ch:List (Nat × Bool)} {t e:TypeId} {x:Operand} {lo hi:Option Operand} {b off len sz:Nat} {vl vh:Option Value} {l h:Int}
    (ho:ops[i]? = some o:=by exact rfl) (hop:o.op=.slice t x lo hi none:=by exact rfl) (hx:evO E ch x=some (.pointer (some ⟨b,off,none⟩)):=by kernel_rfl) (hvl:evOO (evO E ch) lo=some vl:=by kernel_rfl) (hvh:evOO (evO E ch) hi=some vh:=by kernel_rfl) (hu:P.underlying t=some (.array len e):=by kernel_rfl) (hsz:sizeV P e=some sz:=by kernel_rfl)
    (hl:loV vl=some l:=by kernel_rfl) (hh:hiV len vh=some h:=by kernel_rfl)
    (hch:E3 ops E o.guard=some ch:=by kernel_rfl) (hd:F9 n ch o.dst=true:=by kernel_rfl) (hk:H7 E ch=true:=by kernel_rfl)
    (hb:chB E ch→0≤l∧l≤h∧h≤len∧l.toNat<len)
    (k:GL d P ops (i+1) Q n (Env.put E o.dst ch (.slice (some ⟨b,off+l.toNat * sz,none⟩) (h.toNat - l.toNat) (len - l.toNat))) W0 H):GL d P ops i Q n E W0 H:=by
  refine G3 ho hch hd hk (fun r hr hcb w _=>?_) k
  obtain ⟨h0,h1,h2,h3⟩:=hb hcb
  have hm:∀ {y:Option Operand} {v:Option Value},evOO (evO E ch) y=some v→y.map r=v:=by
    intro y v hv
    cases y with
    | none=>simp only [evOO,Option.some.injEq] at hv; subst hv; rfl
    | some y =>
      simp only [evOO] at hv
      split at hv
      · rename_i u hu; injection hv with hv; subst hv; simp [hr _ _ hu]
      · simp at hv
  unfold execOp
  simp only [hop]
  rw [hr _ _ hx,hm hvl,hm hvh]
  simp only [Instr.sliceAt,Sem.run_bind,run_underlying hu,Result.andThen_ok,Option.map_none,Instr.sureAddr,Sem.run_pure,
    M5 (P:=P) (isSlice:=false) hl hh h0 h1 h2,H0 hsz]
  rw [if_neg (by omega),J1]
  exact ⟨rfl,rfl⟩
theorem own_cut0 {b cap sz:Nat} {c:List Value} {e:TypeId} (h:c.length=cap * sz):Own e sz (.slice (some ⟨b,0,none⟩) 0 cap) [(b,.cells c.toArray e (0,0))] 0 [] :=
  ⟨by simp,.inr ⟨b,cap,c,rfl,rfl,Nat.zero_le _,h⟩⟩
end Go.Sw
namespace Go.Proofs.YtbnfbffiehoapaaGreatDoor
open Go.Sw
def bsr (l:List (Nat × Value)) (t:Value):Array Value:=((List.range 256).map (fun k=>(l.lookup k).getD (.slice none 0 0))++[t]).toArray
def I3:List Value:=[.string (ByteArray.mk #[39]),.string (ByteArray.mk #[34]),.string (ByteArray.mk #[62]),.string (ByteArray.mk #[60]),.string (ByteArray.mk #[38])]
def buildR (b:Nat) (a:Option Addr) (cap:Nat) (g:Grp) (H:List Grp) (x:Value) (H':List Grp):Prop:=∃ c aT cT gT a38 c38 g38 a60 c60 g60 a62 c62 g62 a34 c34 g34 a39 c39 g39,x=.iface 112 (pt c)∧Go.Sw.Own 9 1 (.slice aT 5 cT) gT 5 I3∧(Rd (inG g38) (some ⟨a38,0,none⟩) (u8s (ByteArray.mk #[38,97,109,112,59]).data.toList)∧Rd (inG g60) (some ⟨a60,0,none⟩) (u8s (ByteArray.mk #[38,108,116,59]).data.toList)∧Rd (inG g62) (some ⟨a62,0,none⟩) (u8s (ByteArray.mk #[38,103,116,59]).data.toList)∧Rd (inG g34) (some ⟨a34,0,none⟩) (u8s (ByteArray.mk #[38,113,117,111,116,59]).data.toList)∧Rd (inG g39) (some ⟨a39,0,none⟩) (u8s (ByteArray.mk #[38,35,51,57,59]).data.toList))∧H'=[(c,.cells (bsr [(34,.slice (some ⟨a34,0,none⟩) 6 c34),(38,.slice (some ⟨a38,0,none⟩) 5 c38),(39,.slice (some ⟨a39,0,none⟩) 5 c39),(60,.slice (some ⟨a60,0,none⟩) 4 c60),(62,.slice (some ⟨a62,0,none⟩) 4 c62)] (.slice aT 5 cT)) 111 (0,0))]::gT::g38::g60::g62::g34::g39::([(b,.cells #[.int .u32 0,.int .i32 1,.int .u32 0,.nilIface,.slice a 10 cap] 71 (0,0))]::g::H)
theorem build_ (b:Nat) (a:Option Addr) (cap:Nat) (g:Grp) (hr:Rd (inG g) a H6) (W0:World) (H:List Grp):Tri Tryz.prog 59 #[pt b] W0 ([(b,.cells #[.int .u32 0,.int .i32 1,.int .u32 0,.nilIface,.slice a 10 cap] 71 (0,0))]::g::H) (buildR b a cap g H):=by
  refine D1 (args:=[pt b]) (n:=132) Tryz.func59 rfl rfl (Nat.le_of_ble_eq_true rfl) ?_
  refine A1 (B3 (E':=[⟨0,[],pt b⟩]) [0] [0] (k:=?_))
  refine A0 (A1 ?_)
  refine A2 (A6 (j:=3) [0,0,0] (k:=?_))
  refine E9 (ch:=[]) (b:=b) (off:=4) (v:=.slice a 10 cap) (hA:=At.grp 0 0 rfl rfl) (hv:=rfl) (k:=B8 (E':=[⟨3,[],.slice a 10 cap⟩]) [0] [3] (k:=?_))
  refine A0 (A1 ?_)
  refine A1 (G_p [0,0,0,0,1,1,1,1,1,3] [3,28] (k:=?_))
  refine A0 (D7 kr ?_)
  refine A7 (A0 ?_)
  refine A1 (G_p [0] [3,4] (k:=?_))
  refine A0 (A1 ?_)
  refine A1 (G_p [0] [3,4,5] (k:=?_))
  refine A0 (B4 ?_)
  refine L9 6 (E4 ?_)
  refine A1 (A1 ?_)
  refine G_p [0,0,0,0] [3,4,5,40] (k:=A0 ?_)
  refine C6 kr (A7 ?_)
  refine A0 (A1 ?_)
  refine B4 (A1 ?_)
  refine A1 (A2 ?_)
  refine A6 (j:=2) [0,0] (k:=C4 (ch:=[]) (a:=a) (len:=10) (cap:=cap) (kd:=.i64) (j:=0) (e:=9) (sz:=1) (S:=(inG g)) (cs:=H6) (hrd:=hr) (hb:=(fun _=>by exact ⟨by decide,by decide,by intro h; cases h⟩)) (k:=?_))
  refine E6 (ch:=[]) (a:=a) (q:=0 * 1) (S:=(inG g)) (cs:=H6) (v:=.string (ByteArray.mk #[38])) (hrd:=hr) (hS:=D2 1 rfl) (hv:=(fun _=>rfl)) (k:=B0 [0,0] [3,4,5,48] (k:=?_))
  refine A0 (D7 kr ?_)
  refine A7 (A0 ?_)
  refine A1 (A2 ?_)
  refine A6 (j:=3) [0,0,0] (k:=C4 (ch:=[]) (a:=a) (len:=10) (cap:=cap) (kd:=.i64) (j:=1) (e:=9) (sz:=1) (S:=(inG g)) (cs:=H6) (hrd:=hr) (hb:=(fun _=>by exact ⟨by decide,by decide,by intro h; cases h⟩)) (k:=?_))
  refine E6 (ch:=[]) (a:=a) (q:=1 * 1) (S:=(inG g)) (cs:=H6) (v:=.string (ByteArray.mk #[38,97,109,112,59])) (hrd:=hr) (hS:=D2 1 rfl) (hv:=(fun _=>rfl)) (k:=B8 (E':=[⟨3,[],.slice a 10 cap⟩,⟨4,[],.bool true⟩,⟨5,[],.int .i64 0⟩,⟨58,[],.bool true⟩]) [0,0] [3,4,5,58] (k:=?_))
  refine A0 (C6 kr ?_)
  refine G_p [0] [3,4,5] (k:=B2 ?_)
  refine A0 (G_p [0,0,0] [3,4,5] (k:=?_))
  refine N_rd (E4 ?_)
  refine A1 (A1 ?_)
  refine G_p [0,0,0,0] [3,4,5,40] (k:=A0 ?_)
  refine C6 kr (A7 ?_)
  refine A0 (A1 ?_)
  refine B4 (A1 ?_)
  refine A1 (A2 ?_)
  refine A6 (j:=2) [0,0] (k:=C4 (ch:=[]) (a:=a) (len:=10) (cap:=cap) (kd:=.i64) (j:=2) (e:=9) (sz:=1) (S:=(inG g)) (cs:=H6) (hrd:=hr) (hb:=(fun _=>by exact ⟨by decide,by decide,by intro h; cases h⟩)) (k:=?_))
  refine E6 (ch:=[]) (a:=a) (q:=2 * 1) (S:=(inG g)) (cs:=H6) (v:=.string (ByteArray.mk #[60])) (hrd:=hr) (hS:=D2 1 rfl) (hv:=(fun _=>rfl)) (k:=B0 [0,0] [3,4,5,48] (k:=?_))
  refine A0 (D7 kr ?_)
  refine A7 (A0 ?_)
  refine A1 (A2 ?_)
  refine A6 (j:=3) [0,0,0] (k:=C4 (ch:=[]) (a:=a) (len:=10) (cap:=cap) (kd:=.i64) (j:=3) (e:=9) (sz:=1) (S:=(inG g)) (cs:=H6) (hrd:=hr) (hb:=(fun _=>by exact ⟨by decide,by decide,by intro h; cases h⟩)) (k:=?_))
  refine E6 (ch:=[]) (a:=a) (q:=3 * 1) (S:=(inG g)) (cs:=H6) (v:=.string (ByteArray.mk #[38,108,116,59])) (hrd:=hr) (hS:=D2 1 rfl) (hv:=(fun _=>rfl)) (k:=B0 [0,0] [3,4,5,58] (k:=?_))
  refine A0 (C6 kr ?_)
  refine B3 (E':=[⟨3,[],.slice a 10 cap⟩,⟨4,[],.bool false⟩,⟨5,[],.int .i64 2⟩]) [0] [3,4,5] (k:=B2 ?_)
  refine A0 (G_p [0,0,0] [3,4,5] (k:=?_))
  refine N_rd (E4 ?_)
  refine A1 (A1 ?_)
  refine G_p [0,0,0,0] [3,4,5,40] (k:=A0 ?_)
  refine C6 kr (A7 ?_)
  refine A0 (A1 ?_)
  refine B4 (A1 ?_)
  refine A1 (A2 ?_)
  refine A6 (j:=2) [0,0] (k:=C4 (ch:=[]) (a:=a) (len:=10) (cap:=cap) (kd:=.i64) (j:=4) (e:=9) (sz:=1) (S:=(inG g)) (cs:=H6) (hrd:=hr) (hb:=(fun _=>by exact ⟨by decide,by decide,by intro h; cases h⟩)) (k:=?_))
  refine E6 (ch:=[]) (a:=a) (q:=4 * 1) (S:=(inG g)) (cs:=H6) (v:=.string (ByteArray.mk #[62])) (hrd:=hr) (hS:=D2 1 rfl) (hv:=(fun _=>rfl)) (k:=B0 [0,0] [3,4,5,48] (k:=?_))
  refine A0 (D7 kr ?_)
  refine A7 (A0 ?_)
  refine A1 (A2 ?_)
  refine A6 (j:=3) [0,0,0] (k:=C4 (ch:=[]) (a:=a) (len:=10) (cap:=cap) (kd:=.i64) (j:=5) (e:=9) (sz:=1) (S:=(inG g)) (cs:=H6) (hrd:=hr) (hb:=(fun _=>by exact ⟨by decide,by decide,by intro h; cases h⟩)) (k:=?_))
  refine E6 (ch:=[]) (a:=a) (q:=5 * 1) (S:=(inG g)) (cs:=H6) (v:=.string (ByteArray.mk #[38,103,116,59])) (hrd:=hr) (hS:=D2 1 rfl) (hv:=(fun _=>rfl)) (k:=B0 [0,0] [3,4,5,58] (k:=?_))
  refine A0 (C6 kr ?_)
  refine G_p [0] [3,4,5] (k:=B2 ?_)
  refine A0 (B3 (E':=[⟨3,[],.slice a 10 cap⟩,⟨4,[],.bool false⟩,⟨5,[],.int .i64 6⟩]) [0,0,0] [3,4,5] (k:=?_))
  refine N_rd (E4 ?_)
  refine A1 (A1 ?_)
  refine G_p [0,0,0,0] [3,4,5,40] (k:=A0 ?_)
  refine C6 kr (A7 ?_)
  refine A0 (A1 ?_)
  refine B4 (A1 ?_)
  refine A1 (A2 ?_)
  refine A6 (j:=2) [0,0] (k:=C4 (ch:=[]) (a:=a) (len:=10) (cap:=cap) (kd:=.i64) (j:=6) (e:=9) (sz:=1) (S:=(inG g)) (cs:=H6) (hrd:=hr) (hb:=(fun _=>by exact ⟨by decide,by decide,by intro h; cases h⟩)) (k:=?_))
  refine E6 (ch:=[]) (a:=a) (q:=6 * 1) (S:=(inG g)) (cs:=H6) (v:=.string (ByteArray.mk #[34])) (hrd:=hr) (hS:=D2 1 rfl) (hv:=(fun _=>rfl)) (k:=B0 [0,0] [3,4,5,48] (k:=?_))
  refine A0 (D7 kr ?_)
  refine A7 (A0 ?_)
  refine A1 (A2 ?_)
  refine A6 (j:=3) [0,0,0] (k:=C4 (ch:=[]) (a:=a) (len:=10) (cap:=cap) (kd:=.i64) (j:=7) (e:=9) (sz:=1) (S:=(inG g)) (cs:=H6) (hrd:=hr) (hb:=(fun _=>by exact ⟨by decide,by decide,by intro h; cases h⟩)) (k:=?_))
  refine E6 (ch:=[]) (a:=a) (q:=7 * 1) (S:=(inG g)) (cs:=H6) (v:=.string (ByteArray.mk #[38,113,117,111,116,59])) (hrd:=hr) (hS:=D2 1 rfl) (hv:=(fun _=>rfl)) (k:=B0 [0,0] [3,4,5,58] (k:=?_))
  refine A0 (C6 kr ?_)
  refine G_p [0] [3,4,5] (k:=B2 ?_)
  refine A0 (G_p [0,0,0] [3,4,5] (k:=?_))
  refine N_rd (E4 ?_)
  refine A1 (A1 ?_)
  refine B3 (E':=[⟨3,[],.slice a 10 cap⟩,⟨4,[],.bool false⟩,⟨5,[],.int .i64 8⟩,⟨40,[],.bool true⟩]) [0,0,0,0] [3,4,5,40] (k:=A0 ?_)
  refine C6 kr (A7 ?_)
  refine A0 (A1 ?_)
  refine B4 (A1 ?_)
  refine A1 (A2 ?_)
  refine A6 (j:=2) [0,0] (k:=C4 (ch:=[]) (a:=a) (len:=10) (cap:=cap) (kd:=.i64) (j:=8) (e:=9) (sz:=1) (S:=(inG g)) (cs:=H6) (hrd:=hr) (hb:=(fun _=>by exact ⟨by decide,by decide,by intro h; cases h⟩)) (k:=?_))
  refine E6 (ch:=[]) (a:=a) (q:=8 * 1) (S:=(inG g)) (cs:=H6) (v:=.string (ByteArray.mk #[39])) (hrd:=hr) (hS:=D2 1 rfl) (hv:=(fun _=>rfl)) (k:=B0 [0,0] [3,4,5,48] (k:=?_))
  refine A0 (D7 kr ?_)
  refine A7 (A0 ?_)
  refine A1 (A2 ?_)
  refine A6 (j:=3) [0,0,0] (k:=C4 (ch:=[]) (a:=a) (len:=10) (cap:=cap) (kd:=.i64) (j:=9) (e:=9) (sz:=1) (S:=(inG g)) (cs:=H6) (hrd:=hr) (hb:=(fun _=>by exact ⟨by decide,by decide,by intro h; cases h⟩)) (k:=?_))
  refine E6 (ch:=[]) (a:=a) (q:=9 * 1) (S:=(inG g)) (cs:=H6) (v:=.string (ByteArray.mk #[38,35,51,57,59])) (hrd:=hr) (hS:=D2 1 rfl) (hv:=(fun _=>rfl)) (k:=B0 [0,0] [3,4,5,58] (k:=?_))
  refine A0 (C6 kr ?_)
  refine G_p [0] [3,4,5] (k:=B2 ?_)
  refine A0 (G_p [0,0,0] [3,4,5] (k:=?_))
  refine N_rd (E4 ?_)
  refine A1 (A1 ?_)
  refine G_p [0,0,0,0] [3,4,5,40] (k:=A0 ?_)
  refine D7 kr (F7 ?_)
  refine A8 (A8 ?_)
  refine C2 (A0 ?_)
  refine A1 (A1 ?_)
  refine B3 (E':=[⟨3,[],.slice a 10 cap⟩,⟨59,[],.bool false⟩]) [0] [3,59] (k:=A0 ?_)
  refine D7 kr (A7 ?_)
  refine A0 (A1 ?_)
  refine A2 (A6 (j:=3) [0,0,0] (k:=?_))
  refine GL_makeLC (i:=3) (ch:=[]) (t:=55) (e:=9) (inf:=Tryz.t9) (l:=0) (m:=5) (c:=[.string (ByteArray.mk #[]),.string (ByteArray.mk #[]),.string (ByteArray.mk #[]),.string (ByteArray.mk #[]),.string (ByteArray.mk #[])]) rfl rfl kr kr kr kr rfl (by decide) (by decide) (by decide) (by decide) kr kr kr kr (fun b1=>A6 (j:=5) [0] (k:=?_))
  refine O7 (ch:=[]) (z:=.agg (bsr [] (.slice none 0 0))) (k:=(fun b2=>?_))
  refine GL_st (ch:=[]) (b:=b2) (off:=0) (v:=.agg (bsr [] (.slice (some ⟨b1,0,none⟩) 0 5))) (j:=0) ([(b2,.cells (bsr [] (.slice (some ⟨b1,0,none⟩) 0 5)) 111 (0,0))]::[(b1,.cells #[.string (ByteArray.mk #[]),.string (ByteArray.mk #[]),.string (ByteArray.mk #[]),.string (ByteArray.mk #[]),.string (ByteArray.mk #[])] 9 (0,0))]::[(b,.cells #[.int .u32 0,.int .i32 1,.int .u32 0,.nilIface,.slice a 10 cap] 71 (0,0))]::g::H) (hoff:=Nat.le_of_ble_eq_true kr) (hfz:=(fun _ _=>L3)) (k:=B0 [] [3,11] (k:=?_))
  refine A0 (A1 ?_)
  refine A1 (G_p [0,0,0,0] [3,11,12] (k:=?_))
  refine A0 (B4 ?_)
  refine L9 6 (E4 ?_)
  refine A1 (A1 ?_)
  refine G_p [0,0] [3,11,12,100] (k:=A0 ?_)
  refine C6 kr (A7 ?_)
  refine A0 (A1 ?_)
  refine B4 (A1 ?_)
  refine A2 (A6 (j:=2) [0,0] (k:=?_))
  refine C4 (ch:=[]) (a:=a) (len:=10) (cap:=cap) (kd:=.i64) (j:=8) (e:=9) (sz:=1) (S:=(inG g)) (cs:=H6) (hrd:=hr) (hb:=(fun _=>by exact ⟨by decide,by decide,by intro h; cases h⟩)) (k:=E6 (ch:=[]) (a:=a) (q:=8 * 1) (S:=(inG g)) (cs:=H6) (v:=.string (ByteArray.mk #[39])) (hrd:=hr) (hS:=D2 3 rfl) (hv:=(fun _=>rfl)) (k:=?_))
  refine C0 (ch:=[]) (s:=(ByteArray.mk #[39])) (kd:=.i64) (j:=0) (hb:=(fun _=>by decide)) (k:=B0 [0] [3,11,12,13] (k:=?_))
  refine A0 (A1 ?_)
  refine A2 (A6 (j:=3) [0,0,0] (k:=?_))
  refine C4 (ch:=[]) (a:=a) (len:=10) (cap:=cap) (kd:=.i64) (j:=9) (e:=9) (sz:=1) (S:=(inG g)) (cs:=H6) (hrd:=hr) (hb:=(fun _=>by exact ⟨by decide,by decide,by intro h; cases h⟩)) (k:=E6 (ch:=[]) (a:=a) (q:=9 * 1) (S:=(inG g)) (cs:=H6) (v:=.string (ByteArray.mk #[38,35,51,57,59])) (hrd:=hr) (hS:=D2 3 rfl) (hv:=(fun _=>rfl)) (k:=?_))
  refine B0 [0] [3,11,12,13,14] (k:=A0 ?_)
  refine A1 (A1 ?_)
  refine A2 (A6 (j:=2) [0,0] (k:=?_))
  refine E0 (ch:=[]) (b:=b2) (off:=0) (len:=256) (sz:=1) (e:=37) (kd:=.u8) (j:=39) (hb:=(fun _=>⟨by decide,by decide⟩)) (k:=E9 (ch:=[]) (b:=b2) (off:=39) (v:=.slice none 0 0) (hA:=At.grp 0 0 rfl rfl) (k:=?_))
  refine B8 (E':=[⟨3,[],.slice a 10 cap⟩,⟨11,[],pt b2⟩,⟨12,[],.int .i64 8⟩,⟨13,[],.int .u8 39⟩,⟨14,[],.string (ByteArray.mk #[38,35,51,57,59])⟩,⟨117,[],.bool true⟩]) [0] [3,11,12,13,14,117] (k:=A0 ?_)
  refine C6 kr (A2 ?_)
  refine A6 (j:=1) [0] (k:=E9 (ch:=[]) (b:=b2) (off:=256) (v:=.slice (some ⟨b1,0,none⟩) 0 5) (hA:=At.grp 0 0 rfl rfl) (k:=?_))
  refine A6 (j:=3) [0] (k:=D0 (ch:=[]) (e:=5) (l:=[(0,.int .u8 39)]) (c:=[.int .u8 39]) (k:=(fun b3=>?_)))
  refine H4 (ch:=[]) (a:=⟨b3,0,none⟩) (cap:=1) (e:=5) (S:=(inG [(b3,.cells #[.int .u8 39] 5 (0,0))])) ([39]) (hrd:=Rd.lit (c:=[.int .u8 39])) (hS:=D2 0 rfl) (k:=D0 (ch:=[]) (e:=9) (l:=[(0,.string (ByteArray.mk #[39]))]) (c:=[.string (ByteArray.mk #[39])]) (k:=(fun b4=>?_)))
  refine F3 (i:=6) (ch:=[]) (t:=55) (tx:=55) (e:=9) (inf:=Tryz.t9) (s:=.slice (some ⟨b1,0,none⟩) 0 5) (x:=.slice (some ⟨b4,0,none⟩) 1 1) (n:=0) (m:=1) (j:=3) (cs:=[]) (news:=[.string (ByteArray.mk #[39])]) (g:=[(b1,.cells #[.string (ByteArray.mk #[]),.string (ByteArray.mk #[]),.string (ByteArray.mk #[]),.string (ByteArray.mk #[]),.string (ByteArray.mk #[])] 9 (0,0))]) (S:=(inG [(b4,.cells #[.string (ByteArray.mk #[39])] 9 (0,0))])) rfl rfl rfl rfl kr kr kr rfl rfl (.inl ⟨9,kr⟩) (fun ⟨_,h⟩=>by cases h) (fun _=>⟨9,kr⟩) kr kr kr rfl (own_cut0 (c:=[.string (ByteArray.mk #[]),.string (ByteArray.mk #[]),.string (ByteArray.mk #[]),.string (ByteArray.mk #[]),.string (ByteArray.mk #[])]) rfl) (SrcOf.slice _ _ _ _ Rd.lit (fun h=>by cases h)) (D2 0 rfl) kr (by intro u hu; rcases List.mem_singleton.1 hu with rfl; rfl) (by omega) (by show (0+1) * 16≤140737488355328; omega) (fun v5 g6 hO7=>?_)
  obtain ⟨a8,cap9,rfl,hcap10,hrd11⟩:=hO7.shape
  refine A6 (j:=8) [0] (k:=GL_st (ch:=[]) (b:=b2) (off:=256) (v:=.slice a8 (0+1) cap9) (j:=2) ([(b4,.cells #[.string (ByteArray.mk #[39])] 9 (0,0))]::[(b3,.cells #[.int .u8 39] 5 (0,0))]::[(b2,.cells (bsr [] (.slice a8 (0+1) cap9)) 111 (0,0))]::g6::[(b,.cells #[.int .u32 0,.int .i32 1,.int .u32 0,.nilIface,.slice a 10 cap] 71 (0,0))]::g::H) (hoff:=Nat.le_of_ble_eq_true kr) (hfz:=(fun _ _=>L3)) (k:=?_))
  refine B0 [] [3,11,12,13,14] (k:=A0 ?_)
  refine A2 (A6 (j:=2) [0,0] (k:=?_))
  refine J2 (ch:=[]) (src:=9) (dst:=37) (e:=5) (s:=(ByteArray.mk #[38,35,51,57,59])) (k:=(fun b12 cap13 g14 hcap15 hrd16=>?_))
  refine A6 (j:=4) [0] (k:=E0 (ch:=[]) (b:=b2) (off:=0) (len:=256) (sz:=1) (e:=37) (kd:=.u8) (j:=39) (hb:=(fun _=>⟨by decide,by decide⟩)) (k:=?_))
  refine GL_st (ch:=[]) (b:=b2) (off:=39) (v:=.slice (some ⟨b12,0,none⟩) ((ByteArray.mk #[38,35,51,57,59]).size) cap13) (j:=3) (g14::[(b4,.cells #[.string (ByteArray.mk #[39])] 9 (0,0))]::[(b3,.cells #[.int .u8 39] 5 (0,0))]::[(b2,.cells (bsr [(39,.slice (some ⟨b12,0,none⟩) ((ByteArray.mk #[38,35,51,57,59]).size) cap13)] (.slice a8 (0+1) cap9)) 111 (0,0))]::g6::[(b,.cells #[.int .u32 0,.int .i32 1,.int .u32 0,.nilIface,.slice a 10 cap] 71 (0,0))]::g::H) (hoff:=Nat.le_of_ble_eq_true kr) (hfz:=(fun _ _=>L3)) (k:=B0 [] [3,11,12] (k:=?_))
  refine B2 (A0 ?_)
  refine G_p [0,0,0] [3,11,12] (k:=N_rd ?_)
  refine E4 (A1 ?_)
  refine A1 (G_p [0,0] [3,11,12,100] (k:=?_))
  refine A0 (C6 kr ?_)
  refine A7 (A0 ?_)
  refine A1 (B4 ?_)
  refine A1 (A2 ?_)
  refine A6 (j:=2) [0,0] (k:=C4 (ch:=[]) (a:=a) (len:=10) (cap:=cap) (kd:=.i64) (j:=6) (e:=9) (sz:=1) (S:=(inG g)) (cs:=H6) (hrd:=hr) (hb:=(fun _=>by exact ⟨by decide,by decide,by intro h; cases h⟩)) (k:=?_))
  refine E6 (ch:=[]) (a:=a) (q:=6 * 1) (S:=(inG g)) (cs:=H6) (v:=.string (ByteArray.mk #[34])) (hrd:=hr) (hS:=D2 6 rfl) (hv:=(fun _=>rfl)) (k:=C0 (ch:=[]) (s:=(ByteArray.mk #[34])) (kd:=.i64) (j:=0) (hb:=(fun _=>by decide)) (k:=?_))
  refine B0 [0] [3,11,12,13] (k:=A0 ?_)
  refine A1 (A2 ?_)
  refine A6 (j:=3) [0,0,0] (k:=C4 (ch:=[]) (a:=a) (len:=10) (cap:=cap) (kd:=.i64) (j:=7) (e:=9) (sz:=1) (S:=(inG g)) (cs:=H6) (hrd:=hr) (hb:=(fun _=>by exact ⟨by decide,by decide,by intro h; cases h⟩)) (k:=?_))
  refine E6 (ch:=[]) (a:=a) (q:=7 * 1) (S:=(inG g)) (cs:=H6) (v:=.string (ByteArray.mk #[38,113,117,111,116,59])) (hrd:=hr) (hS:=D2 6 rfl) (hv:=(fun _=>rfl)) (k:=B8 (E':=[⟨3,[],.slice a 10 cap⟩,⟨11,[],pt b2⟩,⟨12,[],.int .i64 6⟩,⟨13,[],.int .u8 34⟩,⟨14,[],.string (ByteArray.mk #[38,113,117,111,116,59])⟩]) [0] [3,11,12,13,14] (k:=?_))
  refine A0 (A1 ?_)
  refine A1 (A2 ?_)
  refine A6 (j:=2) [0,0] (k:=E0 (ch:=[]) (b:=b2) (off:=0) (len:=256) (sz:=1) (e:=37) (kd:=.u8) (j:=34) (hb:=(fun _=>⟨by decide,by decide⟩)) (k:=?_))
  refine E9 (ch:=[]) (b:=b2) (off:=34) (v:=.slice none 0 0) (hA:=At.grp 3 0 rfl rfl) (k:=B0 [0] [3,11,12,13,14,117] (k:=?_))
  refine A0 (C6 kr ?_)
  refine A2 (A6 (j:=1) [0] (k:=?_))
  refine E9 (ch:=[]) (b:=b2) (off:=256) (v:=.slice a8 (0+1) cap9) (hA:=At.grp 3 0 rfl rfl) (k:=A6 (j:=3) [0] (k:=?_))
  refine D0 (ch:=[]) (e:=5) (l:=[(0,.int .u8 34)]) (c:=[.int .u8 34]) (k:=(fun b17=>?_))
  refine H4 (ch:=[]) (a:=⟨b17,0,none⟩) (cap:=1) (e:=5) (S:=(inG [(b17,.cells #[.int .u8 34] 5 (0,0))])) ([34]) (hrd:=Rd.lit (c:=[.int .u8 34])) (hS:=D2 0 rfl) (k:=D0 (ch:=[]) (e:=9) (l:=[(0,.string (ByteArray.mk #[34]))]) (c:=[.string (ByteArray.mk #[34])]) (k:=(fun b18=>?_)))
  refine F3 (i:=6) (ch:=[]) (t:=55) (tx:=55) (e:=9) (inf:=Tryz.t9) (s:=.slice a8 (0+1) cap9) (x:=.slice (some ⟨b18,0,none⟩) 1 1) (n:=(0+1)) (m:=1) (j:=6) (cs:=([]++[.string (ByteArray.mk #[39])])) (news:=[.string (ByteArray.mk #[34])]) (g:=g6) (S:=(inG [(b18,.cells #[.string (ByteArray.mk #[34])] 9 (0,0))])) rfl rfl rfl rfl kr kr kr rfl rfl (.inl ⟨9,kr⟩) (fun ⟨_,h⟩=>by cases h) (fun _=>⟨9,kr⟩) kr kr kr rfl hO7 (SrcOf.slice _ _ _ _ Rd.lit (fun h=>by cases h)) (D2 0 rfl) kr (by intro u hu; rcases List.mem_singleton.1 hu with rfl; rfl) (by omega) (by show ((0+1)+1) * 16≤140737488355328; omega) (fun v19 g20 hO21=>?_)
  obtain ⟨a22,cap23,rfl,hcap24,hrd25⟩:=hO21.shape
  refine A6 (j:=8) [0] (k:=GL_st (ch:=[]) (b:=b2) (off:=256) (v:=.slice a22 ((0+1)+1) cap23) (j:=5) ([(b18,.cells #[.string (ByteArray.mk #[34])] 9 (0,0))]::[(b17,.cells #[.int .u8 34] 5 (0,0))]::g14::[(b4,.cells #[.string (ByteArray.mk #[39])] 9 (0,0))]::[(b3,.cells #[.int .u8 39] 5 (0,0))]::[(b2,.cells (bsr [(39,.slice (some ⟨b12,0,none⟩) ((ByteArray.mk #[38,35,51,57,59]).size) cap13)] (.slice a22 ((0+1)+1) cap23)) 111 (0,0))]::g20::[(b,.cells #[.int .u32 0,.int .i32 1,.int .u32 0,.nilIface,.slice a 10 cap] 71 (0,0))]::g::H) (hoff:=Nat.le_of_ble_eq_true kr) (hfz:=(fun _ _=>L3)) (k:=?_))
  refine B0 [] [3,11,12,13,14] (k:=A0 ?_)
  refine A2 (A6 (j:=2) [0,0] (k:=?_))
  refine J2 (ch:=[]) (src:=9) (dst:=37) (e:=5) (s:=(ByteArray.mk #[38,113,117,111,116,59])) (k:=(fun b26 cap27 g28 hcap29 hrd30=>?_))
  refine A6 (j:=4) [0] (k:=E0 (ch:=[]) (b:=b2) (off:=0) (len:=256) (sz:=1) (e:=37) (kd:=.u8) (j:=34) (hb:=(fun _=>⟨by decide,by decide⟩)) (k:=?_))
  refine GL_st (ch:=[]) (b:=b2) (off:=34) (v:=.slice (some ⟨b26,0,none⟩) ((ByteArray.mk #[38,113,117,111,116,59]).size) cap27) (j:=6) (g28::[(b18,.cells #[.string (ByteArray.mk #[34])] 9 (0,0))]::[(b17,.cells #[.int .u8 34] 5 (0,0))]::g14::[(b4,.cells #[.string (ByteArray.mk #[39])] 9 (0,0))]::[(b3,.cells #[.int .u8 39] 5 (0,0))]::[(b2,.cells (bsr [(34,.slice (some ⟨b26,0,none⟩) ((ByteArray.mk #[38,113,117,111,116,59]).size) cap27),(39,.slice (some ⟨b12,0,none⟩) ((ByteArray.mk #[38,35,51,57,59]).size) cap13)] (.slice a22 ((0+1)+1) cap23)) 111 (0,0))]::g20::[(b,.cells #[.int .u32 0,.int .i32 1,.int .u32 0,.nilIface,.slice a 10 cap] 71 (0,0))]::g::H) (hoff:=Nat.le_of_ble_eq_true kr) (hfz:=(fun _ _=>L3)) (k:=B0 [] [3,11,12] (k:=?_))
  refine B2 (A0 ?_)
  refine G_p [0,0,0] [3,11,12] (k:=N_rd ?_)
  refine E4 (A1 ?_)
  refine A1 (G_p [0,0] [3,11,12,100] (k:=?_))
  refine A0 (C6 kr ?_)
  refine A7 (A0 ?_)
  refine A1 (B4 ?_)
  refine A1 (A2 ?_)
  refine A6 (j:=2) [0,0] (k:=C4 (ch:=[]) (a:=a) (len:=10) (cap:=cap) (kd:=.i64) (j:=4) (e:=9) (sz:=1) (S:=(inG g)) (cs:=H6) (hrd:=hr) (hb:=(fun _=>by exact ⟨by decide,by decide,by intro h; cases h⟩)) (k:=?_))
  refine E6 (ch:=[]) (a:=a) (q:=4 * 1) (S:=(inG g)) (cs:=H6) (v:=.string (ByteArray.mk #[62])) (hrd:=hr) (hS:=D2 9 rfl) (hv:=(fun _=>rfl)) (k:=C0 (ch:=[]) (s:=(ByteArray.mk #[62])) (kd:=.i64) (j:=0) (hb:=(fun _=>by decide)) (k:=?_))
  refine B8 (E':=[⟨3,[],.slice a 10 cap⟩,⟨11,[],pt b2⟩,⟨12,[],.int .i64 4⟩,⟨13,[],.int .u8 62⟩]) [0] [3,11,12,13] (k:=A0 ?_)
  refine A1 (A2 ?_)
  refine A6 (j:=3) [0,0,0] (k:=C4 (ch:=[]) (a:=a) (len:=10) (cap:=cap) (kd:=.i64) (j:=5) (e:=9) (sz:=1) (S:=(inG g)) (cs:=H6) (hrd:=hr) (hb:=(fun _=>by exact ⟨by decide,by decide,by intro h; cases h⟩)) (k:=?_))
  refine E6 (ch:=[]) (a:=a) (q:=5 * 1) (S:=(inG g)) (cs:=H6) (v:=.string (ByteArray.mk #[38,103,116,59])) (hrd:=hr) (hS:=D2 9 rfl) (hv:=(fun _=>rfl)) (k:=B0 [0] [3,11,12,13,14] (k:=?_))
  refine A0 (A1 ?_)
  refine A1 (A2 ?_)
  refine A6 (j:=2) [0,0] (k:=E0 (ch:=[]) (b:=b2) (off:=0) (len:=256) (sz:=1) (e:=37) (kd:=.u8) (j:=62) (hb:=(fun _=>⟨by decide,by decide⟩)) (k:=?_))
  refine E9 (ch:=[]) (b:=b2) (off:=62) (v:=.slice none 0 0) (hA:=At.grp 6 0 rfl rfl) (k:=B0 [0] [3,11,12,13,14,117] (k:=?_))
  refine A0 (C6 kr ?_)
  refine A2 (A6 (j:=1) [0] (k:=?_))
  refine E9 (ch:=[]) (b:=b2) (off:=256) (v:=.slice a22 ((0+1)+1) cap23) (hA:=At.grp 6 0 rfl rfl) (k:=A6 (j:=3) [0] (k:=?_))
  refine D0 (ch:=[]) (e:=5) (l:=[(0,.int .u8 62)]) (c:=[.int .u8 62]) (k:=(fun b31=>?_))
  refine H4 (ch:=[]) (a:=⟨b31,0,none⟩) (cap:=1) (e:=5) (S:=(inG [(b31,.cells #[.int .u8 62] 5 (0,0))])) ([62]) (hrd:=Rd.lit (c:=[.int .u8 62])) (hS:=D2 0 rfl) (k:=D0 (ch:=[]) (e:=9) (l:=[(0,.string (ByteArray.mk #[62]))]) (c:=[.string (ByteArray.mk #[62])]) (k:=(fun b32=>?_)))
  refine F3 (i:=6) (ch:=[]) (t:=55) (tx:=55) (e:=9) (inf:=Tryz.t9) (s:=.slice a22 ((0+1)+1) cap23) (x:=.slice (some ⟨b32,0,none⟩) 1 1) (n:=((0+1)+1)) (m:=1) (j:=9) (cs:=(([]++[.string (ByteArray.mk #[39])])++[.string (ByteArray.mk #[34])])) (news:=[.string (ByteArray.mk #[62])]) (g:=g20) (S:=(inG [(b32,.cells #[.string (ByteArray.mk #[62])] 9 (0,0))])) rfl rfl rfl rfl kr kr kr rfl rfl (.inl ⟨9,kr⟩) (fun ⟨_,h⟩=>by cases h) (fun _=>⟨9,kr⟩) kr kr kr rfl hO21 (SrcOf.slice _ _ _ _ Rd.lit (fun h=>by cases h)) (D2 0 rfl) kr (by intro u hu; rcases List.mem_singleton.1 hu with rfl; rfl) (by omega) (by show (((0+1)+1)+1) * 16≤140737488355328; omega) (fun v33 g34 hO35=>?_)
  obtain ⟨a36,cap37,rfl,hcap38,hrd39⟩:=hO35.shape
  refine A6 (j:=8) [0] (k:=GL_st (ch:=[]) (b:=b2) (off:=256) (v:=.slice a36 (((0+1)+1)+1) cap37) (j:=8) ([(b32,.cells #[.string (ByteArray.mk #[62])] 9 (0,0))]::[(b31,.cells #[.int .u8 62] 5 (0,0))]::g28::[(b18,.cells #[.string (ByteArray.mk #[34])] 9 (0,0))]::[(b17,.cells #[.int .u8 34] 5 (0,0))]::g14::[(b4,.cells #[.string (ByteArray.mk #[39])] 9 (0,0))]::[(b3,.cells #[.int .u8 39] 5 (0,0))]::[(b2,.cells (bsr [(34,.slice (some ⟨b26,0,none⟩) ((ByteArray.mk #[38,113,117,111,116,59]).size) cap27),(39,.slice (some ⟨b12,0,none⟩) ((ByteArray.mk #[38,35,51,57,59]).size) cap13)] (.slice a36 (((0+1)+1)+1) cap37)) 111 (0,0))]::g34::[(b,.cells #[.int .u32 0,.int .i32 1,.int .u32 0,.nilIface,.slice a 10 cap] 71 (0,0))]::g::H) (hoff:=Nat.le_of_ble_eq_true kr) (hfz:=(fun _ _=>L3)) (k:=?_))
  refine B0 [] [3,11,12,13,14] (k:=A0 ?_)
  refine A2 (A6 (j:=2) [0,0] (k:=?_))
  refine J2 (ch:=[]) (src:=9) (dst:=37) (e:=5) (s:=(ByteArray.mk #[38,103,116,59])) (k:=(fun b40 cap41 g42 hcap43 hrd44=>?_))
  refine A6 (j:=4) [0] (k:=E0 (ch:=[]) (b:=b2) (off:=0) (len:=256) (sz:=1) (e:=37) (kd:=.u8) (j:=62) (hb:=(fun _=>⟨by decide,by decide⟩)) (k:=?_))
  refine GL_st (ch:=[]) (b:=b2) (off:=62) (v:=.slice (some ⟨b40,0,none⟩) ((ByteArray.mk #[38,103,116,59]).size) cap41) (j:=9) (g42::[(b32,.cells #[.string (ByteArray.mk #[62])] 9 (0,0))]::[(b31,.cells #[.int .u8 62] 5 (0,0))]::g28::[(b18,.cells #[.string (ByteArray.mk #[34])] 9 (0,0))]::[(b17,.cells #[.int .u8 34] 5 (0,0))]::g14::[(b4,.cells #[.string (ByteArray.mk #[39])] 9 (0,0))]::[(b3,.cells #[.int .u8 39] 5 (0,0))]::[(b2,.cells (bsr [(34,.slice (some ⟨b26,0,none⟩) ((ByteArray.mk #[38,113,117,111,116,59]).size) cap27),(39,.slice (some ⟨b12,0,none⟩) ((ByteArray.mk #[38,35,51,57,59]).size) cap13),(62,.slice (some ⟨b40,0,none⟩) ((ByteArray.mk #[38,103,116,59]).size) cap41)] (.slice a36 (((0+1)+1)+1) cap37)) 111 (0,0))]::g34::[(b,.cells #[.int .u32 0,.int .i32 1,.int .u32 0,.nilIface,.slice a 10 cap] 71 (0,0))]::g::H) (hoff:=Nat.le_of_ble_eq_true kr) (hfz:=(fun _ _=>L3)) (k:=B0 [] [3,11,12] (k:=?_))
  refine B2 (A0 ?_)
  refine G_p [0,0,0] [3,11,12] (k:=N_rd ?_)
  refine E4 (A1 ?_)
  refine A1 (B3 (E':=[⟨3,[],.slice a 10 cap⟩,⟨11,[],pt b2⟩,⟨12,[],.int .i64 2⟩,⟨100,[],.bool true⟩]) [0,0] [3,11,12,100] (k:=?_))
  refine A0 (C6 kr ?_)
  refine A7 (A0 ?_)
  refine A1 (B4 ?_)
  refine A1 (A2 ?_)
  refine A6 (j:=2) [0,0] (k:=C4 (ch:=[]) (a:=a) (len:=10) (cap:=cap) (kd:=.i64) (j:=2) (e:=9) (sz:=1) (S:=(inG g)) (cs:=H6) (hrd:=hr) (hb:=(fun _=>by exact ⟨by decide,by decide,by intro h; cases h⟩)) (k:=?_))
  refine E6 (ch:=[]) (a:=a) (q:=2 * 1) (S:=(inG g)) (cs:=H6) (v:=.string (ByteArray.mk #[60])) (hrd:=hr) (hS:=D2 12 rfl) (hv:=(fun _=>rfl)) (k:=C0 (ch:=[]) (s:=(ByteArray.mk #[60])) (kd:=.i64) (j:=0) (hb:=(fun _=>by decide)) (k:=?_))
  refine B0 [0] [3,11,12,13] (k:=A0 ?_)
  refine A1 (A2 ?_)
  refine A6 (j:=3) [0,0,0] (k:=C4 (ch:=[]) (a:=a) (len:=10) (cap:=cap) (kd:=.i64) (j:=3) (e:=9) (sz:=1) (S:=(inG g)) (cs:=H6) (hrd:=hr) (hb:=(fun _=>by exact ⟨by decide,by decide,by intro h; cases h⟩)) (k:=?_))
  refine E6 (ch:=[]) (a:=a) (q:=3 * 1) (S:=(inG g)) (cs:=H6) (v:=.string (ByteArray.mk #[38,108,116,59])) (hrd:=hr) (hS:=D2 12 rfl) (hv:=(fun _=>rfl)) (k:=B0 [0] [3,11,12,13,14] (k:=?_))
  refine A0 (A1 ?_)
  refine A1 (A2 ?_)
  refine A6 (j:=2) [0,0] (k:=E0 (ch:=[]) (b:=b2) (off:=0) (len:=256) (sz:=1) (e:=37) (kd:=.u8) (j:=60) (hb:=(fun _=>⟨by decide,by decide⟩)) (k:=?_))
  refine E9 (ch:=[]) (b:=b2) (off:=60) (v:=.slice none 0 0) (hA:=At.grp 9 0 rfl rfl) (k:=B0 [0] [3,11,12,13,14,117] (k:=?_))
  refine A0 (C6 kr ?_)
  refine A2 (A6 (j:=1) [0] (k:=?_))
  refine E9 (ch:=[]) (b:=b2) (off:=256) (v:=.slice a36 (((0+1)+1)+1) cap37) (hA:=At.grp 9 0 rfl rfl) (k:=A6 (j:=3) [0] (k:=?_))
  refine D0 (ch:=[]) (e:=5) (l:=[(0,.int .u8 60)]) (c:=[.int .u8 60]) (k:=(fun b45=>?_))
  refine H4 (ch:=[]) (a:=⟨b45,0,none⟩) (cap:=1) (e:=5) (S:=(inG [(b45,.cells #[.int .u8 60] 5 (0,0))])) ([60]) (hrd:=Rd.lit (c:=[.int .u8 60])) (hS:=D2 0 rfl) (k:=D0 (ch:=[]) (e:=9) (l:=[(0,.string (ByteArray.mk #[60]))]) (c:=[.string (ByteArray.mk #[60])]) (k:=(fun b46=>?_)))
  refine F3 (i:=6) (ch:=[]) (t:=55) (tx:=55) (e:=9) (inf:=Tryz.t9) (s:=.slice a36 (((0+1)+1)+1) cap37) (x:=.slice (some ⟨b46,0,none⟩) 1 1) (n:=(((0+1)+1)+1)) (m:=1) (j:=12) (cs:=((([]++[.string (ByteArray.mk #[39])])++[.string (ByteArray.mk #[34])])++[.string (ByteArray.mk #[62])])) (news:=[.string (ByteArray.mk #[60])]) (g:=g34) (S:=(inG [(b46,.cells #[.string (ByteArray.mk #[60])] 9 (0,0))])) rfl rfl rfl rfl kr kr kr rfl rfl (.inl ⟨9,kr⟩) (fun ⟨_,h⟩=>by cases h) (fun _=>⟨9,kr⟩) kr kr kr rfl hO35 (SrcOf.slice _ _ _ _ Rd.lit (fun h=>by cases h)) (D2 0 rfl) kr (by intro u hu; rcases List.mem_singleton.1 hu with rfl; rfl) (by omega) (by show ((((0+1)+1)+1)+1) * 16≤140737488355328; omega) (fun v47 g48 hO49=>?_)
  obtain ⟨a50,cap51,rfl,hcap52,hrd53⟩:=hO49.shape
  refine A6 (j:=8) [0] (k:=GL_st (ch:=[]) (b:=b2) (off:=256) (v:=.slice a50 ((((0+1)+1)+1)+1) cap51) (j:=11) ([(b46,.cells #[.string (ByteArray.mk #[60])] 9 (0,0))]::[(b45,.cells #[.int .u8 60] 5 (0,0))]::g42::[(b32,.cells #[.string (ByteArray.mk #[62])] 9 (0,0))]::[(b31,.cells #[.int .u8 62] 5 (0,0))]::g28::[(b18,.cells #[.string (ByteArray.mk #[34])] 9 (0,0))]::[(b17,.cells #[.int .u8 34] 5 (0,0))]::g14::[(b4,.cells #[.string (ByteArray.mk #[39])] 9 (0,0))]::[(b3,.cells #[.int .u8 39] 5 (0,0))]::[(b2,.cells (bsr [(34,.slice (some ⟨b26,0,none⟩) ((ByteArray.mk #[38,113,117,111,116,59]).size) cap27),(39,.slice (some ⟨b12,0,none⟩) ((ByteArray.mk #[38,35,51,57,59]).size) cap13),(62,.slice (some ⟨b40,0,none⟩) ((ByteArray.mk #[38,103,116,59]).size) cap41)] (.slice a50 ((((0+1)+1)+1)+1) cap51)) 111 (0,0))]::g48::[(b,.cells #[.int .u32 0,.int .i32 1,.int .u32 0,.nilIface,.slice a 10 cap] 71 (0,0))]::g::H) (hoff:=Nat.le_of_ble_eq_true kr) (hfz:=(fun _ _=>L3)) (k:=?_))
  refine B0 [] [3,11,12,13,14] (k:=A0 ?_)
  refine A2 (A6 (j:=2) [0,0] (k:=?_))
  refine J2 (ch:=[]) (src:=9) (dst:=37) (e:=5) (s:=(ByteArray.mk #[38,108,116,59])) (k:=(fun b54 cap55 g56 hcap57 hrd58=>?_))
  refine A6 (j:=4) [0] (k:=E0 (ch:=[]) (b:=b2) (off:=0) (len:=256) (sz:=1) (e:=37) (kd:=.u8) (j:=60) (hb:=(fun _=>⟨by decide,by decide⟩)) (k:=?_))
  refine GL_st (ch:=[]) (b:=b2) (off:=60) (v:=.slice (some ⟨b54,0,none⟩) ((ByteArray.mk #[38,108,116,59]).size) cap55) (j:=12) (g56::[(b46,.cells #[.string (ByteArray.mk #[60])] 9 (0,0))]::[(b45,.cells #[.int .u8 60] 5 (0,0))]::g42::[(b32,.cells #[.string (ByteArray.mk #[62])] 9 (0,0))]::[(b31,.cells #[.int .u8 62] 5 (0,0))]::g28::[(b18,.cells #[.string (ByteArray.mk #[34])] 9 (0,0))]::[(b17,.cells #[.int .u8 34] 5 (0,0))]::g14::[(b4,.cells #[.string (ByteArray.mk #[39])] 9 (0,0))]::[(b3,.cells #[.int .u8 39] 5 (0,0))]::[(b2,.cells (bsr [(34,.slice (some ⟨b26,0,none⟩) ((ByteArray.mk #[38,113,117,111,116,59]).size) cap27),(39,.slice (some ⟨b12,0,none⟩) ((ByteArray.mk #[38,35,51,57,59]).size) cap13),(60,.slice (some ⟨b54,0,none⟩) ((ByteArray.mk #[38,108,116,59]).size) cap55),(62,.slice (some ⟨b40,0,none⟩) ((ByteArray.mk #[38,103,116,59]).size) cap41)] (.slice a50 ((((0+1)+1)+1)+1) cap51)) 111 (0,0))]::g48::[(b,.cells #[.int .u32 0,.int .i32 1,.int .u32 0,.nilIface,.slice a 10 cap] 71 (0,0))]::g::H) (hoff:=Nat.le_of_ble_eq_true kr) (hfz:=(fun _ _=>L3)) (k:=B0 [] [3,11,12] (k:=?_))
  refine B2 (A0 ?_)
  refine B3 (E':=[⟨3,[],.slice a 10 cap⟩,⟨11,[],pt b2⟩,⟨12,[],.int .i64 0⟩]) [0,0,0] [3,11,12] (k:=N_rd ?_)
  refine E4 (A1 ?_)
  refine A1 (G_p [0,0] [3,11,12,100] (k:=?_))
  refine A0 (C6 kr ?_)
  refine A7 (A0 ?_)
  refine A1 (B4 ?_)
  refine A1 (A2 ?_)
  refine A6 (j:=2) [0,0] (k:=C4 (ch:=[]) (a:=a) (len:=10) (cap:=cap) (kd:=.i64) (j:=0) (e:=9) (sz:=1) (S:=(inG g)) (cs:=H6) (hrd:=hr) (hb:=(fun _=>by exact ⟨by decide,by decide,by intro h; cases h⟩)) (k:=?_))
  refine E6 (ch:=[]) (a:=a) (q:=0 * 1) (S:=(inG g)) (cs:=H6) (v:=.string (ByteArray.mk #[38])) (hrd:=hr) (hS:=D2 15 rfl) (hv:=(fun _=>rfl)) (k:=C0 (ch:=[]) (s:=(ByteArray.mk #[38])) (kd:=.i64) (j:=0) (hb:=(fun _=>by decide)) (k:=?_))
  refine B0 [0] [3,11,12,13] (k:=A0 ?_)
  refine A1 (A2 ?_)
  refine A6 (j:=3) [0,0,0] (k:=C4 (ch:=[]) (a:=a) (len:=10) (cap:=cap) (kd:=.i64) (j:=1) (e:=9) (sz:=1) (S:=(inG g)) (cs:=H6) (hrd:=hr) (hb:=(fun _=>by exact ⟨by decide,by decide,by intro h; cases h⟩)) (k:=?_))
  refine E6 (ch:=[]) (a:=a) (q:=1 * 1) (S:=(inG g)) (cs:=H6) (v:=.string (ByteArray.mk #[38,97,109,112,59])) (hrd:=hr) (hS:=D2 15 rfl) (hv:=(fun _=>rfl)) (k:=B0 [0] [3,11,12,13,14] (k:=?_))
  refine A0 (A1 ?_)
  refine A1 (A2 ?_)
  refine A6 (j:=2) [0,0] (k:=E0 (ch:=[]) (b:=b2) (off:=0) (len:=256) (sz:=1) (e:=37) (kd:=.u8) (j:=38) (hb:=(fun _=>⟨by decide,by decide⟩)) (k:=?_))
  refine E9 (ch:=[]) (b:=b2) (off:=38) (v:=.slice none 0 0) (hA:=At.grp 12 0 rfl rfl) (k:=B0 [0] [3,11,12,13,14,117] (k:=?_))
  refine A0 (C6 kr ?_)
  refine A2 (A6 (j:=1) [0] (k:=?_))
  refine E9 (ch:=[]) (b:=b2) (off:=256) (v:=.slice a50 ((((0+1)+1)+1)+1) cap51) (hA:=At.grp 12 0 rfl rfl) (k:=A6 (j:=3) [0] (k:=?_))
  refine D0 (ch:=[]) (e:=5) (l:=[(0,.int .u8 38)]) (c:=[.int .u8 38]) (k:=(fun b59=>?_))
  refine H4 (ch:=[]) (a:=⟨b59,0,none⟩) (cap:=1) (e:=5) (S:=(inG [(b59,.cells #[.int .u8 38] 5 (0,0))])) ([38]) (hrd:=Rd.lit (c:=[.int .u8 38])) (hS:=D2 0 rfl) (k:=D0 (ch:=[]) (e:=9) (l:=[(0,.string (ByteArray.mk #[38]))]) (c:=[.string (ByteArray.mk #[38])]) (k:=(fun b60=>?_)))
  refine F3 (i:=6) (ch:=[]) (t:=55) (tx:=55) (e:=9) (inf:=Tryz.t9) (s:=.slice a50 ((((0+1)+1)+1)+1) cap51) (x:=.slice (some ⟨b60,0,none⟩) 1 1) (n:=((((0+1)+1)+1)+1)) (m:=1) (j:=15) (cs:=(((([]++[.string (ByteArray.mk #[39])])++[.string (ByteArray.mk #[34])])++[.string (ByteArray.mk #[62])])++[.string (ByteArray.mk #[60])])) (news:=[.string (ByteArray.mk #[38])]) (g:=g48) (S:=(inG [(b60,.cells #[.string (ByteArray.mk #[38])] 9 (0,0))])) rfl rfl rfl rfl kr kr kr rfl rfl (.inl ⟨9,kr⟩) (fun ⟨_,h⟩=>by cases h) (fun _=>⟨9,kr⟩) kr kr kr rfl hO49 (SrcOf.slice _ _ _ _ Rd.lit (fun h=>by cases h)) (D2 0 rfl) kr (by intro u hu; rcases List.mem_singleton.1 hu with rfl; rfl) (by omega) (by show (((((0+1)+1)+1)+1)+1) * 16≤140737488355328; omega) (fun v61 g62 hO63=>?_)
  obtain ⟨a64,cap65,rfl,hcap66,hrd67⟩:=hO63.shape
  refine A6 (j:=8) [0] (k:=GL_st (ch:=[]) (b:=b2) (off:=256) (v:=.slice a64 (((((0+1)+1)+1)+1)+1) cap65) (j:=14) ([(b60,.cells #[.string (ByteArray.mk #[38])] 9 (0,0))]::[(b59,.cells #[.int .u8 38] 5 (0,0))]::g56::[(b46,.cells #[.string (ByteArray.mk #[60])] 9 (0,0))]::[(b45,.cells #[.int .u8 60] 5 (0,0))]::g42::[(b32,.cells #[.string (ByteArray.mk #[62])] 9 (0,0))]::[(b31,.cells #[.int .u8 62] 5 (0,0))]::g28::[(b18,.cells #[.string (ByteArray.mk #[34])] 9 (0,0))]::[(b17,.cells #[.int .u8 34] 5 (0,0))]::g14::[(b4,.cells #[.string (ByteArray.mk #[39])] 9 (0,0))]::[(b3,.cells #[.int .u8 39] 5 (0,0))]::[(b2,.cells (bsr [(34,.slice (some ⟨b26,0,none⟩) ((ByteArray.mk #[38,113,117,111,116,59]).size) cap27),(39,.slice (some ⟨b12,0,none⟩) ((ByteArray.mk #[38,35,51,57,59]).size) cap13),(60,.slice (some ⟨b54,0,none⟩) ((ByteArray.mk #[38,108,116,59]).size) cap55),(62,.slice (some ⟨b40,0,none⟩) ((ByteArray.mk #[38,103,116,59]).size) cap41)] (.slice a64 (((((0+1)+1)+1)+1)+1) cap65)) 111 (0,0))]::g62::[(b,.cells #[.int .u32 0,.int .i32 1,.int .u32 0,.nilIface,.slice a 10 cap] 71 (0,0))]::g::H) (hoff:=Nat.le_of_ble_eq_true kr) (hfz:=(fun _ _=>L3)) (k:=?_))
  refine B0 [] [3,11,12,13,14] (k:=A0 ?_)
  refine A2 (A6 (j:=2) [0,0] (k:=?_))
  refine J2 (ch:=[]) (src:=9) (dst:=37) (e:=5) (s:=(ByteArray.mk #[38,97,109,112,59])) (k:=(fun b68 cap69 g70 hcap71 hrd72=>?_))
  refine A6 (j:=4) [0] (k:=E0 (ch:=[]) (b:=b2) (off:=0) (len:=256) (sz:=1) (e:=37) (kd:=.u8) (j:=38) (hb:=(fun _=>⟨by decide,by decide⟩)) (k:=?_))
  refine GL_st (ch:=[]) (b:=b2) (off:=38) (v:=.slice (some ⟨b68,0,none⟩) ((ByteArray.mk #[38,97,109,112,59]).size) cap69) (j:=15) (g70::[(b60,.cells #[.string (ByteArray.mk #[38])] 9 (0,0))]::[(b59,.cells #[.int .u8 38] 5 (0,0))]::g56::[(b46,.cells #[.string (ByteArray.mk #[60])] 9 (0,0))]::[(b45,.cells #[.int .u8 60] 5 (0,0))]::g42::[(b32,.cells #[.string (ByteArray.mk #[62])] 9 (0,0))]::[(b31,.cells #[.int .u8 62] 5 (0,0))]::g28::[(b18,.cells #[.string (ByteArray.mk #[34])] 9 (0,0))]::[(b17,.cells #[.int .u8 34] 5 (0,0))]::g14::[(b4,.cells #[.string (ByteArray.mk #[39])] 9 (0,0))]::[(b3,.cells #[.int .u8 39] 5 (0,0))]::[(b2,.cells (bsr [(34,.slice (some ⟨b26,0,none⟩) ((ByteArray.mk #[38,113,117,111,116,59]).size) cap27),(38,.slice (some ⟨b68,0,none⟩) ((ByteArray.mk #[38,97,109,112,59]).size) cap69),(39,.slice (some ⟨b12,0,none⟩) ((ByteArray.mk #[38,35,51,57,59]).size) cap13),(60,.slice (some ⟨b54,0,none⟩) ((ByteArray.mk #[38,108,116,59]).size) cap55),(62,.slice (some ⟨b40,0,none⟩) ((ByteArray.mk #[38,103,116,59]).size) cap41)] (.slice a64 (((((0+1)+1)+1)+1)+1) cap65)) 111 (0,0))]::g62::[(b,.cells #[.int .u32 0,.int .i32 1,.int .u32 0,.nilIface,.slice a 10 cap] 71 (0,0))]::g::H) (hoff:=Nat.le_of_ble_eq_true kr) (hfz:=(fun _ _=>L3)) (k:=B8 (E':=[⟨3,[],.slice a 10 cap⟩,⟨11,[],pt b2⟩,⟨12,[],.int .i64 0⟩]) [] [3,11,12] (k:=?_))
  refine B2 (A0 ?_)
  refine G_p [0,0,0] [3,11,12] (k:=N_rd ?_)
  refine E4 (A1 ?_)
  refine A1 (G_p [0,0] [3,11,12,100] (k:=?_))
  refine A0 (D7 kr ?_)
  refine F7 (A8 ?_)
  refine A8 (C2 ?_)
  refine A0 (A1 ?_)
  refine B3 (E':=[⟨2,[],.iface 112 (pt b2)⟩]) [0,0] [2] (k:=A0 ?_)
  refine B6 (C9 (H':=(g70::[(b60,.cells #[.string (ByteArray.mk #[38])] 9 (0,0))]::[(b59,.cells #[.int .u8 38] 5 (0,0))]::g56::[(b46,.cells #[.string (ByteArray.mk #[60])] 9 (0,0))]::[(b45,.cells #[.int .u8 60] 5 (0,0))]::g42::[(b32,.cells #[.string (ByteArray.mk #[62])] 9 (0,0))]::[(b31,.cells #[.int .u8 62] 5 (0,0))]::g28::[(b18,.cells #[.string (ByteArray.mk #[34])] 9 (0,0))]::[(b17,.cells #[.int .u8 34] 5 (0,0))]::g14::[(b4,.cells #[.string (ByteArray.mk #[39])] 9 (0,0))]::[(b2,.cells (bsr [(34,.slice (some ⟨b26,0,none⟩) ((ByteArray.mk #[38,113,117,111,116,59]).size) cap27),(38,.slice (some ⟨b68,0,none⟩) ((ByteArray.mk #[38,97,109,112,59]).size) cap69),(39,.slice (some ⟨b12,0,none⟩) ((ByteArray.mk #[38,35,51,57,59]).size) cap13),(60,.slice (some ⟨b54,0,none⟩) ((ByteArray.mk #[38,108,116,59]).size) cap55),(62,.slice (some ⟨b40,0,none⟩) ((ByteArray.mk #[38,103,116,59]).size) cap41)] (.slice a64 (((((0+1)+1)+1)+1)+1) cap65)) 111 (0,0))]::g62::[(b,.cells #[.int .u32 0,.int .i32 1,.int .u32 0,.nilIface,.slice a 10 cap] 71 (0,0))]::g::H)) (fun w h=>h.erase 14) ?_)
  refine C9 (H':=(g70::[(b60,.cells #[.string (ByteArray.mk #[38])] 9 (0,0))]::[(b59,.cells #[.int .u8 38] 5 (0,0))]::g56::[(b46,.cells #[.string (ByteArray.mk #[60])] 9 (0,0))]::[(b45,.cells #[.int .u8 60] 5 (0,0))]::g42::[(b32,.cells #[.string (ByteArray.mk #[62])] 9 (0,0))]::[(b31,.cells #[.int .u8 62] 5 (0,0))]::g28::[(b18,.cells #[.string (ByteArray.mk #[34])] 9 (0,0))]::[(b17,.cells #[.int .u8 34] 5 (0,0))]::g14::[(b2,.cells (bsr [(34,.slice (some ⟨b26,0,none⟩) ((ByteArray.mk #[38,113,117,111,116,59]).size) cap27),(38,.slice (some ⟨b68,0,none⟩) ((ByteArray.mk #[38,97,109,112,59]).size) cap69),(39,.slice (some ⟨b12,0,none⟩) ((ByteArray.mk #[38,35,51,57,59]).size) cap13),(60,.slice (some ⟨b54,0,none⟩) ((ByteArray.mk #[38,108,116,59]).size) cap55),(62,.slice (some ⟨b40,0,none⟩) ((ByteArray.mk #[38,103,116,59]).size) cap41)] (.slice a64 (((((0+1)+1)+1)+1)+1) cap65)) 111 (0,0))]::g62::[(b,.cells #[.int .u32 0,.int .i32 1,.int .u32 0,.nilIface,.slice a 10 cap] 71 (0,0))]::g::H)) (fun w h=>h.erase 13) (C9 (H':=(g70::[(b60,.cells #[.string (ByteArray.mk #[38])] 9 (0,0))]::[(b59,.cells #[.int .u8 38] 5 (0,0))]::g56::[(b46,.cells #[.string (ByteArray.mk #[60])] 9 (0,0))]::[(b45,.cells #[.int .u8 60] 5 (0,0))]::g42::[(b32,.cells #[.string (ByteArray.mk #[62])] 9 (0,0))]::[(b31,.cells #[.int .u8 62] 5 (0,0))]::g28::[(b18,.cells #[.string (ByteArray.mk #[34])] 9 (0,0))]::g14::[(b2,.cells (bsr [(34,.slice (some ⟨b26,0,none⟩) ((ByteArray.mk #[38,113,117,111,116,59]).size) cap27),(38,.slice (some ⟨b68,0,none⟩) ((ByteArray.mk #[38,97,109,112,59]).size) cap69),(39,.slice (some ⟨b12,0,none⟩) ((ByteArray.mk #[38,35,51,57,59]).size) cap13),(60,.slice (some ⟨b54,0,none⟩) ((ByteArray.mk #[38,108,116,59]).size) cap55),(62,.slice (some ⟨b40,0,none⟩) ((ByteArray.mk #[38,103,116,59]).size) cap41)] (.slice a64 (((((0+1)+1)+1)+1)+1) cap65)) 111 (0,0))]::g62::[(b,.cells #[.int .u32 0,.int .i32 1,.int .u32 0,.nilIface,.slice a 10 cap] 71 (0,0))]::g::H)) (fun w h=>h.erase 11) ?_)
  refine C9 (H':=(g70::[(b60,.cells #[.string (ByteArray.mk #[38])] 9 (0,0))]::[(b59,.cells #[.int .u8 38] 5 (0,0))]::g56::[(b46,.cells #[.string (ByteArray.mk #[60])] 9 (0,0))]::[(b45,.cells #[.int .u8 60] 5 (0,0))]::g42::[(b32,.cells #[.string (ByteArray.mk #[62])] 9 (0,0))]::[(b31,.cells #[.int .u8 62] 5 (0,0))]::g28::g14::[(b2,.cells (bsr [(34,.slice (some ⟨b26,0,none⟩) ((ByteArray.mk #[38,113,117,111,116,59]).size) cap27),(38,.slice (some ⟨b68,0,none⟩) ((ByteArray.mk #[38,97,109,112,59]).size) cap69),(39,.slice (some ⟨b12,0,none⟩) ((ByteArray.mk #[38,35,51,57,59]).size) cap13),(60,.slice (some ⟨b54,0,none⟩) ((ByteArray.mk #[38,108,116,59]).size) cap55),(62,.slice (some ⟨b40,0,none⟩) ((ByteArray.mk #[38,103,116,59]).size) cap41)] (.slice a64 (((((0+1)+1)+1)+1)+1) cap65)) 111 (0,0))]::g62::[(b,.cells #[.int .u32 0,.int .i32 1,.int .u32 0,.nilIface,.slice a 10 cap] 71 (0,0))]::g::H)) (fun w h=>h.erase 10) (C9 (H':=(g70::[(b60,.cells #[.string (ByteArray.mk #[38])] 9 (0,0))]::[(b59,.cells #[.int .u8 38] 5 (0,0))]::g56::[(b46,.cells #[.string (ByteArray.mk #[60])] 9 (0,0))]::[(b45,.cells #[.int .u8 60] 5 (0,0))]::g42::[(b32,.cells #[.string (ByteArray.mk #[62])] 9 (0,0))]::g28::g14::[(b2,.cells (bsr [(34,.slice (some ⟨b26,0,none⟩) ((ByteArray.mk #[38,113,117,111,116,59]).size) cap27),(38,.slice (some ⟨b68,0,none⟩) ((ByteArray.mk #[38,97,109,112,59]).size) cap69),(39,.slice (some ⟨b12,0,none⟩) ((ByteArray.mk #[38,35,51,57,59]).size) cap13),(60,.slice (some ⟨b54,0,none⟩) ((ByteArray.mk #[38,108,116,59]).size) cap55),(62,.slice (some ⟨b40,0,none⟩) ((ByteArray.mk #[38,103,116,59]).size) cap41)] (.slice a64 (((((0+1)+1)+1)+1)+1) cap65)) 111 (0,0))]::g62::[(b,.cells #[.int .u32 0,.int .i32 1,.int .u32 0,.nilIface,.slice a 10 cap] 71 (0,0))]::g::H)) (fun w h=>h.erase 8) ?_)
  refine C9 (H':=(g70::[(b60,.cells #[.string (ByteArray.mk #[38])] 9 (0,0))]::[(b59,.cells #[.int .u8 38] 5 (0,0))]::g56::[(b46,.cells #[.string (ByteArray.mk #[60])] 9 (0,0))]::[(b45,.cells #[.int .u8 60] 5 (0,0))]::g42::g28::g14::[(b2,.cells (bsr [(34,.slice (some ⟨b26,0,none⟩) ((ByteArray.mk #[38,113,117,111,116,59]).size) cap27),(38,.slice (some ⟨b68,0,none⟩) ((ByteArray.mk #[38,97,109,112,59]).size) cap69),(39,.slice (some ⟨b12,0,none⟩) ((ByteArray.mk #[38,35,51,57,59]).size) cap13),(60,.slice (some ⟨b54,0,none⟩) ((ByteArray.mk #[38,108,116,59]).size) cap55),(62,.slice (some ⟨b40,0,none⟩) ((ByteArray.mk #[38,103,116,59]).size) cap41)] (.slice a64 (((((0+1)+1)+1)+1)+1) cap65)) 111 (0,0))]::g62::[(b,.cells #[.int .u32 0,.int .i32 1,.int .u32 0,.nilIface,.slice a 10 cap] 71 (0,0))]::g::H)) (fun w h=>h.erase 7) (C9 (H':=(g70::[(b60,.cells #[.string (ByteArray.mk #[38])] 9 (0,0))]::[(b59,.cells #[.int .u8 38] 5 (0,0))]::g56::[(b46,.cells #[.string (ByteArray.mk #[60])] 9 (0,0))]::g42::g28::g14::[(b2,.cells (bsr [(34,.slice (some ⟨b26,0,none⟩) ((ByteArray.mk #[38,113,117,111,116,59]).size) cap27),(38,.slice (some ⟨b68,0,none⟩) ((ByteArray.mk #[38,97,109,112,59]).size) cap69),(39,.slice (some ⟨b12,0,none⟩) ((ByteArray.mk #[38,35,51,57,59]).size) cap13),(60,.slice (some ⟨b54,0,none⟩) ((ByteArray.mk #[38,108,116,59]).size) cap55),(62,.slice (some ⟨b40,0,none⟩) ((ByteArray.mk #[38,103,116,59]).size) cap41)] (.slice a64 (((((0+1)+1)+1)+1)+1) cap65)) 111 (0,0))]::g62::[(b,.cells #[.int .u32 0,.int .i32 1,.int .u32 0,.nilIface,.slice a 10 cap] 71 (0,0))]::g::H)) (fun w h=>h.erase 5) ?_)
  refine C9 (H':=(g70::[(b60,.cells #[.string (ByteArray.mk #[38])] 9 (0,0))]::[(b59,.cells #[.int .u8 38] 5 (0,0))]::g56::g42::g28::g14::[(b2,.cells (bsr [(34,.slice (some ⟨b26,0,none⟩) ((ByteArray.mk #[38,113,117,111,116,59]).size) cap27),(38,.slice (some ⟨b68,0,none⟩) ((ByteArray.mk #[38,97,109,112,59]).size) cap69),(39,.slice (some ⟨b12,0,none⟩) ((ByteArray.mk #[38,35,51,57,59]).size) cap13),(60,.slice (some ⟨b54,0,none⟩) ((ByteArray.mk #[38,108,116,59]).size) cap55),(62,.slice (some ⟨b40,0,none⟩) ((ByteArray.mk #[38,103,116,59]).size) cap41)] (.slice a64 (((((0+1)+1)+1)+1)+1) cap65)) 111 (0,0))]::g62::[(b,.cells #[.int .u32 0,.int .i32 1,.int .u32 0,.nilIface,.slice a 10 cap] 71 (0,0))]::g::H)) (fun w h=>h.erase 4) (C9 (H':=(g70::[(b60,.cells #[.string (ByteArray.mk #[38])] 9 (0,0))]::g56::g42::g28::g14::[(b2,.cells (bsr [(34,.slice (some ⟨b26,0,none⟩) ((ByteArray.mk #[38,113,117,111,116,59]).size) cap27),(38,.slice (some ⟨b68,0,none⟩) ((ByteArray.mk #[38,97,109,112,59]).size) cap69),(39,.slice (some ⟨b12,0,none⟩) ((ByteArray.mk #[38,35,51,57,59]).size) cap13),(60,.slice (some ⟨b54,0,none⟩) ((ByteArray.mk #[38,108,116,59]).size) cap55),(62,.slice (some ⟨b40,0,none⟩) ((ByteArray.mk #[38,103,116,59]).size) cap41)] (.slice a64 (((((0+1)+1)+1)+1)+1) cap65)) 111 (0,0))]::g62::[(b,.cells #[.int .u32 0,.int .i32 1,.int .u32 0,.nilIface,.slice a 10 cap] 71 (0,0))]::g::H)) (fun w h=>h.erase 2) ?_)
  refine C9 (H':=(g70::g56::g42::g28::g14::[(b2,.cells (bsr [(34,.slice (some ⟨b26,0,none⟩) ((ByteArray.mk #[38,113,117,111,116,59]).size) cap27),(38,.slice (some ⟨b68,0,none⟩) ((ByteArray.mk #[38,97,109,112,59]).size) cap69),(39,.slice (some ⟨b12,0,none⟩) ((ByteArray.mk #[38,35,51,57,59]).size) cap13),(60,.slice (some ⟨b54,0,none⟩) ((ByteArray.mk #[38,108,116,59]).size) cap55),(62,.slice (some ⟨b40,0,none⟩) ((ByteArray.mk #[38,103,116,59]).size) cap41)] (.slice a64 (((((0+1)+1)+1)+1)+1) cap65)) 111 (0,0))]::g62::[(b,.cells #[.int .u32 0,.int .i32 1,.int .u32 0,.nilIface,.slice a 10 cap] 71 (0,0))]::g::H)) (fun w h=>h.erase 1) (C9 (H':=([(b2,.cells (bsr [(34,.slice (some ⟨b26,0,none⟩) ((ByteArray.mk #[38,113,117,111,116,59]).size) cap27),(38,.slice (some ⟨b68,0,none⟩) ((ByteArray.mk #[38,97,109,112,59]).size) cap69),(39,.slice (some ⟨b12,0,none⟩) ((ByteArray.mk #[38,35,51,57,59]).size) cap13),(60,.slice (some ⟨b54,0,none⟩) ((ByteArray.mk #[38,108,116,59]).size) cap55),(62,.slice (some ⟨b40,0,none⟩) ((ByteArray.mk #[38,103,116,59]).size) cap41)] (.slice a64 (((((0+1)+1)+1)+1)+1) cap65)) 111 (0,0))]::g62::g70::g56::g42::g28::g14::[(b,.cells #[.int .u32 0,.int .i32 1,.int .u32 0,.nilIface,.slice a 10 cap] 71 (0,0))]::g::H)) (fun w h=>(((((((((h.front (j:=8) rfl).front (j:=8) rfl).front (j:=6) rfl).front (j:=6) rfl).front (j:=6) rfl).front (j:=6) rfl).front (j:=6) rfl).front (j:=8) rfl).front (j:=8) rfl)) ?_)
  refine B5 [.tmp 2] [.iface 112 (pt b2)] (k:=?_)
  refine ⟨b2,a64,cap65,g62,b68,cap69,g70,b54,cap55,g56,b40,cap41,g42,b26,cap27,g28,b12,cap13,g14,rfl,?_,⟨hrd72,hrd58,hrd44,hrd30,hrd16⟩,?_⟩
  · exact hO63
  · kernel_rfl
def htmlRep (g:Grp) (x:Value) (K:List Grp):Prop:=∃ c aT cT gT a38 c38 g38 a60 c60 g60 a62 c62 g62 a34 c34 g34 a39 c39 g39,x=.iface 112 (pt c)∧Go.Sw.Own 9 1 (.slice aT 5 cT) gT 5 I3∧(Rd (inG g38) (some ⟨a38,0,none⟩) (u8s (ByteArray.mk #[38,97,109,112,59]).data.toList)∧Rd (inG g60) (some ⟨a60,0,none⟩) (u8s (ByteArray.mk #[38,108,116,59]).data.toList)∧Rd (inG g62) (some ⟨a62,0,none⟩) (u8s (ByteArray.mk #[38,103,116,59]).data.toList)∧Rd (inG g34) (some ⟨a34,0,none⟩) (u8s (ByteArray.mk #[38,113,117,111,116,59]).data.toList)∧Rd (inG g39) (some ⟨a39,0,none⟩) (u8s (ByteArray.mk #[38,35,51,57,59]).data.toList))∧K=[[(c,.cells (bsr [(34,.slice (some ⟨a34,0,none⟩) 6 c34),(38,.slice (some ⟨a38,0,none⟩) 5 c38),(39,.slice (some ⟨a39,0,none⟩) 5 c39),(60,.slice (some ⟨a60,0,none⟩) 4 c60),(62,.slice (some ⟨a62,0,none⟩) 4 c62)] (.slice aT 5 cT)) 111 (0,0))],gT,g38,g60,g62,g34,g39,g]
theorem buildOnce_ (b:Nat) (a:Option Addr) (cap:Nat) (g:Grp) (hr:Rd (inG g) a H6) (W0:World) (H:List Grp):Tri Tryz.prog 42 #[pt b] W0 ([(b,.cells #[.int .u32 0,.int .i32 1,.int .u32 0,.nilIface,.slice a 10 cap] 71 (0,0))]::g::H) (fun _ H'=>∃ r2 K2,htmlRep g r2 K2∧H'=repG b 0 1 r2 (.slice none 0 0)::(K2++H)):=by
 refine D1 (args:=[pt b]) (n:=10) Tryz.func42 rfl rfl (Nat.le_of_ble_eq_true rfl) ?_
 refine A1 (A2 ?_)
 refine A6 (j:=2) [0,0] (k:=F2 Tryz.func59 (build_ b a cap g hr _ _) ?_)
 rintro _ _ ⟨c,aT,cT,gT,a38,c38,g38,a60,c60,g60,a62,c62,g62,a34,c34,g34,a39,c39,g39,rfl,hT,hR,rfl⟩
 refine A6 (j:=5) [0,0] (k:=GL_st (ch:=[]) (b:=b) (off:=3) (v:=.iface 112 (pt c)) (j:=7) ([(c,.cells (bsr [(34,.slice (some ⟨a34,0,none⟩) 6 c34),(38,.slice (some ⟨a38,0,none⟩) 5 c38),(39,.slice (some ⟨a39,0,none⟩) 5 c39),(60,.slice (some ⟨a60,0,none⟩) 4 c60),(62,.slice (some ⟨a62,0,none⟩) 4 c62)] (.slice aT 5 cT)) 111 (0,0))]::gT::g38::g60::g62::g34::g39::[(b,.cells #[.int .u32 0,.int .i32 1,.int .u32 0,.iface 112 (pt c),.slice a 10 cap] 71 (0,0))]::g::H) (hoff:=Nat.le_of_ble_eq_true rfl) (hfz:=(fun _ _=>L3)) (k:=?_))
 refine B8 (E':=[⟨0,[],pt b⟩]) [] [0] (k:=A0 ?_)
 refine A2 (A6 (j:=3) [0,0,0] (k:=?_))
 refine GL_st (ch:=[]) (b:=b) (off:=4) (v:=.slice none 0 0) (j:=7) ([(c,.cells (bsr [(34,.slice (some ⟨a34,0,none⟩) 6 c34),(38,.slice (some ⟨a38,0,none⟩) 5 c38),(39,.slice (some ⟨a39,0,none⟩) 5 c39),(60,.slice (some ⟨a60,0,none⟩) 4 c60),(62,.slice (some ⟨a62,0,none⟩) 4 c62)] (.slice aT 5 cT)) 111 (0,0))]::gT::g38::g60::g62::g34::g39::[(b,.cells #[.int .u32 0,.int .i32 1,.int .u32 0,.iface 112 (pt c),.slice none 0 0] 71 (0,0))]::g::H) (hoff:=Nat.le_of_ble_eq_true rfl) (hfz:=(fun _ _=>L3)) (k:=B8 (E':=[]) [] [] (k:=?_))
 refine C9 (H':=([(b,.cells #[.int .u32 0,.int .i32 1,.int .u32 0,.iface 112 (pt c),.slice none 0 0] 71 (0,0))]::[(c,.cells (bsr [(34,.slice (some ⟨a34,0,none⟩) 6 c34),(38,.slice (some ⟨a38,0,none⟩) 5 c38),(39,.slice (some ⟨a39,0,none⟩) 5 c39),(60,.slice (some ⟨a60,0,none⟩) 4 c60),(62,.slice (some ⟨a62,0,none⟩) 4 c62)] (.slice aT 5 cT)) 111 (0,0))]::gT::g38::g60::g62::g34::g39::g::H)) (fun w h=>(((((((((h.front (j:=8) rfl).front (j:=7) rfl).front (j:=7) rfl).front (j:=7) rfl).front (j:=7) rfl).front (j:=7) rfl).front (j:=7) rfl).front (j:=7) rfl).front (j:=8) rfl)) (B5 [] [] (k:=?_))
 exact ⟨_,_,⟨c,aT,cT,gT,a38,c38,g38,a60,c60,g60,a62,c62,g62,a34,c34,g34,a39,c39,g39,rfl,hT,hR,rfl⟩,rfl⟩
theorem htmlOnce (b:Nat) (a:Option Addr) (cap:Nat) (g:Grp) (hr:Rd (inG g) a H6) (W0:World) (H:List Grp):Tri Tryz.prog 41 #[pt b,.func (.func 42) #[pt b] #[]] W0 (repG b 0 0 .nilIface (.slice a 10 cap)::([g]++H)) (fun _ H'=>∃ r2 K2,htmlRep g r2 K2∧H'=repG b 1 0 r2 (.slice none 0 0)::(K2++H)) :=
  onceDo_ b .nilIface (.slice a 10 cap) (.slice none 0 0) [g] (htmlRep g) (fun W0 H=>buildOnce_ b a cap g hr W0 H) W0 H
theorem repReplace_ (b:Nat) (a:Option Addr) (cap:Nat) (g:Grp) (hr:Rd (inG g) a H6) (x y:ByteArray) (hrep:∀ c aT cT gT a38 c38 g38 a60 c60 g60 a62 c62 g62 a34 c34 g34 a39 c39 g39 W0 H,Go.Sw.Own 9 1 (.slice aT 5 cT) gT 5 I3→(Rd (inG g38) (some ⟨a38,0,none⟩) (u8s (ByteArray.mk #[38,97,109,112,59]).data.toList)∧Rd (inG g60) (some ⟨a60,0,none⟩) (u8s (ByteArray.mk #[38,108,116,59]).data.toList)∧Rd (inG g62) (some ⟨a62,0,none⟩) (u8s (ByteArray.mk #[38,103,116,59]).data.toList)∧Rd (inG g34) (some ⟨a34,0,none⟩) (u8s (ByteArray.mk #[38,113,117,111,116,59]).data.toList)∧Rd (inG g39) (some ⟨a39,0,none⟩) (u8s (ByteArray.mk #[38,35,51,57,59]).data.toList))→Tri Tryz.prog 155 #[pt c,.string x] W0 ([(c,.cells (bsr [(34,.slice (some ⟨a34,0,none⟩) 6 c34),(38,.slice (some ⟨a38,0,none⟩) 5 c38),(39,.slice (some ⟨a39,0,none⟩) 5 c39),(60,.slice (some ⟨a60,0,none⟩) 4 c60),(62,.slice (some ⟨a62,0,none⟩) 4 c62)] (.slice aT 5 cT)) 111 (0,0))]::gT::g38::g60::g62::g34::g39::H) (fun v H'=>v=.string y∧H'=[(c,.cells (bsr [(34,.slice (some ⟨a34,0,none⟩) 6 c34),(38,.slice (some ⟨a38,0,none⟩) 5 c38),(39,.slice (some ⟨a39,0,none⟩) 5 c39),(60,.slice (some ⟨a60,0,none⟩) 4 c60),(62,.slice (some ⟨a62,0,none⟩) 4 c62)] (.slice aT 5 cT)) 111 (0,0))]::gT::g38::g60::g62::g34::g39::H)) (W0:World) (H:List Grp):Tri Tryz.prog 24 #[pt b,.string x] W0 ([(b,.cells #[.int .u32 0,.int .i32 0,.int .u32 0,.nilIface,.slice a 10 cap] 71 (0,0))]::g::H) (fun v H'=>v=.string y∧H'=H):=by
 refine D1 (args:=[pt b,.string x]) (n:=17) Tryz.func24 rfl rfl (Nat.le_of_ble_eq_true rfl) ?_
 refine A1 (B3 (E':=[⟨0,[],pt b⟩,⟨1,[],.string x⟩]) [0] [0,1] (k:=?_))
 refine A0 (A1 ?_)
 refine A2 (A6 (j:=5) [0,0,0,0,0] (k:=?_))
 refine F2 Tryz.func41 (htmlOnce b a cap g hr _ _) ?_
 rintro _ _ ⟨_,_,⟨c,aT,cT,gT,a38,c38,g38,a60,c60,g60,a62,c62,g62,a34,c34,g34,a39,c39,g39,rfl,hT,hR,rfl⟩,rfl⟩
 refine B8 (E':=[⟨0,[],pt b⟩,⟨1,[],.string x⟩]) [] [0,1] (k:=A0 ?_)
 refine A1 (A2 ?_)
 refine A6 (j:=3) [0,0,0] (k:=E9 (ch:=[]) (b:=b) (off:=3) (v:=.iface 112 (pt c)) (hA:=At.grp 0 0 rfl rfl) (hv:=rfl) (k:=?_))
 refine A6 (j:=5) [0] (k:=GL_heap rfl (H':=([(c,.cells (bsr [(34,.slice (some ⟨a34,0,none⟩) 6 c34),(38,.slice (some ⟨a38,0,none⟩) 5 c38),(39,.slice (some ⟨a39,0,none⟩) 5 c39),(60,.slice (some ⟨a60,0,none⟩) 4 c60),(62,.slice (some ⟨a62,0,none⟩) 4 c62)] (.slice aT 5 cT)) 111 (0,0))]::gT::g38::g60::g62::g34::g39::[(b,.cells #[.int .u32 1,.int .i32 0,.int .u32 0,.iface 112 (pt c),.slice none 0 0] 71 (0,0))]::g::H)) (fun w h=>(((((((h.front (j:=7) rfl).front (j:=7) rfl).front (j:=7) rfl).front (j:=7) rfl).front (j:=7) rfl).front (j:=7) rfl).front (j:=7) rfl)) ?_)
 refine GL_invoke (i:=5) (t:=112) (rv:=pt c) (f:=155) (vs:=[.string x]) (av:=#[pt c,.string x]) rfl rfl rfl kr kr rfl kr (fun _=>by kernel_rfl) (hrep c aT cT gT a38 c38 g38 a60 c60 g60 a62 c62 g62 a34 c34 g34 a39 c39 g39 _ _ hT hR) ?_
 rintro _ _ ⟨rfl,rfl⟩
 refine B8 (E':=[⟨4,[],.string y⟩]) [0] [4] (k:=A0 ?_)
 refine B6 (C9 (H':=([(c,.cells (bsr [(34,.slice (some ⟨a34,0,none⟩) 6 c34),(38,.slice (some ⟨a38,0,none⟩) 5 c38),(39,.slice (some ⟨a39,0,none⟩) 5 c39),(60,.slice (some ⟨a60,0,none⟩) 4 c60),(62,.slice (some ⟨a62,0,none⟩) 4 c62)] (.slice aT 5 cT)) 111 (0,0))]::gT::g38::g60::g62::g34::g39::[(b,.cells #[.int .u32 1,.int .i32 0,.int .u32 0,.iface 112 (pt c),.slice none 0 0] 71 (0,0))]::H)) (fun w h=>h.erase 8) ?_)
 refine C9 (H':=([(c,.cells (bsr [(34,.slice (some ⟨a34,0,none⟩) 6 c34),(38,.slice (some ⟨a38,0,none⟩) 5 c38),(39,.slice (some ⟨a39,0,none⟩) 5 c39),(60,.slice (some ⟨a60,0,none⟩) 4 c60),(62,.slice (some ⟨a62,0,none⟩) 4 c62)] (.slice aT 5 cT)) 111 (0,0))]::gT::g38::g60::g62::g34::g39::H)) (fun w h=>h.erase 7) (C9 (H':=([(c,.cells (bsr [(34,.slice (some ⟨a34,0,none⟩) 6 c34),(38,.slice (some ⟨a38,0,none⟩) 5 c38),(39,.slice (some ⟨a39,0,none⟩) 5 c39),(60,.slice (some ⟨a60,0,none⟩) 4 c60),(62,.slice (some ⟨a62,0,none⟩) 4 c62)] (.slice aT 5 cT)) 111 (0,0))]::gT::g38::g60::g62::g34::H)) (fun w h=>h.erase 6) ?_)
 refine C9 (H':=([(c,.cells (bsr [(34,.slice (some ⟨a34,0,none⟩) 6 c34),(38,.slice (some ⟨a38,0,none⟩) 5 c38),(39,.slice (some ⟨a39,0,none⟩) 5 c39),(60,.slice (some ⟨a60,0,none⟩) 4 c60),(62,.slice (some ⟨a62,0,none⟩) 4 c62)] (.slice aT 5 cT)) 111 (0,0))]::gT::g38::g60::g62::H)) (fun w h=>h.erase 5) (C9 (H':=([(c,.cells (bsr [(34,.slice (some ⟨a34,0,none⟩) 6 c34),(38,.slice (some ⟨a38,0,none⟩) 5 c38),(39,.slice (some ⟨a39,0,none⟩) 5 c39),(60,.slice (some ⟨a60,0,none⟩) 4 c60),(62,.slice (some ⟨a62,0,none⟩) 4 c62)] (.slice aT 5 cT)) 111 (0,0))]::gT::g38::g60::H)) (fun w h=>h.erase 4) ?_)
 refine C9 (H':=([(c,.cells (bsr [(34,.slice (some ⟨a34,0,none⟩) 6 c34),(38,.slice (some ⟨a38,0,none⟩) 5 c38),(39,.slice (some ⟨a39,0,none⟩) 5 c39),(60,.slice (some ⟨a60,0,none⟩) 4 c60),(62,.slice (some ⟨a62,0,none⟩) 4 c62)] (.slice aT 5 cT)) 111 (0,0))]::gT::g38::H)) (fun w h=>h.erase 3) (C9 (H':=([(c,.cells (bsr [(34,.slice (some ⟨a34,0,none⟩) 6 c34),(38,.slice (some ⟨a38,0,none⟩) 5 c38),(39,.slice (some ⟨a39,0,none⟩) 5 c39),(60,.slice (some ⟨a60,0,none⟩) 4 c60),(62,.slice (some ⟨a62,0,none⟩) 4 c62)] (.slice aT 5 cT)) 111 (0,0))]::gT::H)) (fun w h=>h.erase 2) ?_)
 refine C9 (H':=([(c,.cells (bsr [(34,.slice (some ⟨a34,0,none⟩) 6 c34),(38,.slice (some ⟨a38,0,none⟩) 5 c38),(39,.slice (some ⟨a39,0,none⟩) 5 c39),(60,.slice (some ⟨a60,0,none⟩) 4 c60),(62,.slice (some ⟨a62,0,none⟩) 4 c62)] (.slice aT 5 cT)) 111 (0,0))]::H)) (fun w h=>h.erase 1) (C9 (H':=H) (fun w h=>h.erase 0) ?_)
 refine B5 [.tmp 4] [.string y] (k:=?_)
 exact ⟨rfl,rfl⟩
end Go.Proofs.YtbnfbffiehoapaaGreatDoor
namespace Go.Sw
open Go.Esc
theorem rd_cell {S:Nat→Obj→Prop} {a:Addr} {cs:List Value} {W0:World} {H:List Grp} (hrd:Rd S (some a) cs) (hS:∀ b o,S b o→At W0 H b o):∀ w,Sat W0 H w→∀ k v,cs[k]? = some v→w.cell? (a.add k)=some v:=by
  intro w hs k v hv
  obtain ⟨b,off,c,t,fz,h1,h2,h3,h4⟩:=hrd.elt hv
  have ha:a.add k=⟨b,off+k,none⟩:=h3
  rw [ha]; exact L4 (hs.at (hS _ _ h2)) h4
theorem cut_some {b n j:Nat} (h:j<n):cutA (some ⟨b,0,none⟩) n j 1=some ⟨b,j,none⟩:=by
  unfold cutA; rw [if_neg (by omega)]; simp [J1]
def rowZ (l:List UInt8) (k:Nat):Array Value:=(u8s l++List.replicate k (Value.int .u8 0)).toArray
theorem rowZ_size (l:List UInt8) (k:Nat):(rowZ l k).size=l.length+k:=by simp [rowZ,u8s]
theorem madeZ (n:Nat):madeCells (Value.int .u8 0).cells (n * 1)=rowZ [] n:=by
  have e:madeCells (Value.int .u8 0).cells (n * 1)=Array.replicate n (Value.int .u8 0):=by
    apply Array.ext
    · simp [madeCells]
    · intro i h1 h2
      simp [madeCells,Value.cells,Nat.mod_one]
  rw [e]; simp [rowZ,u8s]
theorem rowZ_set (l:List UInt8) (k:Nat) (b:UInt8) {q:Nat} (hq:q=l.length):setRow (rowZ l (k+1)) q [.int .u8 (b.toNat:Int)]=rowZ (l++[b]) k:=by
  subst hq
  have:=setRow_mid [.int .u8 (b.toNat:Int)] (u8s l) (List.replicate k (.int .u8 0)) [.int .u8 0] rfl
  rw [show (u8s l).length=l.length from List.length_map _] at this
  unfold rowZ
  rw [show u8s l++List.replicate (k+1) (Value.int .u8 0)=u8s l++[.int .u8 0]++List.replicate k (.int .u8 0) by simp [List.replicate_succ],this]
  simp [u8s]
theorem rowZ_copy (l t:List UInt8) (k:Nat) (hk:t.length≤k):((rowZ l k).toList.take l.length++u8s t++(rowZ l k).toList.drop (l.length+(u8s t).length)).toArray=rowZ (l++t) (k - t.length):=by
  unfold rowZ
  have e:(u8s l).length=l.length:=List.length_map _
  have e2:(u8s t).length=t.length:=List.length_map _
  rw [e2]
  congr 1
  have h1:(u8s l++List.replicate k (Value.int .u8 0)).take l.length=u8s l:=by rw [← e,List.take_left]
  have h2:(u8s l++List.replicate k (Value.int .u8 0)).drop (l.length+t.length)=List.replicate (k - t.length) (.int .u8 0):=by rw [← e,List.drop_append,List.drop_replicate,List.drop_eq_nil_of_le (by omega),List.nil_append]; congr 1; omega
  rw [h1,h2]
  simp [u8s]
theorem rowZ_rd {b:Nat} (l:List UInt8) {k:Nat} (hk:k=0):Rd (inG [(b,.cells (rowZ l k) 5 (0,0))]) (some ⟨b,0,none⟩) (u8s l):=by
  subst hk
  have:rowZ l 0=(u8s l).toArray:=by simp [rowZ]
  rw [this]; exact Rd.lit
end Go.Sw
namespace Go.Proofs.YtbnfbffiehoapaaGreatDoor
open Go.Sw Go.Esc
theorem tab_case (t a38 a60 a62 a34 a39 c38 c60 c62 c34 c39:_) (x:UInt8) :
    (∃ A L C u,(A,L,C,u)∈[(a38,5,c38,[38,97,109,112,59]),(a60,4,c60,[38,108,116,59]),(a62,4,c62,[38,103,116,59]),(a34,6,c34,[38,113,117,111,116,59]),(a39,5,c39,[38,35,51,57,59])]∧B9 x=some u∧L=u.length ∧
      (bsr [(34,.slice (some ⟨a34,0,none⟩) 6 c34),(38,.slice (some ⟨a38,0,none⟩) 5 c38),(39,.slice (some ⟨a39,0,none⟩) 5 c39),(60,.slice (some ⟨a60,0,none⟩) 4 c60),(62,.slice (some ⟨a62,0,none⟩) 4 c62)] t)[x.toNat]? = some (.slice (some ⟨A,0,none⟩) L C)) ∨
    (B9 x=none∧(bsr [(34,.slice (some ⟨a34,0,none⟩) 6 c34),(38,.slice (some ⟨a38,0,none⟩) 5 c38),(39,.slice (some ⟨a39,0,none⟩) 5 c39),(60,.slice (some ⟨a60,0,none⟩) 4 c60),(62,.slice (some ⟨a62,0,none⟩) 4 c62)] t)[x.toNat]? = some (.slice none 0 0)):=by
  have hx:=x.toNat_lt
  unfold bsr
  rw [List.getElem?_toArray,List.getElem?_append_left (by simpa using hx),List.getElem?_map,List.getElem?_range hx]
  simp only [Option.map_some]
  by_cases h1:x=38
  · subst h1; exact .inl ⟨a38,5,c38,_,by simp,rfl,rfl,rfl⟩
  by_cases h2:x=60
  · subst h2; exact .inl ⟨a60,4,c60,_,by simp,rfl,rfl,rfl⟩
  by_cases h3:x=62
  · subst h3; exact .inl ⟨a62,4,c62,_,by simp,rfl,rfl,rfl⟩
  by_cases h4:x=34
  · subst h4; exact .inl ⟨a34,6,c34,_,by simp,rfl,rfl,rfl⟩
  by_cases h5:x=39
  · subst h5; exact .inl ⟨a39,5,c39,_,by simp,rfl,rfl,rfl⟩
  refine .inr ⟨by simp [B9,h1,h2,h3,h4,h5],?_⟩
  have n1:x.toNat≠38:=fun h=>h1 (UInt8.toNat_inj.1 h)
  have n2:x.toNat≠60:=fun h=>h2 (UInt8.toNat_inj.1 h)
  have n3:x.toNat≠62:=fun h=>h3 (UInt8.toNat_inj.1 h)
  have n4:x.toNat≠34:=fun h=>h4 (UInt8.toNat_inj.1 h)
  have n5:x.toNat≠39:=fun h=>h5 (UInt8.toNat_inj.1 h)
  have e:∀ (k m:Nat),m≠k→(m==k)=false:=fun k m h=>beq_eq_false_iff_ne.2 h
  simp only [List.lookup,e _ _ n1,e _ _ n2,e _ _ n3,e _ _ n4,e _ _ n5,Option.getD_none]
end Go.Proofs.YtbnfbffiehoapaaGreatDoor
