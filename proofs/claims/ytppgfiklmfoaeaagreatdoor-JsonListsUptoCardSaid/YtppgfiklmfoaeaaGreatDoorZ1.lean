/- A text in quotes, step by step. No condition. (and what it stands on) -/
import Derived.Shelf.Unicode.ValidAny
import Derived.Test.YtppgfiklmfoaeaaGreatDoorProg
import Derived.Tactics
import Derived.Below
import Derived.KernelRfl
import Derived.Laws.Sem
import Derived.Laws.Small
import Derived.Deep.Quiet
import Derived.LoopN
import Derived.Deep.AppendSrc
import Derived.Laws.MakeOwn
import Derived.OrdersHeld
import Derived.Laws.IdiomStrings
import Derived.Lib.MapLaws
import Derived.Lib.ValidLaws
import Derived.Laws.Externs
import Derived.Laws.LoneSync
import Derived.Defers
import Derived.Test.YtppgfiklmfoaeaaGreatDoorRows
import Derived.Laws.CopyRow
import Derived.Lib.AppendZeros
import Derived.Lib.Bytealg
import Derived.Lib.CountLaws
import Derived.Lib.Builder
import Derived.Lib.UnsafeStr
import Derived.Shelf.Strings.Repeat
import Derived.Shelf.Strconv.SyntaxError
import Derived.Shelf.LaysM
import Derived.Shelf.Strings.SlTrimAscii
import Derived.Shelf.Unicode.DecodeSlow
import Derived.Test.YtppgfiklmfoaeaaGreatDoorCards
import Derived.Test.YtppgfiklmfoaeaaGreatDoorTie
import Derived.ProofKit
import Derived.OpenShut
import Derived.LaidMore
import Derived.Lay
import Derived.SevenTiedAt
import Derived.Stop.Joined
import Derived.Stop.LaidErr
import Derived.LaidLaws
import Derived.Lib.LaidTab
import Derived.Lib.LaidU8T
namespace Go
theorem kr {α : Sort _} {a b : α} (h : a = b := by kernel_rfl) : a = b := h
end Go
namespace Go.Proofs
open Go.Shelf
def Tryz.laysValid_ren:Go.Shelf.Ren:=⟨fun | 196=>97 | 259=>140 | n=>n,fun | 9=>9 | 4=>4 | 3=>3 | 5=>5 | 12=>12 | 119=>173 | 0=>0 | 46=>37 | 139=>176 | 138=>175 | 53=>194 | n=>n,fun | 3=>0 | 4=>1 | n=>n⟩
theorem Tryz.laysValid:Go.Proofs.Lays.n196 Tryz.prog Tryz.laysValid_ren:={
  mixed:=by kernel_rfl
  f196:=Tryz.func97.trans (congrArg some (by kernel_rfl))
  f259:=Tryz.func140.trans (congrArg some (by kernel_rfl))
  t0:=Tryz.underlying0
  a0:=Tryz.isAgg0
  z0:=Tryz.sizeOf0
  v0:=Tryz.zeroValue0
  t3:=Tryz.underlying3
  a3:=Tryz.isAgg3
  z3:=Tryz.sizeOf3
  v3:=Tryz.zeroValue3
  t4:=Tryz.underlying4
  a4:=Tryz.isAgg4
  z4:=Tryz.sizeOf4
  v4:=Tryz.zeroValue4
  t5:=Tryz.underlying5
  a5:=Tryz.isAgg5
  z5:=Tryz.sizeOf5
  v5:=Tryz.zeroValue5
  t9:=Tryz.underlying9
  a9:=Tryz.isAgg9
  z9:=Tryz.sizeOf9
  v9:=Tryz.zeroValue9
  t12:=Tryz.underlying12
  a12:=Tryz.isAgg12
  z12:=Tryz.sizeOf12
  v12:=Tryz.zeroValue12
  t46:=Tryz.underlying37
  a46:=Tryz.isAgg37
  z46:=Tryz.sizeOf37
  v46:=Tryz.zeroValue37
  t53:=Tryz.underlying194
  a53:=Tryz.isAgg194
  z53:=Tryz.sizeOf194
  v53:=Tryz.zeroValue194
  t119:=Tryz.underlying173
  a119:=Tryz.isAgg173
  z119:=Tryz.sizeOf173
  t138:=Tryz.underlying175
  a138:=Tryz.isAgg175
  z138:=Tryz.sizeOf175
  v138:=Tryz.zeroValue175
  t139:=Tryz.underlying176
  a139:=Tryz.isAgg176
  z139:=Tryz.sizeOf176
  v139:=Tryz.zeroValue176
  g3:=by kernel_rfl
  g4:=by kernel_rfl }
end Go.Proofs
namespace Go.Sw
open Go.RowKit
abbrev Grp:=List (Nat × Obj)
structure Sat (W0:World) (H:List Grp) (w:World):Prop where
  below:Below W0.heap.size W0 w
  nodup:(H.flatten.map Prod.fst).Nodup
  has:∀ p,p∈H.flatten→w.heap[p.1]? = some p.2
  high:∀ p,p∈H.flatten→W0.heap.size≤p.1
structure Sl where
  t:Nat
  ch:List (Nat × Bool)
  v:Value
abbrev Env:=List Sl
abbrev pt (b:Nat):Value:=.pointer (some ⟨b,0,none⟩)
def Env.find:List Sl→Nat→Option Sl
  | [],_=>none
  | s::r,t=>if s.t==t then some s else Env.find r t
def O6:Value→Option Bool
  | .bool b=>some b
  | _=>none
def chT (β:Nat→Bool→Bool) (ch:List (Nat × Bool)):Bool:=ch.all fun p=>β p.1 p.2
structure Fr where
  k:Nat
  dl:List Deferred
instance (k:Nat):OfNat Fr k:=⟨⟨k,[]⟩⟩
abbrev mkD (D:Nat):List Deferred:=[{ target:=.collected D,args:=#[] }]
def Fr.ds (n:Fr):List Deferred:=n.dl
structure Ag (n:Fr) (E:Env) (a:Act):Prop where
  defers:a.defers=n.ds
  size:a.tmps.size=n.k
  at_:∃ β:Nat→Bool→Bool,(∀ s,s∈E→∀ w,β s.t w=(O6 s.v==some w)) ∧
    ∀ s,s∈E→a.tmps[s.t]? = some (if chT β s.ch then s.v else undef)
theorem Env.find_mem {E:Env} {t:Nat} {s:Sl} (h:Env.find E t=some s):s∈E∧s.t=t:=by
  induction E with
  | nil=>simp [Env.find] at h
  | cons x r ih =>
    simp only [Env.find] at h
    split at h
    · rename_i hx; injection h with h; subst h; exact ⟨List.mem_cons_self,by simpa using hx⟩
    · obtain ⟨h1,h2⟩:=ih h; exact ⟨List.mem_cons_of_mem _ h1,h2⟩
def freeOf (t:Nat) (ch:List (Nat × Bool)):Bool:=ch.all fun p=>!(p.1==t)
def Env.put (E:List Sl) (d:Option Nat) (ch:List (Nat × Bool)) (v:Value):List Sl :=
  match d with
  | some t=>⟨t,ch,v⟩::E.filter fun s=>!(s.t==t)&&freeOf t s.ch
  | none=>E
theorem chT_free {β β':Nat→Bool→Bool} {t:Nat} (hβ:∀ u w,u≠t→β' u w=β u w) {ch:List (Nat × Bool)} (h:freeOf t ch=true):chT β' ch=chT β ch:=by
  induction ch with
  | nil=>rfl
  | cons p r ih =>
    simp only [freeOf,List.all_cons,Bool.and_eq_true] at h
    have h1:p.1≠t:=by simpa using h.1
    have h2:=ih h.2
    unfold chT at h2 ⊢
    simp only [List.all_cons,hβ _ _ h1,h2]
def H7 (n:Fr) (ch:List (Nat × Bool)):Option Nat→Bool
  | some t=>decide (t<n.k)&&freeOf t ch
  | none=>true
theorem Ag.put {n:Fr} {E:Env} {a:Act} (h:Ag n E a) {β:Nat→Bool→Bool} (hβ:∀ s,s∈E→∀ w,β s.t w=(O6 s.v==some w))
    (hat:∀ s,s∈E→a.tmps[s.t]? = some (if chT β s.ch then s.v else undef)) {d:Option Nat} {ch:List (Nat × Bool)} (hd:H7 n ch d=true) (v:Value) :
    Ag n (Env.put E d ch v) (a.put d (if chT β ch then v else undef)):=by
  cases d with
  | none=>exact h
  | some t =>
    simp only [H7,Bool.and_eq_true,decide_eq_true_eq] at hd
    obtain ⟨ht,hf⟩:=hd
    refine ⟨h.defers,by simp [Act.put,h.size],fun u w=>if u=t then O6 v==some w else β u w,?_,?_⟩
    · intro s hs w
      simp only [Env.put,List.mem_cons,List.mem_filter,Bool.and_eq_true] at hs
      rcases hs with rfl | ⟨hs,hne,_⟩
      · simp
      · have:s.t≠t:=by simpa using hne
        simp only [this,if_false]; exact hβ s hs w
    · intro s hs
      simp only [Env.put,List.mem_cons,List.mem_filter,Bool.and_eq_true] at hs
      rcases hs with rfl | ⟨hs,hne,hfs⟩
      · simp only [Act.put]
        rw [chT_free (β:=β) (β':=fun u w=>if u=t then O6 v==some w else β u w) (t:=t) (fun u w hu=>if_neg hu) hf]
        rw [Array.getElem?_setIfInBounds_self_of_lt (by rw [h.size]; exact ht)]
      · have hne':s.t≠t:=by simpa using hne
        simp only [Act.put]
        rw [chT_free (β:=β) (β':=fun u w=>if u=t then O6 v==some w else β u w) (t:=t) (fun u w hu=>if_neg hu) hfs]
        rw [Array.getElem?_setIfInBounds_ne (by omega)]
        exact hat s hs
theorem Ag.sub {n:Fr} {E E':Env} {a:Act} (h:Ag n E a) (hs:∀ s,s∈E'→s∈E):Ag n E' a:=by
  obtain ⟨β,h1,h2⟩:=h.at_
  exact ⟨h.defers,h.size,β,fun s h=>h1 s (hs s h),fun s h=>h2 s (hs s h)⟩
def F1 (ops:Array Oper) (E:List Sl):Option (Nat × Bool)→Option (List (Nat × Bool))
  | none=>some []
  | some (j,want) =>
    match (ops[j]?).bind Oper.dst with
    | some dj=>(match Env.find E dj with | some s=>some ((dj,want)::s.ch) | none=>none)
    | none=>none
theorem L1 {ops:Array Oper} {E:Env} {o:Oper} {ch:List (Nat × Bool)} {tmps:Array Value} {β:Nat→Bool→Bool}
    (hβ:∀ s,s∈E→∀ w,β s.t w=(O6 s.v==some w)) (hat:∀ s,s∈E→tmps[s.t]? = some (if chT β s.ch then s.v else undef))
    (h:F1 ops E o.guard=some ch):Region.wanted o (yielded ops tmps)=chT β ch:=by
  unfold Region.wanted
  cases hg:o.guard with
  | none=>rw [hg] at h; simp only [F1,Option.some.injEq] at h; subst h; simp [chT]
  | some jw =>
    obtain ⟨j,want⟩:=jw
    rw [hg] at h
    simp only [F1] at h
    cases hd:(ops[j]?).bind Oper.dst with
    | none=>rw [hd] at h; simp at h
    | some dj =>
      rw [hd] at h
      dsimp only at h
      cases hf:Env.find E dj with
      | none=>rw [hf] at h; simp at h
      | some s =>
        rw [hf] at h
        simp only [Option.some.injEq] at h
        subst h
        obtain ⟨hm,rfl⟩:=Env.find_mem hf
        have h1:=hat s hm
        have h2:=hβ s hm want
        simp only [yielded,hd,Option.bind_some,h1]
        have e:chT β ((s.t,want)::s.ch)=(β s.t want&&chT β s.ch):=by simp [chT]
        rw [e,h2]
        cases hc:chT β s.ch
        · simp [undef]
        · simp only [if_true,Bool.and_true]
          cases hv:s.v <;> simp [O6]
def subCh (c1 c2:List (Nat × Bool)):Bool:=c1.all fun p=>c2.any fun q=>p.1==q.1&&p.2==q.2
theorem subCh_true {β:Nat→Bool→Bool} {c1 c2:List (Nat × Bool)} (h:subCh c1 c2=true) (h2:chT β c2=true):chT β c1=true:=by
  unfold chT at *
  rw [List.all_eq_true] at *
  intro p hp
  have:=List.all_eq_true.1 h p hp
  rw [List.any_eq_true] at this
  obtain ⟨q,hq,he⟩:=this
  have:=h2 q hq
  simp at he
  rw [he.1,he.2]
  exact this
def evT (E:List Sl) (ch:List (Nat × Bool)) (t:Nat):Option Value :=
  match Env.find E t with
  | some s=>if subCh s.ch ch then some s.v else none
  | none=>none
def evO (E:List Sl) (ch:List (Nat × Bool)):Operand→Option Value
  | .tmp t=>evT E ch t
  | .const v=>some v
  | .global g=>some (.pointer (some ⟨g,0,none⟩))
  | .func f=>some (.func (.func f) #[] #[])
theorem J0 {E:Env} {ch:List (Nat × Bool)} {a:Act} {β:Nat→Bool→Bool}
    (hat:∀ s,s∈E→a.tmps[s.t]? = some (if chT β s.ch then s.v else undef)) (hc:chT β ch=true) {x:Operand} {v:Value} (h:evO E ch x=some v):a.eval x=v:=by
  cases x with
  | tmp t =>
    simp only [evO,evT] at h
    split at h
    · rename_i s hf
      obtain ⟨hm,rfl⟩:=Env.find_mem hf
      split at h
      · rename_i hs
        injection h with h
        have:=hat s hm
        rw [subCh_true hs hc] at this
        simp only [Act.eval,Array.getD_eq_getD_getElem?,this]
        simpa using h
      · simp at h
    · simp at h
  | const v=>simp only [evO,Option.some.injEq] at h; exact h
  | global g=>simp only [evO,Option.some.injEq] at h; exact h
  | func f=>simp only [evO,Option.some.injEq] at h; exact h
end Go.Sw
namespace Go.Sw
def binV (P:Program) (op:BinOp) (t:TypeId):Value→Value→Option Value
  | .int k a,.int k' b =>
    match op with
    | .shl=>if b<0 then none else some (.int k (k.wrap (a * 2 ^ (min b.toNat k.bits))))
    | .shr=>if b<0 then none else some (.int k (a.fdiv (2 ^ (min b.toNat k.bits))))
    | .add=>if k=k' then some (.int k (k.wrap (a+b))) else none
    | .sub=>if k=k' then some (.int k (k.wrap (a - b))) else none
    | .mul=>if k=k' then some (.int k (k.wrap (a * b))) else none
    | .quo=>if k=k' then (if b=0 then none else some (.int k (k.wrap (a.tdiv b)))) else none
    | .rem=>if k=k' then (if b=0 then none else some (.int k (a.tmod b))) else none
    | .and=>if k=k' then some (.int k (k.wrap (BitVec.ofInt k.bits a &&& BitVec.ofInt k.bits b).toNat)) else none
    | .or=>if k=k' then some (.int k (k.wrap (BitVec.ofInt k.bits a ||| BitVec.ofInt k.bits b).toNat)) else none
    | .xor=>if k=k' then some (.int k (k.wrap (BitVec.ofInt k.bits a ^^^ BitVec.ofInt k.bits b).toNat)) else none
    | .andNot=>if k=k' then some (.int k (k.wrap (BitVec.ofInt k.bits a &&& ~~~BitVec.ofInt k.bits b).toNat)) else none
    | .eql=>if k=k' then some (.bool (a==b)) else none
    | .neq=>if k=k' then some (.bool (a != b)) else none
    | .lss=>if k=k' then some (.bool (decide (a<b))) else none
    | .leq=>if k=k' then some (.bool (decide (a≤b))) else none
    | .gtr=>if k=k' then some (.bool (decide (a > b))) else none
    | .geq=>if k=k' then some (.bool (decide (a ≥ b))) else none
  | .string a,.string b =>
    match op with
    | .eql=>some (.bool (a.toList==b.toList))
    | .neq=>some (.bool !(a.toList==b.toList))
    | .lss=>some (.bool (Op.bytesLess a.toList b.toList))
    | .leq=>some (.bool (Op.bytesLess a.toList b.toList||a.toList==b.toList))
    | .gtr=>some (.bool !(Op.bytesLess a.toList b.toList||a.toList==b.toList))
    | .geq=>some (.bool !(Op.bytesLess a.toList b.toList))
    | _=>none
  | .bool a,.bool b =>
    match op,P.underlying t with
    | .eql,some .bool=>some (.bool (a==b))
    | .neq,some .bool=>some (.bool !(a==b))
    | _,_=>none
  | .pointer none,.pointer b =>
    match op,P.underlying t with
    | .eql,some (.pointer _)=>some (.bool b.isNone)
    | .neq,some (.pointer _)=>some (.bool !b.isNone)
    | _,_=>none
  | .pointer (some _),.pointer none =>
    match op,P.underlying t with
    | .eql,some (.pointer _)=>some (.bool false)
    | .neq,some (.pointer _)=>some (.bool true)
    | _,_=>none
  | .slice none _ _,.slice b _ _ =>
    match op,P.underlying t with
    | .eql,some (.slice _)=>some (.bool b.isNone)
    | .neq,some (.slice _)=>some (.bool !b.isNone)
    | _,_=>none
  | .slice (some _) _ _,.slice none _ _ =>
    match op,P.underlying t with
    | .eql,some (.slice _)=>some (.bool false)
    | .neq,some (.slice _)=>some (.bool true)
    | _,_=>none
  | .map none,.map b =>
    match op,P.underlying t with
    | .eql,some (.map _ _)=>some (.bool b.isNone)
    | .neq,some (.map _ _)=>some (.bool !b.isNone)
    | _,_=>none
  | .map (some _),.map none =>
    match op,P.underlying t with
    | .eql,some (.map _ _)=>some (.bool false)
    | .neq,some (.map _ _)=>some (.bool true)
    | _,_=>none
  | _,_=>none
theorem equal_bool' {P:Program} {t:TypeId} (h:P.underlying t=some .bool) (a b:Bool) (d:Nat) (w:World):(Op.equalIn (d+1) t (.bool a) (.bool b)).run P w=.ok (a==b) w:=by
  simp [Op.equalIn,run_underlying h]
theorem equal_bool {P:Program} {t:TypeId} (h:P.underlying t=some .bool) (a b:Bool) (w:World):(Op.equal t (.bool a) (.bool b)).run P w=.ok (a==b) w:=equal_bool' h a b 9999 w
theorem equal_ptr' {P:Program} {t e:TypeId} (h:P.underlying t=some (.pointer e)) (b:Option Addr) (d:Nat) (w:World):(Op.equalIn (d+1) t (.pointer none) (.pointer b)).run P w=.ok b.isNone w:=by
  simp [Op.equalIn,run_underlying h]
theorem equal_ptr {P:Program} {t e:TypeId} (h:P.underlying t=some (.pointer e)) (b:Option Addr) (w:World):(Op.equal t (.pointer none) (.pointer b)).run P w=.ok b.isNone w:=equal_ptr' h b 9999 w
theorem equal_ptr2' {P:Program} {t e:TypeId} (h:P.underlying t=some (.pointer e)) (a:Addr) (d:Nat) (w:World):(Op.equalIn (d+1) t (.pointer (some a)) (.pointer none)).run P w=.ok false w:=by
  simp [Op.equalIn,run_underlying h]
theorem equal_ptr2 {P:Program} {t e:TypeId} (h:P.underlying t=some (.pointer e)) (a:Addr) (w:World):(Op.equal t (.pointer (some a)) (.pointer none)).run P w=.ok false w:=equal_ptr2' h a 9999 w
theorem equal_slice' {P:Program} {t e:TypeId} (h:P.underlying t=some (.slice e)) (n c n' c':Nat) (b:Option Addr) (d:Nat) (w:World):(Op.equalIn (d+1) t (.slice none n c) (.slice b n' c')).run P w=.ok b.isNone w:=by
  simp [Op.equalIn,run_underlying h]
theorem equal_slice {P:Program} {t e:TypeId} (h:P.underlying t=some (.slice e)) (n c n' c':Nat) (b:Option Addr) (w:World):(Op.equal t (.slice none n c) (.slice b n' c')).run P w=.ok b.isNone w:=equal_slice' h n c n' c' b 9999 w
theorem equal_slice2' {P:Program} {t e:TypeId} (h:P.underlying t=some (.slice e)) (n c n' c':Nat) (a:Addr) (d:Nat) (w:World):(Op.equalIn (d+1) t (.slice (some a) n c) (.slice none n' c')).run P w=.ok false w:=by
  simp [Op.equalIn,run_underlying h]
theorem equal_slice2 {P:Program} {t e:TypeId} (h:P.underlying t=some (.slice e)) (n c n' c':Nat) (a:Addr) (w:World):(Op.equal t (.slice (some a) n c) (.slice none n' c')).run P w=.ok false w:=equal_slice2' h n c n' c' a 9999 w
theorem equal_map' {P:Program} {t e k:TypeId} (h:P.underlying t=some (.map k e)) (b:Option Nat) (d:Nat) (w:World):(Op.equalIn (d+1) t (.map none) (.map b)).run P w=.ok b.isNone w:=by
  simp [Op.equalIn,run_underlying h]
theorem equal_map {P:Program} {t e k:TypeId} (h:P.underlying t=some (.map k e)) (b:Option Nat) (w:World):(Op.equal t (.map none) (.map b)).run P w=.ok b.isNone w:=equal_map' h b 9999 w
theorem equal_map2' {P:Program} {t e k:TypeId} (h:P.underlying t=some (.map k e)) (a:Nat) (d:Nat) (w:World):(Op.equalIn (d+1) t (.map (some a)) (.map none)).run P w=.ok false w:=by
  simp [Op.equalIn,run_underlying h]
theorem equal_map2 {P:Program} {t e k:TypeId} (h:P.underlying t=some (.map k e)) (a:Nat) (w:World):(Op.equal t (.map (some a)) (.map none)).run P w=.ok false w:=equal_map2' h a 9999 w
theorem binV_sound {P:Program} {op:BinOp} {t:TypeId} {x y v:Value} (h:binV P op t x y=some v) (w:World):(binOp op t x y).run P w=.ok v w:=by
  cases x <;> cases y <;> (try (simp [binV] at h; done))
  case int.int k a k' b =>
    cases op <;> simp only [binV] at h
    case shl=>(split at h); (simp at h); (rename_i hb; injection h with h; subst h; simp only [binOp,Op.shift,if_neg hb]; rfl)
    case shr=>(split at h); (simp at h); (rename_i hb; injection h with h; subst h; simp only [binOp,Op.shift,if_neg hb]; rfl)
    case quo=>(split at h; split at h) <;> simp_all [binOp,Op.intDiv]
    case rem=>(split at h; split at h) <;> simp_all [binOp,Op.intDiv]
    all_goals
      split at h
      · simp_all [binOp,Op.intArith,Op.intBits,Op.intCmp]
      · simp at h
  case string.string a b=>cases op <;> simp only [binV,Option.some.injEq,reduceCtorEq] at h <;> (subst h; simp [binOp,Op.stringOp])
  case bool.bool a b =>
    simp only [binV] at h
    split at h <;> simp_all [binOp,equal_bool]
  case pointer.pointer a b =>
    cases a
    · simp only [binV] at h
      split at h
      · rename_i hu; simp only [Option.some.injEq] at h; subst h; cases b <;> simp [binOp,equal_ptr hu]
      · rename_i hu; simp only [Option.some.injEq] at h; subst h; cases b <;> simp [binOp,equal_ptr hu]
      · simp at h
    · cases b
      · simp only [binV] at h
        split at h
        · rename_i hu; simp only [Option.some.injEq] at h; subst h; simp [binOp,equal_ptr2 hu]
        · rename_i hu; simp only [Option.some.injEq] at h; subst h; simp [binOp,equal_ptr2 hu]
        · simp at h
      · simp [binV] at h
  case slice.slice a n c b n' c' =>
    cases a
    · simp only [binV] at h
      split at h
      · rename_i hu; simp only [Option.some.injEq] at h; subst h; simp [binOp,equal_slice hu]
      · rename_i hu; simp only [Option.some.injEq] at h; subst h; simp [binOp,equal_slice hu]
      · simp at h
    · cases b
      · simp only [binV] at h
        split at h
        · rename_i hu; simp only [Option.some.injEq] at h; subst h; simp [binOp,equal_slice2 hu]
        · rename_i hu; simp only [Option.some.injEq] at h; subst h; simp [binOp,equal_slice2 hu]
        · simp at h
      · simp [binV] at h
  case map.map a b =>
    cases a
    · simp only [binV] at h
      split at h
      · rename_i hu; simp only [Option.some.injEq] at h; subst h; simp [binOp,equal_map hu]
      · rename_i hu; simp only [Option.some.injEq] at h; subst h; simp [binOp,equal_map hu]
      · simp at h
    · cases b
      · simp only [binV] at h
        split at h
        · rename_i hu; simp only [Option.some.injEq] at h; subst h; simp [binOp,equal_map2 hu]
        · rename_i hu; simp only [Option.some.injEq] at h; subst h; simp [binOp,equal_map2 hu]
        · simp at h
      · simp [binV] at h
def unV:UnOp→Value→Option Value
  | .neg,.int k n=>some (.int k (k.wrap (0 - n)))
  | .xor,.int k n=>some (.int k (k.wrap (BitVec.ofInt k.bits (if k.signed then -1 else k.max) ^^^ BitVec.ofInt k.bits n).toNat))
  | .not,.bool b=>some (.bool !b)
  | _,_=>none
theorem unV_sound {P:Program} {op:UnOp} {x v:Value} (h:unV op x=some v) (w:World):(Op.unary op x).run P w=.ok v w:=by
  cases op <;> cases x <;> simp only [unV,Option.some.injEq,reduceCtorEq] at h <;> (subst h; simp [Op.unary,Op.intArith,Op.intBits])
def convV (P:Program) (s d:TypeId) (x:Value):Option Value :=
  match P.underlying s,P.underlying d,x with
  | some _,some (.int k),.int _ n=>some (.int k (k.wrap n))
  | some _,some .string,.int _ n=>some (.string (Utf8.encode n))
  | some .string,some .string,.string b=>some (.string b)
  | _,_,_=>none
theorem convV_sound {P:Program} {s d:TypeId} {x v:Value} (h:convV P s d x=some v) (w:World):(convert s d x).run P w=.ok v w:=by
  unfold convV at h
  split at h
  · rename_i h1 h2; injection h with h; subst h; simp [convert,run_underlying h1,run_underlying h2,Conv.intToInt]
  · rename_i h1 h2; injection h with h; subst h; simp [convert,run_underlying h1,run_underlying h2,Conv.intToString]
  · rename_i h1 h2; injection h with h; subst h; simp [convert,run_underlying h1,run_underlying h2]
  · simp at h
def aggB (P:Program) (t:TypeId):Option Bool :=
  match P.underlying t with
  | some (.struct _)=>some true
  | some (.array _ _)=>some true
  | some _=>some false
  | none=>none
theorem L4 {P:Program} {t:TypeId} {b:Bool} (h:aggB P t=some b) (w:World):(isAgg t).run P w=.ok b w:=by
  unfold aggB at h
  split at h
  · rename_i h1; injection h with h; subst h; simp [isAgg,run_underlying h1]
  · rename_i h1; injection h with h; subst h; simp [isAgg,run_underlying h1]
  · rename_i d hs ha h1
    injection h with h; subst h
    have hs':=hs
    simp only [isAgg,Sem.run_bind,run_underlying h1,Result.andThen_ok]
    cases d <;> first | rfl | exact (ha _ _ h1).elim | exact (hs _ h1).elim
  · simp at h
def sizeV (P:Program) (t:TypeId):Option Nat:=(P.info? t).map (·.size)
theorem G8 {P:Program} {t:TypeId} {n:Nat} (h:sizeV P t=some n) (w:World):(sizeOf t).run P w=.ok n w:=by
  unfold sizeV at h
  cases hi:P.info? t with
  | none=>rw [hi] at h; simp at h
  | some i=>rw [hi] at h; simp at h; subst h; simp [sizeOf,typeInfo,hi]
def partV (P:Program) (t:TypeId) (cs:Array Value) (off:Nat):Option Value :=
  match aggB P t with
  | some true=>(match sizeV P t with | some n=>some (.agg (cs.extract off (off+n))) | none=>none)
  | some false=>cs[off]?
  | none=>none
theorem partV_sound {P:Program} {t:TypeId} {cs:Array Value} {off:Nat} {v:Value} (h:partV P t cs off=some v) (w:World):(part t cs off).run P w=.ok v w:=by
  unfold partV at h
  split at h
  · rename_i h1
    split at h
    · rename_i n h2; injection h with h; subst h; simp [part,L4 h1,G8 h2]
    · simp at h
  · rename_i h1; simp [part,L4 h1,h]
  · simp at h
def fieldV (P:Program) (t:TypeId) (x:Value) (f:Nat):Option Value :=
  match P.underlying t,x with
  | some (.struct fs),.agg cs=>(match fs[f]? with | some fd=>partV P fd.type cs fd.offset | none=>none)
  | _,_=>none
theorem fieldV_sound {P:Program} {t:TypeId} {x:Value} {f:Nat} {v:Value} (h:fieldV P t x f=some v) (w:World):(Instr.field t x f).run P w=.ok v w:=by
  unfold fieldV at h
  split at h
  · rename_i fs cs h1
    split at h
    · rename_i fd h2; simp [Instr.field,run_underlying h1,h2,asAgg,partV_sound h]
    · simp at h
  · simp at h
def fieldAddrV (P:Program) (t:TypeId) (x:Value) (f:Nat):Option Value :=
  match P.underlying t,x with
  | some (.struct fs),.pointer (some a) =>
    (match fs[f]? with
     | some fd=>(match sizeV P fd.type with | some (_+1)=>some (.pointer (some (a.add fd.offset))) | _=>none)
     | none=>none)
  | _,_=>none
theorem fieldAddrV_sound {P:Program} {t:TypeId} {x:Value} {f:Nat} {v:Value} (h:fieldAddrV P t x f=some v) (w:World):(Instr.fieldAt t x f).run P w=.ok v w:=by
  unfold fieldAddrV at h
  split at h
  · rename_i fs a h1
    split at h
    · rename_i fd h2
      split at h
      · rename_i h3; injection h with h; subst h
        simp [Instr.fieldAt,run_underlying h1,h2,Instr.sureAddr,fieldPlace,G8 h3]
      · simp at h
    · simp at h
  · simp at h
def lenV (P:Program) (t:Option TypeId) (x:Option Value):Option Value :=
  match t,x with
  | some t,some x =>
    (match P.underlying t,x with
     | some .string,.string s=>some (.int .i64 ((s.size:Nat):Int))
     | some (.slice _),.slice _ n _=>some (.int .i64 ((n:Nat):Int))
     | some (.array n _),_=>some (.int .i64 ((n:Nat):Int))
     | _,_=>none)
  | _,_=>none
theorem lenV_sound {P:Program} {ts:Array TypeId} {avs:Array Value} {t:TypeId} {v:Value} (h:lenV P ts[0]? avs[0]? = some v) (w:World):(Builtin.len_ ts t avs).run P w=.ok v w:=by
  unfold lenV at h
  split at h
  · rename_i t' x h1 h2
    split at h
    · rename_i h3; injection h with h; subst h; simp [Builtin.len_,h1,h2,run_underlying h3,goInt]
    · rename_i h3; injection h with h; subst h; simp [Builtin.len_,h1,h2,run_underlying h3,goInt]
    · rename_i h3; injection h with h; subst h; simp [Builtin.len_,h1,h2,run_underlying h3,goInt]
    · simp at h
  · simp at h
def capV (P:Program) (t:Option TypeId) (x:Option Value):Option Value :=
  match t,x with
  | some t,some x =>
    (match P.underlying t,x with
     | some (.slice _),.slice _ _ n=>some (.int .i64 ((n:Nat):Int))
     | _,_=>none)
  | _,_=>none
theorem capV_sound {P:Program} {ts:Array TypeId} {avs:Array Value} {t:TypeId} {v:Value} (h:capV P ts[0]? avs[0]? = some v) (w:World):(Builtin.cap_ ts t avs).run P w=.ok v w:=by
  unfold capV at h
  split at h
  · rename_i t' x h1 h2
    split at h
    · rename_i h3; injection h with h; subst h; simp [Builtin.cap_,h1,h2,run_underlying h3,goInt]
    · simp at h
  · simp at h
def maxV:List Value→Option Value
  | [.int k a,.int _ b]=>some (.int k (if b > a then b else a))
  | _=>none
theorem maxV_sound {P:Program} {ts:Array TypeId} {avs:List Value} {t:TypeId} {v:Value} (h:maxV avs=some v) (w:World):(Builtin.max_ ts t avs.toArray).run P w=.ok v w:=by
  unfold maxV at h
  split at h
  · injection h with h; subst h; simp [Builtin.max_,Builtin.max2]
  · simp at h
def minV:List Value→Option Value
  | [.int k a,.int _ b]=>some (.int k (if b<a then b else a))
  | _=>none
theorem minV_sound {P:Program} {ts:Array TypeId} {avs:List Value} {t:TypeId} {v:Value} (h:minV avs=some v) (w:World):(Builtin.min_ ts t avs.toArray).run P w=.ok v w:=by
  unfold minV at h
  split at h
  · injection h with h; subst h; simp [Builtin.min_,Builtin.min2]
  · simp at h
def evL (ρ:Operand→Option Value):List Operand→Option (List Value)
  | []=>some []
  | x::r=>(match ρ x with | some v=>(match evL ρ r with | some l=>some (v::l) | none=>none) | none=>none)
theorem evL_map {ρ:Operand→Option Value} {r:Operand→Value} (hρ:∀ x v,ρ x=some v→r x=v):∀ (xs:List Operand) {vs:List Value},evL ρ xs=some vs→xs.map r=vs
  | [],vs,h=>by simp [evL] at h; subst h; rfl
  | x::xs,vs,h=>by
    simp only [evL] at h
    split at h
    · rename_i v hv
      split at h
      · rename_i l hl; injection h with h; subst h
        simp [hρ _ _ hv,evL_map hρ xs hl]
      · simp at h
    · simp at h
def evP (ρ:Operand→Option Value):List (Nat × Operand)→Option (List (Nat × Value))
  | []=>some []
  | (i,x)::r=>(match ρ x with | some v=>(match evP ρ r with | some l=>some ((i,v)::l) | none=>none) | none=>none)
theorem evP_map {ρ:Operand→Option Value} {r:Operand→Value} (hρ:∀ x v,ρ x=some v→r x=v):∀ (xs:List (Nat × Operand)) {vs:List (Nat × Value)},evP ρ xs=some vs→xs.map (fun p=>(p.1,r p.2))=vs
  | [],vs,h=>by simp [evP] at h; subst h; rfl
  | (i,x)::xs,vs,h=>by
    simp only [evP] at h
    split at h
    · rename_i v hv
      split at h
      · rename_i l hl; injection h with h; subst h
        simp [hρ _ _ hv,evP_map hρ xs hl]
      · simp at h
    · simp at h
def placesV (P:Program):List Field→Option (List (Nat × Nat))
  | []=>some []
  | f::r=>(match sizeV P f.type with | some n=>(match placesV P r with | some l=>some ((f.offset,n)::l) | none=>none) | none=>none)
def zeroV (P:Program) (t:TypeId):Option Value:=(P.info? t).bind (·.zero)
theorem Q1 {P:Program} {t:TypeId} {v:Value} (h:zeroV P t=some v) (w:World):(zeroValue t).run P w=.ok v w:=by
  unfold zeroV at h
  cases hi:P.info? t with
  | none=>rw [hi] at h; simp at h
  | some i=>rw [hi] at h; simp at h; simp [zeroValue,typeInfo,hi,h]
def fpl (f:Field):Sem (Nat × Nat):=do pure (f.offset,← sizeOf f.type)
theorem run_fpl {P:Program} {f:Field} {n:Nat} (h:sizeV P f.type=some n) (w:World):(fpl f).run P w=.ok (f.offset,n) w:=by
  simp [fpl,G8 h]
theorem places_run {P:Program} (w:World):∀ (fs:List Field) {l:List (Nat × Nat)},placesV P fs=some l→(fs.mapM fpl).run P w=.ok l w
  | [],l,h=>by simp [placesV] at h; subst h; simp
  | f::r,l,h=>by
    simp only [placesV] at h
    split at h
    · rename_i n hn
      split at h
      · rename_i l' hl; injection h with h; subst h
        have ih:=places_run (P:=P) w r hl
        simp only [List.mapM_cons,Sem.run_bind,run_fpl hn,Result.andThen_ok,ih]
        rfl
      · simp at h
    · simp at h
def buildV (P:Program) (t:TypeId) (parts:List (Nat × Value)):Option Value :=
  match zeroV P t,P.underlying t with
  | some z,some (.struct fs) =>
    (match placesV P fs.toList with
     | some pl=>(match Instr.fill (pl.toArray[·]?) z.cells parts with | some c=>some (.agg c) | none=>none)
     | none=>none)
  | some z,some (.array _ e) =>
    (match sizeV P e with
     | some n=>(match Instr.fill (fun i=>some (i * n,n)) z.cells parts with | some c=>some (.agg c) | none=>none)
     | none=>none)
  | _,_=>none
theorem buildV_sound {P:Program} {t:TypeId} {parts:List (Nat × Value)} {v:Value} (h:buildV P t parts=some v) (w:World):(Instr.build t parts.toArray).run P w=.ok v w:=by
  unfold buildV at h
  split at h
  · rename_i z fs hz hu
    split at h
    · rename_i pl hp
      split at h
      · rename_i c hc; injection h with h; subst h
        have e:=places_run (P:=P) w fs.toList hp
        have e2:(fs.mapM fpl).run P w=.ok pl.toArray w:=by
          rw [Array.mapM_eq_mapM_toList,Sem.run_map,e]
          rfl
        have e3:(fun f:Field=>(do let s ← sizeOf f.type; pure (f.offset,s):Sem (Nat × Nat)))=fpl:=rfl
        simp only [Instr.build,Sem.run_bind,Q1 hz,Result.andThen_ok,run_underlying hu,e3,e2,hc]
        rfl
      · simp at h
    · simp at h
  · rename_i z n e hz hu
    split at h
    · rename_i k hk
      split at h
      · rename_i c hc; injection h with h; subst h
        simp only [Instr.build,Sem.run_bind,Q1 hz,Result.andThen_ok,run_underlying hu,G8 hk,hc]
        rfl
      · simp at h
    · simp at h
  · simp at h
def callV (P:Program) (ρ:Operand→Option Value) (c:Call):Option Value :=
  match c.callee with
  | .builtin .len=>(match evL ρ c.args.toList with | some l=>lenV P c.argTypes[0]? l.toArray[0]? | none=>none)
  | .builtin .cap=>(match evL ρ c.args.toList with | some l=>capV P c.argTypes[0]? l.toArray[0]? | none=>none)
  | .builtin .max=>(match evL ρ c.args.toList with | some l=>maxV l | none=>none)
  | .builtin .min=>(match evL ρ c.args.toList with | some l=>minV l | none=>none)
  | _=>none
def nilV:Value→Option Value
  | .pointer (some a)=>some (.pointer (some a))
  | .func (.func f) x y=>some (.func (.func f) x y)
  | .iface t v=>some (.iface t v)
  | _=>none
def ifaceV (P:Program) (t:TypeId) (x:Value):Option Value :=
  match P.underlying t with
  | some (.interface _)=>none
  | some _=>some (.iface t x)
  | none=>none
def pev (P:Program) (ρ:Operand→Option Value):Go.Op→Option Value
  | .move x | .assign x=>ρ x
  | .binOp op t x y _=>(match ρ x,ρ y with | some a,some b=>binV P op t a b | _,_=>none)
  | .unOp op _ x=>(match ρ x with | some a=>unV op a | none=>none)
  | .convert s d x=>(match ρ x with | some a=>convV P s d a | none=>none)
  | .extract x i=>(match ρ x with | some (.tuple vs)=>vs[i]? | _=>none)
  | .field t x f=>(match ρ x with | some a=>fieldV P t a f | none=>none)
  | .fieldAddr t x f=>(match ρ x with | some a=>fieldAddrV P t a f | none=>none)
  | .nilCheck x=>(match ρ x with | some a=>nilV a | none=>none)
  | .makeFunc fn first captured=>(match evL ρ first.toList,evL ρ captured.toList with | some a,some b=>some (.func fn a.toArray b.toArray) | _,_=>none)
  | .makeInterface t x=>(match ρ x with | some a=>ifaceV P t a | none=>none)
  | .build t parts=>(match evP ρ parts.toList with | some l=>buildV P t l | none=>none)
  | .call c=>callV P ρ c
  | _=>none
theorem L0 {ρ:Operand→Option Value} {r:Operand→Value} (hρ:∀ x v,ρ x=some v→r x=v) {xs:Array Operand} {l:List Value} (h:evL ρ xs.toList=some l):xs.map r=l.toArray:=by
  rw [← evL_map hρ _ h]; apply Array.ext'; rw [Array.toList_map]
theorem pev_sound {P:Program} {ρ:Operand→Option Value} {r:Operand→Value} (hρ:∀ x v,ρ x=some v→r x=v) {o:Oper} {v:Value}
    (h:pev P ρ o.op=some v) (w:World):(execOp r o).run P w=.ok (.value v) w:=by
  unfold pev at h
  unfold execOp
  split at h <;> rename_i ho
  · simp only [ho]; rw [hρ _ _ h]; rfl
  · simp only [ho]; rw [hρ _ _ h]; rfl
  · simp only [ho]
    split at h
    · rename_i a b ha hb
      rw [hρ _ _ ha,hρ _ _ hb]
      have hg:∀ {op t v},binV P op t a b=some v→∀ (x y:Operand),(eqGuard op t x y a b).run P w=.ok () w:=by
        intro op t v hv x y
        unfold eqGuard
        cases a <;> cases b <;> (first | (simp [binV] at hv; done) | (split <;> rfl))
      simp [hg h,binV_sound h]
    · simp at h
  · simp only [ho]
    split at h
    · rename_i a ha; rw [hρ _ _ ha]; simp [unV_sound h]
    · simp at h
  · simp only [ho]
    split at h
    · rename_i a ha; rw [hρ _ _ ha]; simp [convV_sound h]
    · simp at h
  · simp only [ho]
    split at h
    · rename_i vs ha; rw [hρ _ _ ha]; simp [Instr.extract,h]
    · simp at h
  · simp only [ho]
    split at h
    · rename_i a ha; rw [hρ _ _ ha]; simp [fieldV_sound h]
    · simp at h
  · simp only [ho]
    split at h
    · rename_i a ha; rw [hρ _ _ ha]; simp [fieldAddrV_sound h]
    · simp at h
  · simp only [ho]
    split at h
    · rename_i a ha; rw [hρ _ _ ha]
      unfold nilV at h
      split at h <;> first | (injection h with h; subst h; rfl) | (simp at h)
    · simp at h
  · simp only [ho]
    split at h
    · rename_i a b ha hb; injection h with h; subst h
      rw [L0 hρ ha,L0 hρ hb]; rfl
    · simp at h
  · simp only [ho]
    split at h
    · rename_i a ha; rw [hρ _ _ ha]
      unfold ifaceV at h
      split at h
      · simp at h
      · rename_i d hn hu; injection h with h; subst h
        simp only [Instr.makeInterface,Sem.run_bind,run_underlying hu,Result.andThen_ok]
        cases d <;> first | rfl | exact (hn _ hu).elim | exact (hn _ rfl).elim
      · simp at h
    · simp at h
  · simp only [ho]
    split at h
    · rename_i l hl
      have e:(Array.map (fun x=>(x.fst,r x.snd)) ‹Array (Nat × Operand)›)=l.toArray:=by
        rw [← evP_map hρ _ hl]; apply Array.ext'; rw [Array.toList_map]
      simp [e,buildV_sound h]
    · simp at h
  · simp only [ho]
    unfold callV at h
    split at h <;> rename_i hc
    · split at h
      · rename_i l hl
        simp [resolve,hc,invoke,Go.builtin,L0 hρ hl,lenV_sound (avs:=l.toArray) h]
      · simp at h
    · split at h
      · rename_i l hl
        simp [resolve,hc,invoke,Go.builtin,L0 hρ hl,capV_sound (avs:=l.toArray) h]
      · simp at h
    · split at h
      · rename_i l hl
        simp [resolve,hc,invoke,Go.builtin,L0 hρ hl,maxV_sound h]
      · simp at h
    · split at h
      · rename_i l hl
        simp [resolve,hc,invoke,Go.builtin,L0 hρ hl,minV_sound h]
      · simp at h
    · simp at h
  · simp at h
end Go.Sw
namespace Go.Sw
abbrev D6:=Exit→Act→World→Prop
def GL (d:Bool) (P:Program) (ops:Array Oper) (i:Nat) (Q:D6) (n:Fr) (E:Env) (W0:World) (H:List Grp):Prop :=
  match d with
  | true=>∀ a,Ag n E a→wpQuiet P ops (Sat W0 H) (fun a'=>∀ w',Sat W0 H w'→Q .normal a' w') (ops.toList.drop i) a
  | false=>∀ a w,Ag n E a→Sat W0 H w→wpList P ops Q (ops.toList.drop i) a w
def G (P:Program) (c:Code) (Q:D6) (n:Fr) (E:Env) (W0:World) (H:List Grp):Prop :=
  ∀ a w,Ag n E a→Sat W0 H w→c.wp P Q a w
def N (Q:D6) (x:Exit) (n:Fr) (E:Env) (W0:World) (H:List Grp):Prop :=
  ∀ a w,Ag n E a→Sat W0 H w→Q x a w
theorem Sat.drew {W0:World} {H:List Grp} {w:World} (h:Sat W0 H w):Sat W0 H { w with drawn:=w.drawn+1 } :=
  ⟨h.below.trans ⟨rfl,rfl,rfl,Nat.le_refl _,fun _ _=>rfl⟩,h.nodup,h.has,h.high⟩
def chB (E:List Sl):List (Nat × Bool)→Prop
  | []=>True
  | (t,w)::r=>(match Env.find E t with | some s=>(match s.v with | .bool b=>b=w | _=>False) | none=>False)∧chB E r
theorem chB_of {E:Env} {β:Nat→Bool→Bool} (hβ:∀ s,s∈E→∀ w,β s.t w=(O6 s.v==some w)):∀ (ch:List (Nat × Bool)),
    (∀ p,p∈ch→∃ s,Env.find E p.1=some s)→chT β ch=true→chB E ch
  | [],_,_=>trivial
  | (t,w)::r,hf,h=>by
    simp only [chT,List.all_cons,Bool.and_eq_true] at h
    refine ⟨?_,chB_of hβ r (fun p hp=>hf p (List.mem_cons_of_mem _ hp)) h.2⟩
    obtain ⟨s,hs⟩:=hf (t,w) List.mem_cons_self
    simp only at hs
    rw [hs]
    obtain ⟨hm,ht⟩:=Env.find_mem hs
    subst ht
    have h1:=hβ s hm w
    rw [h.1] at h1
    simp only
    cases hv:s.v <;> rw [hv] at h1 <;> simp [O6] at h1 ⊢
    exact h1
def I0 (E:List Sl) (ch:List (Nat × Bool)):Bool:=ch.all fun p=>(Env.find E p.1).isSome
theorem G5 {d:Bool} {P:Program} {ops:Array Oper} {i:Nat} {Q:D6} {n:Fr} {E:Env} {W0:World} {H:List Grp} {o:Oper} {ch:List (Nat × Bool)} {v:Value}
    (ho:ops[i]? = some o) (hch:F1 ops E o.guard=some ch) (hd:H7 n ch o.dst=true) (hk:I0 E ch=true)
    (hq:∀ (r:Operand→Value),(∀ x v,evO E ch x=some v→r x=v)→chB E ch→∀ w,Sat W0 H w→Oper.quietUpon P (Sat W0 H) w v ((execOp r o).run P w))
    (k:GL d P ops (i+1) Q n (Env.put E o.dst ch v) W0 H):GL d P ops i Q n E W0 H:=by
  have hi:i<ops.toList.length:=by
    rcases Nat.lt_or_ge i ops.size with h | h
    · simpa using h
    · simp [Array.getElem?_eq_none h] at ho
  have hdrop:ops.toList.drop i=o::ops.toList.drop (i+1):=by
    rw [List.drop_eq_getElem_cons hi]
    congr 1
    have hi':i<ops.size:=by simpa using hi
    rw [Array.getElem?_eq_getElem hi'] at ho
    simpa using ho
  have hkn:∀ p,p∈ch→∃ s,Env.find E p.1=some s:=fun p hp=>by
    have:=List.all_eq_true.1 hk p hp
    exact Option.isSome_iff_exists.1 this
  cases d with
  | true =>
    intro a ha
    rw [hdrop]
    obtain ⟨β,hβ,hat⟩:=ha.at_
    have hw:=L1 hβ hat hch
    unfold wpQuiet
    have hput:=Ag.put ha hβ hat hd v
    by_cases hc:chT β ch=true
    · rw [hw,if_pos hc]
      rw [if_pos hc] at hput
      refine ⟨v,fun w hs=>?_,k _ hput⟩
      exact hq _ (fun x v=>J0 hat hc) (chB_of hβ ch hkn hc) w hs
    · rw [hw,if_neg hc]
      rw [if_neg hc] at hput
      exact k _ hput
  | false =>
    intro a w ha hs
    rw [hdrop]
    obtain ⟨β,hβ,hat⟩:=ha.at_
    have hw:=L1 hβ hat hch
    unfold wpList
    have hput:=Ag.put ha hβ hat hd v
    by_cases hc:chT β ch=true
    · rw [hw,if_pos hc]
      rw [if_pos hc] at hput
      left
      refine Oper.wp_of_quiet (C:=Sat W0 H) (K:=fun a'=>a'=a.put o.dst v) hs (fun a' w' hw' he=>by rw [he]; exact k _ _ hput hw') ⟨v,fun w hs=>?_,rfl⟩
      exact hq _ (fun x v=>J0 hat hc) (chB_of hβ ch hkn hc) w hs
    · rw [hw,if_neg hc]
      rw [if_neg hc] at hput
      exact k _ _ hput hs
def gOff (ops:Array Oper) (E:List Sl):Option (Nat × Bool)→Bool
  | none=>false
  | some (j,want) =>
    match (ops[j]?).bind Oper.dst with
    | some dj=>(match Env.find E dj with
      | some s=>(match s.v,want with | .bool false,true=>true | .bool true,false=>true | .tuple _,_=>true | _,_=>false)
      | none=>false)
    | none=>false
def selV (x:Bool):Value→Value→Option Value
  | .bool y,.bool z=>some (.bool (bif x then y else z))
  | .int k m,.int k' m'=>if k=k' then some (.int k (bif x then m else m')) else none
  | .string s,.string s'=>some (.string (bif x then s else s'))
  | _,_=>none
theorem selV_sound {x:Bool} {a b v:Value} (h:selV x a b=some v):v=if x then a else b:=by
  unfold selV at h
  split at h
  · injection h with h; subst h; cases x <;> rfl
  · split at h
    · rename_i hk; injection h with h; subst h; subst hk; cases x <;> rfl
    · simp at h
  · injection h with h; subst h; cases x <;> rfl
  · simp at h
def pickV (E:List Sl) (ch:List (Nat × Bool)) (mode:Nat) (c a b:Operand):Option Value :=
  match c with
  | .tmp t =>
    match evT E ch t with
    | some (.bool x) =>
      match mode with
      | 2=>(match x with | true=>evO E ((t,true)::ch) a | false=>none)
      | 3=>(match x with | false=>evO E ((t,false)::ch) b | true=>none)
      | 4=>(match evO E ((t,true)::ch) a,evO E ((t,false)::ch) b with | some va,some vb=>selV x va vb | _,_=>none)
      | 5=>(match a,evO E ((t,false)::ch) b with | .const (.bool true),some (.bool y)=>some (.bool (x||y)) | _,_=>none)
      | 6=>(match evO E ((t,true)::ch) a,b with | some (.bool y),.const (.bool false)=>some (.bool (x&&y)) | _,_=>none)
      | _=>none
    | _=>none
  | _=>none
def pstep (P:Program) (ops:Array Oper) (n:Fr) (mode:Nat) (o:Oper) (E:List Sl):Option (List Sl) :=
  match mode with
  | 0=>(match F1 ops E o.guard with
    | some ch=>(match H7 n ch o.dst,pev P (evO E ch) o.op with | true,some v=>some (Env.put E o.dst ch v) | _,_=>none)
    | none=>none)
  | 1=>(match gOff ops E o.guard,H7 n [] o.dst with | true,true=>some (Env.put E o.dst [] undef) | _,_=>none)
  | _=>(match F1 ops E o.guard,o.op with
    | some ch,.pick c a b=>(match H7 n ch o.dst,pickV E ch mode c a b with | true,some v=>some (Env.put E o.dst ch v) | _,_=>none)
    | _,_=>none)
theorem pstep_sound {P:Program} {ops:Array Oper} {n:Fr} {mode:Nat} {o:Oper} {E E':Env} (h:pstep P ops n mode o E=some E') {a:Act} (ha:Ag n E a) :
    (Region.wanted o (yielded ops a.tmps)=false∧Ag n E' (a.put o.dst undef)) ∨
    (Region.wanted o (yielded ops a.tmps)=true∧∃ v,(∀ w,(execOp a.eval o).run P w=.ok (.value v) w)∧Ag n E' (a.put o.dst v)):=by
  obtain ⟨β,hβ,hat⟩:=ha.at_
  unfold pstep at h
  split at h
  · split at h
    · rename_i ch hch
      split at h
      · rename_i v hd hv
        injection h with h; subst h
        have hw:=L1 hβ hat hch
        have hput:=Ag.put ha hβ hat hd v
        by_cases hc:chT β ch=true
        · rw [if_pos hc] at hput
          exact .inr ⟨by rw [hw,hc],v,fun w=>pev_sound (fun x v=>J0 hat hc) hv w,hput⟩
        · rw [if_neg hc] at hput
          exact .inl ⟨by rw [hw]; simpa using hc,hput⟩
      · simp at h
    · simp at h
  · split at h
    · rename_i hg hd
      injection h with h; subst h
      have hput:=Ag.put ha hβ hat hd undef
      simp only [chT,List.all_nil,if_true] at hput
      refine .inl ⟨?_,hput⟩
      unfold gOff at hg
      unfold Region.wanted
      split at hg
      · simp at hg
      · rename_i j want hgu
        split at hg
        · rename_i dj hdj
          split at hg
          · rename_i s hs
            obtain ⟨hm,ht⟩:=Env.find_mem hs
            subst ht
            have h1:=hat s hm
            simp only [hgu,yielded,hdj,Option.bind_some,h1]
            cases hc:chT β s.ch
            · simp [undef]
            · simp only [if_true]
              split at hg <;> rename_i hv <;> simp_all
          · simp at hg
        · simp at hg
    · simp at h
  · split at h
    · rename_i ch c x y hch ho
      split at h
      · rename_i v hd hv
        injection h with h; subst h
        have hw:=L1 hβ hat hch
        have hput:=Ag.put ha hβ hat hd v
        by_cases hc:chT β ch=true
        · rw [if_pos hc] at hput
          refine .inr ⟨by rw [hw,hc],v,fun w=>?_,hput⟩
          unfold pickV at hv
          split at hv
          · rename_i t
            split at hv
            · rename_i b hb
              have hcv:a.eval (.tmp t)=.bool b:=J0 hat hc (x:=.tmp t) hb
              -- what the slot's value says of longer chains
              have hlong:∀ w,b=w→chT β ((t,w)::ch)=true:=by
                intro w hw'
                unfold evT at hb
                split at hb
                · rename_i s hs
                  obtain ⟨hm,ht⟩:=Env.find_mem hs
                  split at hb
                  · injection hb with hb
                    have:=hβ s hm w
                    rw [hb,ht] at this
                    simp only [chT,List.all_cons,Bool.and_eq_true]
                    refine ⟨?_,hc⟩
                    rw [this,hw']; simp [O6]
                  · simp at hb
                · simp at hb
              have hrun:(execOp a.eval o).run P w=.ok (.value (if b then a.eval x else a.eval y)) w:=by
                unfold execOp
                simp only [ho,hcv]
                simp [asBool]
              rw [hrun]
              congr 2
              split at hv
              · split at hv
                · simp only [if_true]; exact J0 hat (hlong true rfl) hv
                · simp at hv
              · split at hv
                · simp only [Bool.false_eq_true,if_false]; exact J0 hat (hlong false rfl) hv
                · simp at hv
              · split at hv
                · rename_i va vb hva hvb
                  rw [selV_sound hv]
                  cases b
                  · simp only [Bool.false_eq_true,if_false]; exact J0 hat (hlong false rfl) hvb
                  · simp only [if_true]; exact J0 hat (hlong true rfl) hva
                · simp at hv
              · split at hv
                · rename_i z hz
                  injection hv with hv; subst hv
                  cases b
                  · simp only [Bool.false_eq_true,if_false,Bool.false_or]; exact J0 hat (hlong false rfl) hz
                  · simp only [if_true,Bool.true_or]; rfl
                · simp at hv
              · split at hv
                · rename_i z hz
                  injection hv with hv; subst hv
                  cases b
                  · simp only [Bool.false_eq_true,if_false,Bool.false_and]; rfl
                  · simp only [if_true,Bool.true_and]; exact J0 hat (hlong true rfl) hz
                · simp at hv
              · simp at hv
            · simp at hv
          · simp at hv
        · rw [if_neg hc] at hput
          exact .inl ⟨by rw [hw]; simpa using hc,hput⟩
      · simp at h
    · simp at h
def L8 (P:Program) (ops:Array Oper) (n:Fr):List Nat→Nat→List Sl→Option (List Sl)
  | [],_,E=>some E
  | m::ms,i,E=>(match ops[i]? with
    | some o=>(match pstep P ops n m o E with | some E'=>L8 P ops n ms (i+1) E' | none=>none)
    | none=>none)
theorem GL_psteps {d:Bool} {P:Program} {ops:Array Oper} {Q:D6} {n:Fr} {W0:World} {H:List Grp}:∀ (ms:List Nat) {i:Nat} {E E':Env},
    L8 P ops n ms i E=some E'→GL d P ops (i+ms.length) Q n E' W0 H→GL d P ops i Q n E W0 H
  | [],i,E,E',h,k=>by simp only [L8,Option.some.injEq] at h; subst h; exact k
  | m::ms,i,E,E',h,k=>by
    simp only [L8] at h
    split at h
    · rename_i o ho
      split at h
      · rename_i E1 h1
        have k':GL d P ops (i+1) Q n E1 W0 H:=GL_psteps ms h (by rw [show i+1+ms.length=i+(m::ms).length from by simp; omega]; exact k)
        have hi:i<ops.toList.length:=by
          rcases Nat.lt_or_ge i ops.size with h | h
          · simpa using h
          · simp [Array.getElem?_eq_none h] at ho
        have hdrop:ops.toList.drop i=o::ops.toList.drop (i+1):=by
          rw [List.drop_eq_getElem_cons hi]
          congr 1
          have hi':i<ops.size:=by simpa using hi
          rw [Array.getElem?_eq_getElem hi'] at ho
          simpa using ho
        cases d with
        | true =>
          intro a ha
          rw [hdrop]
          unfold wpQuiet
          rcases pstep_sound h1 ha with ⟨hw,h2⟩ | ⟨hw,v,hv,h2⟩
          · rw [hw]; exact k' _ h2
          · rw [hw]; exact ⟨v,fun w _=>by unfold Oper.quietAt; rw [hv]; exact ⟨rfl,rfl⟩,k' _ h2⟩
        | false =>
          intro a w ha hs
          rw [hdrop]
          unfold wpList
          rcases pstep_sound h1 ha with ⟨hw,h2⟩ | ⟨hw,v,hv,h2⟩
          · rw [hw]; exact k' _ _ h2 hs
          · rw [hw]; exact .inl (by unfold Oper.wp; rw [hv]; exact k' _ _ h2 hs)
      · simp at h
    · simp at h
def Env.keep:List Nat→List Sl→List Sl
  | [],_=>[]
  | t::ts,E=>(match Env.find E t with
    | some ⟨u,[],v⟩=>⟨u,[],v⟩::Env.keep ts E
    | _=>Env.keep ts E)
theorem Env.keep_mem:∀ (ts:List Nat) {E:Env} {s:Sl},s∈Env.keep ts E→s∈E
  | [],E,s,h=>by simp [Env.keep] at h
  | t::ts,E,s,h=>by
    simp only [Env.keep] at h
    split at h
    · rename_i u v hf
      rcases List.mem_cons.1 h with rfl | h
      · exact (Env.find_mem hf).1
      · exact Env.keep_mem ts h
    · exact Env.keep_mem ts h
theorem GL_end {d:Bool} {P:Program} {ops:Array Oper} {i:Nat} {Q:D6} {n:Fr} {E:Env} {W0:World} {H:List Grp}
    (hi:ops.size=i) (k:N Q .normal n E W0 H):GL d P ops i Q n E W0 H:=by
  have hdrop:ops.toList.drop i=[]:=by rw [List.drop_eq_nil_of_le]; simp [hi]
  cases d with
  | true=>intro a ha; rw [hdrop]; exact fun w' hs=>k _ _ ha hs
  | false=>intro a w ha hs; rw [hdrop]; exact k _ _ ha hs
theorem N_sub {Q:D6} {x:Exit} {n:Fr} {E E':Env} {W0:World} {H:List Grp} (ts:List Nat) (h:Env.keep ts E=E') (k:N Q x n E' W0 H):N Q x n E W0 H :=
  fun a w ha hs=>k a w (ha.sub (by subst h; intro s hs; exact Env.keep_mem _ hs)) hs
theorem A2 {P:Program} {id:Nat} {ops:Array Oper} {Q:D6} {n:Fr} {E:Env} {W0:World} {H:List Grp}
    (k:GL false P ops 0 Q n E W0 H):G P (.region id ops false) Q n E W0 H :=
  fun a w ha hs=>wp_region_list (by have:=k a w ha hs; simpa using this)
theorem M1 {P:Program} {id:Nat} {ops:Array Oper} {Q:D6} {n:Fr} {E:Env} {W0:World} {H:List Grp}
    (hm:P.follows .mixedOrders=true:=by kernel_rfl) (hB:Region.lexB .any ops=true:=by kernel_rfl) (k:GL true P ops 0 Q n E W0 H):G P (.region id ops true) Q n E W0 H :=
  fun a w ha hs=>wp_region_quiet (C:=Sat W0 H) hm hB hs.drew (by have:=k a ha; simpa using this)
theorem B7 {P:Program} {id:Nat} {ops:Array Oper} {Q:D6} {n:Fr} {E E':Env} {W0:World} {H:List Grp} (ms ts:List Nat)
    (hl:ops.size=ms.length:=by exact rfl) (h:(L8 P ops n ms 0 E).map (Env.keep ts)=some E':=by kernel_rfl) (k:N Q .normal n E' W0 H):G P (.region id ops false) Q n E W0 H:=by
  cases hp:L8 P ops n ms 0 E with
  | none=>rw [hp] at h; simp at h
  | some E1 =>
    rw [hp] at h; simp only [Option.map_some,Option.some.injEq] at h
    exact A2 (GL_psteps ms hp (GL_end (by omega) (N_sub ts h k)))
def Env.only (ts:List Nat) (E:List Sl):List Sl:=E.filter fun s=>ts.contains s.t
theorem GL_sub {d:Bool} {P:Program} {ops:Array Oper} {i:Nat} {Q:D6} {n:Fr} {E E':Env} {W0:World} {H:List Grp} (hs:∀ s,s∈E'→s∈E) (k:GL d P ops i Q n E' W0 H):GL d P ops i Q n E W0 H:=by
  cases d
  · exact fun a w ha=>k a w (ha.sub hs)
  · exact fun a ha=>k a (ha.sub hs)
theorem C0 {d:Bool} {P:Program} {ops:Array Oper} {i j:Nat} {Q:D6} {n:Fr} {E E':Env} {W0:World} {H:List Grp} (ms:List Nat)
    (h:(L8 P ops n ms i E).map (Env.only (E'.map Sl.t))=some E':=by kernel_rfl) (hj:i+ms.length=j:=by exact rfl) (k:GL d P ops j Q n E' W0 H):GL d P ops i Q n E W0 H:=by
  cases hp:L8 P ops n ms i E with
  | none=>rw [hp] at h; simp at h
  | some E1 =>
    rw [hp] at h; simp only [Option.map_some,Option.some.injEq] at h
    refine GL_psteps ms hp (GL_sub (E':=E') (fun s hs=>?_) (by rw [hj]; exact k))
    rw [← h] at hs
    exact (List.mem_filter.1 hs).1
theorem B1 {d:Bool} {P:Program} {ops:Array Oper} {i:Nat} {Q:D6} {n:Fr} {E E':Env} {W0:World} {H:List Grp} (ms ts:List Nat)
    (hl:ops.size=i+ms.length:=by exact rfl) (h:(L8 P ops n ms i E).map (Env.keep ts)=some E':=by kernel_rfl) (k:N Q .normal n E' W0 H):GL d P ops i Q n E W0 H:=by
  cases hp:L8 P ops n ms i E with
  | none=>rw [hp] at h; simp at h
  | some E1 =>
    rw [hp] at h; simp only [Option.map_some,Option.some.injEq] at h
    exact GL_psteps ms hp (GL_end hl (N_sub ts h k))
theorem A1 {P:Program} {x y:Code} {Q:D6} {n:Fr} {E:Env} {W0:World} {H:List Grp}
    (k:G P x (Exit.then (y.wp P Q) Q) n E W0 H):G P (.seq x y) Q n E W0 H:=fun a w ha hs=>wp_seq (k a w ha hs)
theorem A0 {P:Program} {y:Code} {Q:D6} {n:Fr} {E:Env} {W0:World} {H:List Grp} (k:G P y Q n E W0 H):N (Exit.then (y.wp P Q) Q) .normal n E W0 H:=k
theorem A9 {K:Act→World→Prop} {Q:D6} {id:Nat} {n:Fr} {E:Env} {W0:World} {H:List Grp} (k:N Q (.exit id) n E W0 H):N (Exit.then K Q) (.exit id) n E W0 H:=k
theorem A3 {K:Act→World→Prop} {Q:D6} {n:Fr} {E:Env} {W0:World} {H:List Grp} (k:N Q .ret n E W0 H):N (Exit.then K Q) .ret n E W0 H:=k
theorem B8 {Q:D6} {id:Nat} {n:Fr} {E:Env} {W0:World} {H:List Grp} (k:N Q .normal n E W0 H):N (Exit.inBlock id Q) .normal n E W0 H:=k
theorem B4 {Q:D6} {id:Nat} {n:Fr} {E:Env} {W0:World} {H:List Grp} (k:N Q .ret n E W0 H):N (Exit.inBlock id Q) .ret n E W0 H:=k
theorem C5 {Q:D6} {id:Nat} {n:Fr} {E:Env} {W0:World} {H:List Grp} (k:N Q .normal n E W0 H):N (Exit.inBlock id Q) (.exit id) n E W0 H :=
  fun a w ha hs=>by simp only [Exit.inBlock,if_true]; exact k a w ha hs
theorem R1 {Q:D6} {id id':Nat} {n:Fr} {E:Env} {W0:World} {H:List Grp} (h:(id'==id)=false:=by exact rfl) (k:N Q (.exit id') n E W0 H):N (Exit.inBlock id Q) (.exit id') n E W0 H :=
  fun a w ha hs=>by simp only [Exit.inBlock]; rw [if_neg (by simpa using h)]; exact k a w ha hs
theorem B9 {P:Program} {id:Nat} {c:Code} {Q:D6} {n:Fr} {E:Env} {W0:World} {H:List Grp} (k:G P c (Exit.inBlock id Q) n E W0 H):G P (.block id c) Q n E W0 H :=
  fun a w ha hs=>wp_block (k a w ha hs)
theorem A8 {P:Program} {Q:D6} {n:Fr} {E:Env} {W0:World} {H:List Grp} (k:N Q .normal n E W0 H):G P .skip Q n E W0 H:=fun a w ha hs=>wp_skip (k a w ha hs)
theorem G3 {P:Program} {id:Nat} {Q:D6} {n:Fr} {E:Env} {W0:World} {H:List Grp} (k:N Q (.exit id) n E W0 H):G P (.exit id) Q n E W0 H:=fun a w ha hs=>wp_exit (k a w ha hs)
theorem B5 {P:Program} {Q:D6} {n:Fr} {E:Env} {W0:World} {H:List Grp} (k:N Q .ret n E W0 H):G P .ret Q n E W0 H:=fun a w ha hs=>wp_ret (k a w ha hs)
theorem Ag.eval {n:Fr} {E:Env} {a:Act} (ha:Ag n E a) {x:Operand} {v:Value} (h:evO E [] x=some v):a.eval x=v:=by
  obtain ⟨β,_,hat⟩:=ha.at_
  exact J0 (ch:=[]) hat (by simp [chT]) h
theorem B2 {P:Program} {c:Operand} {x y:Code} {Q:D6} {n:Fr} {E:Env} {W0:World} {H:List Grp} {b:Bool}
    (hc:evO E [] c=some (.bool b):=by kernel_rfl) (ht:b=true→G P x Q n E W0 H) (hf:b=false→G P y Q n E W0 H):G P (.cond c x y) Q n E W0 H :=
  fun a w ha hs=>wp_cond_split (ha.eval hc) (fun h=>ht h a w ha hs) (fun h=>hf h a w ha hs)
theorem E8 {P:Program} {c:Operand} {x y:Code} {Q:D6} {n:Fr} {E:Env} {W0:World} {H:List Grp}
    (hc:evO E [] c=some (.bool true):=by kernel_rfl) (k:G P x Q n E W0 H):G P (.cond c x y) Q n E W0 H:=fun a w ha hs=>wp_cond_true (ha.eval hc) (k a w ha hs)
theorem C2 {P:Program} {c:Operand} {x y:Code} {Q:D6} {n:Fr} {E:Env} {W0:World} {H:List Grp}
    (hc:evO E [] c=some (.bool false):=by kernel_rfl) (k:G P y Q n E W0 H):G P (.cond c x y) Q n E W0 H:=fun a w ha hs=>wp_cond_false (ha.eval hc) (k a w ha hs)
theorem I6 {P:Program} {c:Code} {Q:D6} {n:Fr} {E:Env} {W0:World} {H:List Grp} {σ:Type} (EI:σ→Env) (HI:σ→List Grp) (Φ:σ→Prop) (μ:σ→Nat)
    (s0:σ) (ts:List Nat) (hE:Env.keep ts E=EI s0:=by kernel_rfl) (hH:H=HI s0:=by exact rfl) (h0:Φ s0)
    (round:∀ s,Φ s→G P c (Exit.then (fun a' w'=>∃ s',Φ s'∧μ s'<μ s∧Ag n (EI s') a'∧Sat W0 (HI s') w') Q) n (EI s) W0 (HI s)):G P (.loop c) Q n E W0 H:=by
  intro a w ha hs b k cs
  have ha':Ag n (EI s0) a:=ha.sub (by rw [← hE]; intro s hs; exact Env.keep_mem _ hs)
  have key:∀ m s,μ s=m→Φ s→∀ a w,Ag n (EI s) a→Sat W0 (HI s) w →
      ∃ e a' w',Q e a' w'∧Arrives P (lone (b.at a (.code c::.inLoop c::k)) cs w) b k cs e a' w':=by
    intro m
    induction m using Nat.strongRecOn with
    | _ m ih =>
      intro s hm hΦ a w ha hs
      obtain ⟨e,a₁,w₁,hq,harr⟩:=round s hΦ a w ha hs b (.inLoop c::k) cs
      cases e with
      | normal =>
        obtain ⟨s',hΦ',hlt,ha',hs'⟩:=hq
        obtain ⟨e₂,a₂,w₂,hq₂,harr₂⟩:=ih (μ s') (hm ▸ hlt) s' rfl hΦ' a₁ w₁ ha' hs'
        exact ⟨e₂,a₂,w₂,hq₂,.of_steps (Steps.trans harr (.one step_inLoop)) harr₂⟩
      | exit id=>exact ⟨_,a₁,w₁,hq,.pass (x:=.inLoop c) rfl (fun _ _=>.inl (by simp)) harr⟩
      | goto l=>exact ⟨_,a₁,w₁,hq,.pass (x:=.inLoop c) rfl (fun _ _=>.inl (by simp)) harr⟩
      | ret=>exact ⟨_,a₁,w₁,hq,.pass (x:=.inLoop c) rfl (fun _ _=>.inl (by simp)) harr⟩
      | panic ch=>exact ⟨_,a₁,w₁,hq,.pass (x:=.inLoop c) rfl (fun _ _=>.inl (by simp)) harr⟩
      | outgrown=>exact ⟨_,a₁,w₁,hq,.pass (x:=.inLoop c) rfl (fun _ _=>.inl (by simp)) harr⟩
  obtain ⟨e,a',w',hq,harr⟩:=key _ s0 rfl h0 a w ha' (hH ▸ hs)
  exact ⟨e,a',w',hq,.of_steps (.one step_loop) harr⟩
theorem E6 {Q:D6} {n:Fr} {E:Env} {W0:World} {H:List Grp} {σ:Type} {EI:σ→Env} {HI:σ→List Grp} {Φ:σ→Prop} {μ:σ→Nat} {s:σ}
    (s':σ) (ts:List Nat) (hE:Env.keep ts E=EI s':=by kernel_rfl) (hH:H=HI s':=by exact rfl) (hΦ:Φ s') (hμ:μ s'<μ s) :
    N (Exit.then (fun a' w'=>∃ s',Φ s'∧μ s'<μ s∧Ag n (EI s') a'∧Sat W0 (HI s') w') Q) .normal n E W0 H :=
  fun a w ha hs=>⟨s',hΦ,hμ,ha.sub (by rw [← hE]; intro s hs; exact Env.keep_mem _ hs),hH ▸ hs⟩
def GRd (P:Program) (c:Code) (Q:D6) (m:Nat) (n:Fr) (E:Env) (W0:World) (H:List Grp):Prop:=∀ a w,Ag n E a→Sat W0 H w→Code.rounds P c Q m a w
theorem G_rounds {P:Program} {c:Code} {Q:D6} {n:Fr} {E:Env} {W0:World} {H:List Grp} (m:Nat) (k:GRd P c Q m n E W0 H):G P (.loop c) Q n E W0 H :=
  fun a w ha hs=>wp_loop_rounds m (k a w ha hs)
theorem I2 {P:Program} {c:Code} {Q:D6} {n:Fr} {E:Env} {W0:World} {H:List Grp} {m:Nat} (k:G P c (Exit.then (Code.rounds P c Q m) Q) n E W0 H):GRd P c Q (m+1) n E W0 H:=k
theorem N_rd {P:Program} {c:Code} {Q:D6} {n:Fr} {E:Env} {W0:World} {H:List Grp} {m:Nat} (k:GRd P c Q m n E W0 H):N (Exit.then (Code.rounds P c Q m) Q) .normal n E W0 H:=k
def Tri (P:Program) (f:FuncId) (args:Array Value) (W0:World) (H:List Grp) (R:Value→List Grp→Prop):Prop :=
  ∀ w,Sat W0 H w→Calls P f args w fun e w'=>∃ v H',e=.returned v∧R v H'∧Sat W0 H' w'
theorem Tri.mono {P:Program} {f:FuncId} {args:Array Value} {W0:World} {H:List Grp} {R R':Value→List Grp→Prop} (h:Tri P f args W0 H R)
    (hr:∀ v H',R v H'→R' v H'):Tri P f args W0 H R' :=
  fun w hs=>(h w hs).mono fun _ _ ⟨v,H',he,hR,hs'⟩=>⟨v,H',he,hr _ _ hR,hs'⟩
def Body (P:Program) (fn:Func) (W0:World) (R:Value→List Grp→Prop):D6 :=
  bodyPost P fn fun e w'=>∃ v H',e=.returned v∧R v H'∧Sat W0 H' w'
def argEnv:Nat→List Value→List Sl
  | _,[]=>[]
  | i,v::r=>⟨i,[],v⟩::argEnv (i+1) r
theorem P8:∀ (vs:List Value) (i:Nat) (s:Sl),s∈argEnv i vs→s.ch=[]∧i≤s.t∧vs[s.t - i]? = some s.v
  | [],_,_,h=>by simp [argEnv] at h
  | v::r,i,s,h=>by
    simp only [argEnv,List.mem_cons] at h
    rcases h with rfl | h
    · simp
    · obtain ⟨h1,h2,h3⟩:=P8 r (i+1) s h
      refine ⟨h1,by omega,?_⟩
      have:s.t - i=(s.t - (i+1))+1:=by omega
      rw [this,List.getElem?_cons_succ]
      exact h3
theorem C6 {P:Program} {f:FuncId} {fn:Func} {c:Code} {args:List Value} {n:Fr} {W0:World} {H:List Grp} {R:Value→List Grp→Prop}
    (hf:P.funcs[f]? = some fn) (hb:fn.body=some c) (hn:fn.ntmps=n.k) (hle:args.length≤n.k)
    (k:G P c (Body P fn W0 R) n (argEnv 0 args) W0 H) (hz:n.dl=[]:=by rfl):Tri P f args.toArray W0 H R:=by
  intro w hs
  refine calls_of_wp hf hb (k _ w ?_ hs)
  refine ⟨by unfold Fr.ds; rw [hz],by simp [hn]; omega,fun u w=>match args[u]? with | some v=>O6 v==some w | none=>false,?_,?_⟩
  · intro s hs w
    obtain ⟨h1,h2,h3⟩:=P8 args 0 s hs
    simp only [Nat.sub_zero] at h3
    simp only [h3]
  · intro s hs
    obtain ⟨h1,h2,h3⟩:=P8 args 0 s hs
    simp only [Nat.sub_zero] at h3
    rw [h1]
    simp only [chT,List.all_nil,if_true]
    have hlt:s.t<args.length:=by
      rcases Nat.lt_or_ge s.t args.length with h | h
      · exact h
      · simp [List.getElem?_eq_none h] at h3
    rw [Array.getElem?_append_left (by simpa using hlt)]
    simpa using h3
def resV (E:List Sl):List ResultVar→Option (List Value)
  | []=>some []
  | .tmp t::r=>(match evT E [] t,resV E r with | some v,some l=>some (v::l) | _,_=>none)
  | _::_=>none
def packV:List Value→Value
  | [v]=>v
  | l=>.tuple l.toArray
def resOne (tmps:Array Value):ResultVar→Sem Value
  | .tmp t=>pure (tmps.getD t undef)
  | .cell a t=>do loadVar t (← asAddr (tmps.getD a undef))
theorem resList_of {P:Program} {n:Fr} {E:Env} {a:Act} (ha:Ag n E a) (w:World):∀ (rs:List ResultVar) {l:List Value},resV E rs=some l →
    (rs.mapM (resOne a.tmps)).run P w=.ok l w
  | [],l,h=>by simp only [resV,Option.some.injEq] at h; subst h; rfl
  | .tmp t::rs,l,h=>by
    simp only [resV] at h
    split at h
    · rename_i v l' hv hl
      injection h with h; subst h
      have e:a.tmps.getD t undef=v:=ha.eval (x:=.tmp t) hv
      have ih:=resList_of (P:=P) ha w rs hl
      simp only [List.mapM_cons,Sem.run_bind,resOne,Sem.run_pure,Result.andThen_ok,e,ih]
    · simp at h
  | .cell b t::rs,l,h=>by simp [resV] at h
theorem results_eq (fn:Func) (tmps:Array Value):results fn tmps=(fn.results.mapM (resOne tmps)) >>= fun vs=>(pure (if h:vs.size=1 then vs[0] else .tuple vs):Sem Value):=rfl
theorem results_of {P:Program} {fn:Func} {n:Fr} {E:Env} {a:Act} (ha:Ag n E a) {rs:List ResultVar} {l:List Value} (h:resV E rs=some l)
    (hr:fn.results=rs.toArray) (w:World):(results fn a.tmps).run P w=.ok (packV l) w:=by
  have e2:=resList_of (P:=P) ha w rs h
  have e3:((rs.toArray).mapM (resOne a.tmps)).run P w=.ok l.toArray w:=by
    rw [Array.mapM_eq_mapM_toList,Sem.run_map,e2]; rfl
  rw [results_eq,hr,Sem.run_bind,e3]
  simp only [Result.andThen_ok,Sem.run_pure]
  congr 1
  cases l with
  | nil=>rfl
  | cons v l=>cases l with
    | nil=>rfl
    | cons u l=>simp [packV]
theorem B6 {P:Program} {fn:Func} {n:Fr} {E:Env} {W0:World} {H:List Grp} {R:Value→List Grp→Prop} {x:Exit} (rs:List ResultVar) (l:List Value)
    (hr:fn.results=rs.toArray:=by exact rfl) (h:resV E rs=some l:=by kernel_rfl) (hx:(match x with | .normal=>true | .ret=>true | _=>false)=true:=by exact rfl) (k:R (packV l) H) (hz:n.dl=[]:=by rfl):N (Body P fn W0 R) x n E W0 H:=by
  intro a w ha hs
  cases x <;> simp at hx
  · exact ⟨ha.defers.trans (by unfold Fr.ds; rw [hz]),_,results_of ha h hr w,_,H,rfl,k,hs⟩
  · exact ⟨ha.defers.trans (by unfold Fr.ds; rw [hz]),_,results_of ha h hr w,_,H,rfl,k,hs⟩
theorem GL_call {P:Program} {ops:Array Oper} {i:Nat} {Q:D6} {n:Fr} {E:Env} {W0:World} {H:List Grp} {o:Oper} {ch:List (Nat × Bool)} {c:Call} {fo:Operand} {f:FuncId} {caps:Array Value} {fst:Array Value} {vs:List Value}
    {fn:Func} {R:Value→List Grp→Prop}
    (ho:ops[i]? = some o) (hop:o.op=.call c) (hce:c.callee=.value fo) (hfo:evO E ch fo=some (.func (.func f) fst caps)) (hargs:evL (evO E ch) c.args.toList=some vs)
    (hf : P.funcs[f]? = some fn) (hrt : (fn.name == "runtime.NumGoroutine") = false) (hbody : fn.body.isNone = false)
    (hch:F1 ops E o.guard=some ch) (hd:H7 n ch o.dst=true) (hsure:∀ β:Nat→Bool→Bool,(∀ s,s∈E→∀ w,β s.t w=(O6 s.v==some w))→chT β ch=true)
    (hc:Tri P f (fst++vs.toArray++caps) W0 H R)
    (k:∀ v H',R v H'→GL false P ops (i+1) Q n (Env.put E o.dst ch v) W0 H'):GL false P ops i Q n E W0 H:=by
  have hi:i<ops.toList.length:=by
    rcases Nat.lt_or_ge i ops.size with h | h
    · simpa using h
    · simp [Array.getElem?_eq_none h] at ho
  have hdrop:ops.toList.drop i=o::ops.toList.drop (i+1):=by
    rw [List.drop_eq_getElem_cons hi]
    congr 1
    have hi':i<ops.size:=by simpa using hi
    rw [Array.getElem?_eq_getElem hi'] at ho
    simpa using ho
  intro a w ha hs
  rw [hdrop]
  obtain ⟨β,hβ,hat⟩:=ha.at_
  have hcT:=hsure β hβ
  have hw:=L1 hβ hat hch
  unfold wpList
  rw [hw,if_pos hcT]
  left
  have hrun:(execOp a.eval o).run P w=.ok (.enter f (fst++vs.toArray++caps)) w:=by
    unfold execOp
    simp only [hop]
    simp only [resolve,hce]
    rw [J0 hat hcT hfo,L0 (fun x v=>J0 hat hcT) hargs]
    simp only [Deferred.ofValue,Sem.run_bind,Sem.run_pure,Result.andThen_ok,invoke,callFunc,run_program,hf,hrt,hbody,Bool.false_eq_true,if_false]
  unfold Oper.wp
  rw [hrun]
  refine (hc w hs).mono ?_
  rintro e w' ⟨v,H',rfl,hR,hs'⟩
  have hput:=Ag.put ha hβ hat hd v
  rw [if_pos hcT] at hput
  exact k v H' hR _ _ hput hs'
theorem F7 {d:Bool} {P:Program} {ops:Array Oper} {i:Nat} {Q:D6} {n:Fr} {E:Env} {W0:World} {H:List Grp} {o:Oper} {ch:List (Nat × Bool)} {c:Call} {fo:Operand} {f:FuncId} {caps:Array Value} {fst:Array Value} {vs:List Value}
    {fn:Func} {v:Value}
    (ho:ops[i]? = some o:=by exact rfl) (hop:o.op=.call c:=by exact rfl) (hce:c.callee=.value fo:=by exact rfl) (hfo:evO E ch fo=some (.func (.func f) fst caps):=by kernel_rfl) (hargs:evL (evO E ch) c.args.toList=some vs:=by kernel_rfl)
    (hf : P.funcs[f]? = some fn) (hrt : (fn.name == "runtime.NumGoroutine") = false := by exact rfl) (hbody : fn.body.isNone = false := by exact rfl)
    (hch:F1 ops E o.guard=some ch:=by kernel_rfl) (hd:H7 n ch o.dst=true:=by kernel_rfl) (hk:I0 E ch=true:=by kernel_rfl)
    (hc:chB E ch→Tri P f (fst++vs.toArray++caps) W0 H (fun u H'=>u=v∧H'=H))
    (k:GL d P ops (i+1) Q n (Env.put E o.dst ch v) W0 H):GL d P ops i Q n E W0 H:=by
  refine G5 ho hch hd hk (fun r hr hcb w hs=>?_) k
  have hrun:(execOp r o).run P w=.ok (.enter f (fst++vs.toArray++caps)) w:=by
    unfold execOp
    simp only [hop]
    simp only [resolve,hce]
    rw [hr _ _ hfo,L0 hr hargs]
    simp only [Deferred.ofValue,Sem.run_bind,Sem.run_pure,Result.andThen_ok,invoke,callFunc,run_program,hf,hrt,hbody,Bool.false_eq_true,if_false]
  rw [hrun]
  refine ⟨rfl,(hc hcb w hs).mono ?_⟩
  rintro e w' ⟨u,H',rfl,⟨rfl,rfl⟩,hs'⟩
  exact ⟨rfl,hs'⟩
def O5 (E:List Sl) (ch:List (Nat × Bool)):Bool:=ch.all fun p=>match Env.find E p.1 with
  | some s=>(match s.v,p.2 with | .bool true,true=>true | .bool false,false=>true | _,_=>false)
  | none=>false
theorem chSure_of {E:Env} {ch:List (Nat × Bool)} (h:O5 E ch=true) (β:Nat→Bool→Bool) (hβ:∀ s,s∈E→∀ w,β s.t w=(O6 s.v==some w)):chT β ch=true:=by
  unfold chT
  rw [List.all_eq_true]
  intro p hp
  have:=List.all_eq_true.1 h p hp
  split at this
  · rename_i s hs
    obtain ⟨hm,ht⟩:=Env.find_mem hs
    rw [← ht,hβ s hm]
    split at this <;> rename_i hv hw <;> simp_all [O6]
  · simp at this
theorem w64 {x:Int} (h0:-9223372036854775808≤x) (h1:x≤9223372036854775807):IntKind.wrap .i64 x=x:=by
  simp only [IntKind.wrap,IntKind.bits,IntKind.signed]
  simp only [show (2:Int) ^ 64=18446744073709551616 from by decide,show (2:Int) ^ (64 - 1)=9223372036854775808 from by decide]
  split <;> rename_i h <;> simp at h <;> omega
theorem q64 {x y:Int} (h0:0≤x) (h1:x≤9223372036854775807) (hy:0<y):IntKind.wrap .i64 (Int.tdiv x y)=x / y:=by
  rw [Int.tdiv_eq_ediv_of_nonneg h0]
  have:=Int.ediv_nonneg h0 (Int.le_of_lt hy)
  have:=Int.ediv_le_self y h0
  exact w64 (by omega) (by omega)
theorem r64 {x y:Int} (h0:0≤x):Int.tmod x y=x % y:=Int.tmod_eq_emod_of_nonneg h0
def A7 (s:ByteArray) (i:Int):Int:=(((s.data.toList)[i.toNat]?.getD 0).toNat:Int)
theorem D4 (s:ByteArray) (i:Int):0≤A7 s i∧A7 s i<256:=by
  unfold A7
  have:=UInt8.toNat_lt ((s.data.toList)[i.toNat]?.getD 0)
  omega
theorem E4 {d:Bool} {P:Program} {ops:Array Oper} {i:Nat} {Q:D6} {n:Fr} {E:Env} {W0:World} {H:List Grp} {o:Oper} {ch:List (Nat × Bool)} {t:TypeId} {x ix:Operand} {s:ByteArray} {kd:IntKind} {j:Int}
    (ho:ops[i]? = some o:=by exact rfl) (hop:o.op=.index t x ix:=by exact rfl) (hx:evO E ch x=some (.string s):=by kernel_rfl) (hix:evO E ch ix=some (.int kd j):=by kernel_rfl) (hu:P.underlying t=some .string:=by kernel_rfl)
    (hch:F1 ops E o.guard=some ch:=by kernel_rfl) (hd:H7 n ch o.dst=true:=by kernel_rfl) (hk:I0 E ch=true:=by kernel_rfl)
    (hb:chB E ch→0≤j∧j<s.size)
    (k:GL d P ops (i+1) Q n (Env.put E o.dst ch (.int .u8 (A7 s j))) W0 H):GL d P ops i Q n E W0 H:=by
  refine G5 ho hch hd hk (fun r hr hcb w _=>?_) k
  obtain ⟨h0,h1⟩:=hb hcb
  have hlt:j.toNat<s.size:=by omega
  have e:s[j.toNat]? = some s[j.toNat]:=by simp [getElem?_pos,hlt]
  have e2:((s[j.toNat]:UInt8).toNat:Int)=A7 s j:=by
    unfold A7
    have:(s.data.toList)[j.toNat]? = some s[j.toNat]:=by
      rw [List.getElem?_eq_getElem (by simpa using hlt)]; rfl
    rw [this]; rfl
  unfold execOp
  simp only [hop]
  rw [hr _ _ hx,hr _ _ hix]
  simp only [Instr.index,asIntOf,Sem.run_bind,run_underlying hu,Sem.run_pure,Result.andThen_ok,if_pos h0,e,e2]
  exact ⟨rfl,rfl⟩
def loV:Option Value→Option Int
  | none=>some 0
  | some (.int _ n)=>some n
  | _=>none
def hiV (len:Int):Option Value→Option Int
  | none=>some len
  | some (.int _ n)=>some n
  | _=>none
def evOO (ρ:Operand→Option Value):Option Operand→Option (Option Value)
  | none=>some none
  | some x=>(match ρ x with | some v=>some (some v) | none=>none)
theorem run_sliceBound {P:Program} {x:Value} {y:Nat} {code:BoundsCode} {kd:IntKind} {n:Int} (hx:x=.int kd n) (h0:0≤n) (h1:n≤y) (w:World):(Instr.sliceBound x y code).run P w=.ok n.toNat w:=by
  subst hx
  simp [Instr.sliceBound,asIntOf,h0,h1]
theorem O0 {P:Program} {isSlice:Bool} {len cap:Nat} {lo hi:Option Value} {l h:Int} (hl:loV lo=some l) (hh:hiV len hi=some h)
    (h0:0≤l) (h1:l≤h) (h2:h≤cap) (w:World):(Instr.sliceBounds isSlice len cap lo hi none).run P w=.ok (l.toNat,h.toNat,cap) w:=by
  have hhi:(match hi with | some v=>Instr.sliceBound v cap (if isSlice then .sliceAcap else .sliceAlen) | none=>(pure len:Sem Nat)).run P w=.ok h.toNat w:=by
    cases hi with
    | none=>simp only [hiV,Option.some.injEq] at hh; subst hh; rfl
    | some v =>
      cases v <;> simp only [hiV,Option.some.injEq,reduceCtorEq] at hh
      subst hh
      exact run_sliceBound rfl (by omega) h2 w
  have hlo:(match lo with | some v=>Instr.sliceBound v h.toNat .sliceB | none=>(pure 0:Sem Nat)).run P w=.ok l.toNat w:=by
    cases lo with
    | none=>simp only [loV,Option.some.injEq] at hl; subst hl; rfl
    | some v =>
      cases v <;> simp only [loV,Option.some.injEq,reduceCtorEq] at hl
      subst hl
      exact run_sliceBound rfl h0 (by omega) w
  unfold Instr.sliceBounds
  cases hi with
  | none =>
    simp only [Sem.run_bind,Sem.run_pure,Result.andThen_ok] at hhi ⊢
    injection hhi with hhi
    subst hhi
    cases lo with
    | none=>simp only [Sem.run_bind,Sem.run_pure,Result.andThen_ok] at hlo ⊢; injection hlo with hlo; rw [← hlo]
    | some v=>simp only [Option.isSome_none,Bool.false_eq_true,if_false,Sem.run_bind] at hlo ⊢; rw [hlo]; rfl
  | some u =>
    simp only [Sem.run_bind,Sem.run_pure,Result.andThen_ok] at hhi ⊢
    rw [hhi]
    simp only [Result.andThen_ok]
    cases lo with
    | none=>simp only [Sem.run_bind,Sem.run_pure,Result.andThen_ok] at hlo ⊢; injection hlo with hlo; rw [← hlo]
    | some v=>simp only [Option.isSome_none,Bool.false_eq_true,if_false,Sem.run_bind] at hlo ⊢; rw [hlo]; rfl
theorem F6 {d:Bool} {P:Program} {ops:Array Oper} {i:Nat} {Q:D6} {n:Fr} {E:Env} {W0:World} {H:List Grp} {o:Oper} {ch:List (Nat × Bool)} {t:TypeId} {x:Operand} {lo hi:Option Operand} {s:ByteArray} {vl vh:Option Value} {l h:Int}
    (ho:ops[i]? = some o:=by exact rfl) (hop:o.op=.slice t x lo hi none:=by exact rfl) (hx:evO E ch x=some (.string s):=by kernel_rfl) (hvl:evOO (evO E ch) lo=some vl:=by kernel_rfl) (hvh:evOO (evO E ch) hi=some vh:=by kernel_rfl) (hu:P.underlying t=some .string:=by kernel_rfl)
    (hl:loV vl=some l:=by kernel_rfl) (hh:hiV s.size vh=some h:=by kernel_rfl)
    (hch:F1 ops E o.guard=some ch:=by kernel_rfl) (hd:H7 n ch o.dst=true:=by kernel_rfl) (hk:I0 E ch=true:=by kernel_rfl)
    (hb:chB E ch→0≤l∧l≤h∧h≤s.size)
    (k:GL d P ops (i+1) Q n (Env.put E o.dst ch (.string (s.extract l.toNat h.toNat))) W0 H):GL d P ops i Q n E W0 H:=by
  refine G5 ho hch hd hk (fun r hr hcb w _=>?_) k
  obtain ⟨h0,h1,h2⟩:=hb hcb
  have hm:∀ {y:Option Operand} {v:Option Value},evOO (evO E ch) y=some v→y.map r=v:=by
    intro y v hv
    cases y with
    | none=>simp only [evOO,Option.some.injEq] at hv; subst hv; rfl
    | some y =>
      simp only [evOO] at hv
      split at hv
      · rename_i u hu; injection hv with hv; subst hv; simp [hr _ _ hu]
      · simp at hv
  unfold execOp
  simp only [hop]
  rw [hr _ _ hx,hm hvl,hm hvh]
  simp only [Instr.sliceAt,Instr.slice,Sem.run_bind,run_underlying hu,Result.andThen_ok,Option.map_none,Option.isSome_none,Bool.false_eq_true,if_false,
    O0 (P:=P) (isSlice:=false) hl hh h0 h1 h2,Sem.run_pure]
  exact ⟨rfl,rfl⟩
theorem E5 {d:Bool} {P:Program} {ops:Array Oper} {i:Nat} {Q:D6} {n:Fr} {E:Env} {W0:World} {H:List Grp} {o:Oper} {ch:List (Nat × Bool)} {t t2:TypeId} {x y:Operand} {s u:ByteArray}
    (ho:ops[i]? = some o:=by exact rfl) (hop:o.op=.binOp .add t x y t2:=by exact rfl) (hx:evO E ch x=some (.string s):=by kernel_rfl) (hy:evO E ch y=some (.string u):=by kernel_rfl)
    (hch:F1 ops E o.guard=some ch:=by kernel_rfl) (hd:H7 n ch o.dst=true:=by kernel_rfl) (hk:I0 E ch=true:=by kernel_rfl)
    (hb:chB E ch→s.size+u.size≤9223372036854775807)
    (k:GL d P ops (i+1) Q n (Env.put E o.dst ch (.string (s++u))) W0 H):GL d P ops i Q n E W0 H:=by
  refine G5 ho hch hd hk (fun r hr hcb w _=>?_) k
  have h0:=hb hcb
  have h1:¬ (((s.size+u.size:Nat):Int) > IntKind.i64.max):=by
    have:IntKind.i64.max=9223372036854775807:=by decide
    rw [this]; omega
  unfold execOp
  simp only [hop]
  rw [hr _ _ hx,hr _ _ hy]
  simp only [eqGuard,Sem.run_bind,binOp,Op.stringOp,if_neg h1]
  exact ⟨rfl,rfl⟩
end Go.Sw
namespace Go.Sw
open Go.RowKit
def At (W0:World) (H:List Grp) (b:Nat) (o:Obj):Prop:=(b<W0.heap.size∧W0.heap[b]? = some o)∨(b,o)∈H.flatten
theorem Sat.at {W0:World} {H:List Grp} {w:World} (h:Sat W0 H w) {b:Nat} {o:Obj} (ha:At W0 H b o):w.heap[b]? = some o:=by
  rcases ha with ⟨hb,h0⟩ | hm
  · rw [h.below.block b hb]; exact h0
  · exact h.has _ hm
theorem At.grp {W0:World} {H:List Grp} {g:Grp} {b:Nat} {o:Obj} (j i:Nat) (hj:H[j]? = some g) (hi:g[i]? = some (b,o)):At W0 H b o :=
  .inr (List.mem_flatten.2 ⟨g,List.mem_of_getElem? hj,List.mem_of_getElem? hi⟩)
theorem At.mem {W0:World} {H:List Grp} {g:Grp} {b:Nat} {o:Obj} (hg:g∈H) (hi:(b,o)∈g):At W0 H b o:=.inr (List.mem_flatten.2 ⟨g,hg,hi⟩)
structure Wr (b:Nat) (o:Obj) (w w':World):Prop where
  os:w'.os=w.os
  tape:w'.tape=w.tape
  output:w'.output=w.output
  size:w'.heap.size=w.heap.size
  at_:w'.heap[b]? = some o
  other:∀ k,k≠b→w'.heap[k]? = w.heap[k]?
theorem nodup_swap {H:List Grp} {g:Grp} {b:Nat} {o o':Obj} {j i:Nat} (hj:H[j]? = some g) (hi:g[i]? = some (b,o)) :
    ((H.set j (g.set i (b,o'))).flatten.map Prod.fst)=H.flatten.map Prod.fst:=by
  induction H generalizing j with
  | nil=>simp at hj
  | cons x H ih =>
    cases j with
    | zero =>
      simp only [List.getElem?_cons_zero,Option.some.injEq] at hj
      subst hj
      simp only [List.set_cons_zero,List.flatten_cons,List.map_append]
      congr 1
      clear ih
      induction x generalizing i with
      | nil=>simp at hi
      | cons p x ih =>
        cases i with
        | zero=>simp only [List.getElem?_cons_zero,Option.some.injEq] at hi; subst hi; simp
        | succ i=>simp only [List.getElem?_cons_succ] at hi; simp [ih hi]
    | succ j =>
      simp only [List.getElem?_cons_succ] at hj
      simp only [List.set_cons_succ,List.flatten_cons,List.map_append,ih hj]
theorem mem_swap {H:List Grp} {g:Grp} {b:Nat} {o o':Obj} {j i:Nat} (hj:H[j]? = some g) (hi:g[i]? = some (b,o)) (hn:(H.flatten.map Prod.fst).Nodup)
    {p:Nat × Obj} (hp:p∈(H.set j (g.set i (b,o'))).flatten):p=(b,o')∨(p∈H.flatten∧p.1≠b):=by
  induction H generalizing j with
  | nil=>simp at hj
  | cons x H ih =>
    simp only [List.flatten_cons,List.map_append,List.nodup_append] at hn
    obtain ⟨n1,n2,n3⟩:=hn
    cases j with
    | zero =>
      simp only [List.getElem?_cons_zero,Option.some.injEq] at hj
      subst hj
      simp only [List.set_cons_zero,List.flatten_cons,List.mem_append] at hp
      have hb:b∈x.map Prod.fst:=List.mem_map.2 ⟨_,List.mem_of_getElem? hi,rfl⟩
      rcases hp with hp | hp
      · have:p=(b,o')∨(p∈x∧p.1≠b):=by
          clear ih n2 n3 hb
          induction x generalizing i with
          | nil=>simp at hi
          | cons q x ih =>
            simp only [List.map_cons,List.nodup_cons] at n1
            cases i with
            | zero =>
              simp only [List.getElem?_cons_zero,Option.some.injEq] at hi; subst hi
              simp only [List.set_cons_zero,List.mem_cons] at hp
              rcases hp with rfl | hp
              · exact .inl rfl
              · refine .inr ⟨List.mem_cons_of_mem _ hp,fun e=>n1.1 ?_⟩
                exact List.mem_map.2 ⟨p,hp,e⟩
            | succ i =>
              simp only [List.getElem?_cons_succ] at hi
              simp only [List.set_cons_succ,List.mem_cons] at hp
              rcases hp with rfl | hp
              · refine .inr ⟨List.mem_cons_self,fun e=>n1.1 ?_⟩
                exact List.mem_map.2 ⟨_,List.mem_of_getElem? hi,e.symm⟩
              · rcases ih n1.2 hi hp with h | ⟨h1,h2⟩
                · exact .inl h
                · exact .inr ⟨List.mem_cons_of_mem _ h1,h2⟩
        rcases this with h | ⟨h1,h2⟩
        · exact .inl h
        · exact .inr ⟨by simp [h1],h2⟩
      · refine .inr ⟨by simp [hp],fun e=>?_⟩
        have:p.1∈H.flatten.map Prod.fst:=List.mem_map.2 ⟨p,hp,rfl⟩
        exact n3 _ hb _ this e.symm
    | succ j =>
      simp only [List.getElem?_cons_succ] at hj
      simp only [List.set_cons_succ,List.flatten_cons,List.mem_append] at hp
      have hbH:b∈H.flatten.map Prod.fst:=List.mem_map.2 ⟨(b,o),List.mem_flatten.2 ⟨g,List.mem_of_getElem? hj,List.mem_of_getElem? hi⟩,rfl⟩
      rcases hp with hp | hp
      · refine .inr ⟨by simp [hp],fun e=>?_⟩
        have:p.1∈x.map Prod.fst:=List.mem_map.2 ⟨p,hp,rfl⟩
        exact n3 _ this _ hbH e
      · rcases ih hj n2 hp with h | ⟨h1,h2⟩
        · exact .inl h
        · exact .inr ⟨by simp [h1],h2⟩
theorem Sat.wr {W0:World} {H:List Grp} {w w':World} (h:Sat W0 H w) {g:Grp} {b:Nat} {o o':Obj} {j i:Nat} (hj:H[j]? = some g) (hi:g[i]? = some (b,o))
    (hw:Wr b o' w w'):Sat W0 (H.set j (g.set i (b,o'))) w':=by
  have hm:(b,o)∈H.flatten:=List.mem_flatten.2 ⟨g,List.mem_of_getElem? hj,List.mem_of_getElem? hi⟩
  have hhigh:W0.heap.size≤b:=h.high (b,o) hm
  refine ⟨⟨hw.os.trans h.below.os,hw.tape.trans h.below.tape,hw.output.trans h.below.output,by rw [hw.size]; exact h.below.size,fun k hk=>?_⟩,?_,?_,?_⟩
  · rw [hw.other k (by omega)]; exact h.below.block k hk
  · rw [nodup_swap hj hi]; exact h.nodup
  · intro p hp
    rcases mem_swap hj hi h.nodup hp with rfl | ⟨h1,h2⟩
    · exact hw.at_
    · rw [hw.other _ h2]; exact h.has p h1
  · intro p hp
    rcases mem_swap hj hi h.nodup hp with rfl | ⟨h1,h2⟩
    · exact hhigh
    · exact h.high p h1
theorem Sat.new {W0:World} {H:List Grp} {w w':World} (h:Sat W0 H w) {o:Obj} (hos:w'.os=w.os) (htape:w'.tape=w.tape) (hout:w'.output=w.output)
    (hheap:w'.heap=w.heap.push o):Sat W0 ([(w.heap.size,o)]::H) w':=by
  have hlt:∀ p,p∈H.flatten→p.1<w.heap.size:=fun p hp=>by
    have:=h.has p hp
    rcases Nat.lt_or_ge p.1 w.heap.size with h' | h'
    · exact h'
    · simp [Array.getElem?_eq_none h'] at this
  have hold:∀ k,k<w.heap.size→w'.heap[k]? = w.heap[k]? := fun k hk=>by
    rw [hheap,Array.getElem?_push,if_neg (by omega)]
  refine ⟨⟨hos.trans h.below.os,htape.trans h.below.tape,hout.trans h.below.output,by rw [hheap]; simp; have:=h.below.size; omega,fun k hk=>?_⟩,?_,?_,?_⟩
  · have:=h.below.size
    rw [hold k (by omega)]; exact h.below.block k hk
  · simp only [List.flatten_cons,List.cons_append,List.nil_append,List.map_cons,List.nodup_cons]
    refine ⟨fun hm=>?_,h.nodup⟩
    obtain ⟨p,hp,he⟩:=List.mem_map.1 hm
    have:=hlt p hp
    omega
  · intro p hp
    simp only [List.flatten_cons,List.cons_append,List.nil_append,List.mem_cons] at hp
    rcases hp with rfl | hp
    · simp [hheap]
    · rw [hold _ (hlt p hp)]; exact h.has p hp
  · intro p hp
    simp only [List.flatten_cons,List.cons_append,List.nil_append,List.mem_cons] at hp
    rcases hp with rfl | hp
    · exact h.below.size
    · exact h.high p hp
theorem Sat.perm {W0:World} {H H':List Grp} {w:World} (h:Sat W0 H w) (hp:H.Perm H'):Sat W0 H' w:=by
  have hf:H.flatten.Perm H'.flatten:=hp.flatten
  exact ⟨h.below,(hf.map _).nodup_iff.1 h.nodup,fun p hm=>h.has p (hf.mem_iff.2 hm),fun p hm=>h.high p (hf.mem_iff.2 hm)⟩
theorem Sat.tail {W0:World} {H:List Grp} {g:Grp} {w:World} (h:Sat W0 (g::H) w):Sat W0 H w:=by
  have hn:=h.nodup
  simp only [List.flatten_cons,List.map_append,List.nodup_append] at hn
  exact ⟨h.below,hn.2.1,fun p hm=>h.has p (by simp [hm]),fun p hm=>h.high p (by simp [hm])⟩
theorem Sat.flat {W0:World} {H H':List Grp} {w:World} (h:Sat W0 H w) (hf:H.flatten.Perm H'.flatten):Sat W0 H' w :=
  ⟨h.below,(hf.map _).nodup_iff.1 h.nodup,fun p hm=>h.has p (hf.mem_iff.2 hm),fun p hm=>h.high p (hf.mem_iff.2 hm)⟩
theorem Sat.subl {W0:World} {H H':List Grp} {w:World} (h:Sat W0 H w) (hf:H'.flatten.Sublist H.flatten):Sat W0 H' w :=
  ⟨h.below,h.nodup.sublist (hf.map _),fun p hm=>h.has p (hf.subset hm),fun p hm=>h.high p (hf.subset hm)⟩
theorem J3 {d:Bool} {P:Program} {ops:Array Oper} {i:Nat} {Q:D6} {n:Fr} {E:Env} {W0:World} {H H':List Grp} (hd:d=false:=by exact rfl)
    (hs:∀ w,Sat W0 H w→Sat W0 H' w) (k:GL d P ops i Q n E W0 H'):GL d P ops i Q n E W0 H:=by
  subst hd; exact fun a w ha h=>k a w ha (hs w h)
theorem G_heap {P:Program} {c:Code} {Q:D6} {n:Fr} {E:Env} {W0:World} {H H':List Grp}
    (hs:∀ w,Sat W0 H w→Sat W0 H' w) (k:G P c Q n E W0 H'):G P c Q n E W0 H:=fun a w ha h=>k a w ha (hs w h)
theorem C1 {Q:D6} {x:Exit} {n:Fr} {E:Env} {W0:World} {H H':List Grp}
    (hs:∀ w,Sat W0 H w→Sat W0 H' w) (k:N Q x n E W0 H'):N Q x n E W0 H:=fun a w ha h=>k a w ha (hs w h)
theorem Tri.heap {P:Program} {f:FuncId} {args:Array Value} {W0:World} {H H':List Grp} {R:Value→List Grp→Prop}
    (hs:∀ w,Sat W0 H w→Sat W0 H' w) (h:Tri P f args W0 H' R):Tri P f args W0 H R:=fun w h0=>h w (hs w h0)
theorem Tri.post {P:Program} {f:FuncId} {args:Array Value} {W0:World} {H:List Grp} {R R':Value→List Grp→Prop}
    (h:Tri P f args W0 H R) (hr:∀ v H1,R v H1→∃ H2,R' v H2∧∀ w,Sat W0 H1 w→Sat W0 H2 w):Tri P f args W0 H R' :=
  fun w hs=>(h w hs).mono fun _ _ ⟨v,H1,he,hR,hs'⟩=>let ⟨H2,h2,h3⟩:=hr v H1 hR; ⟨v,H2,he,h2,h3 _ hs'⟩
theorem GL_eff {P:Program} {ops:Array Oper} {i:Nat} {Q:D6} {n:Fr} {E:Env} {W0:World} {H:List Grp} {o:Oper} {ch:List (Nat × Bool)} {R:Value→List Grp→Prop}
    (ho:ops[i]? = some o) (hch:F1 ops E o.guard=some ch) (hd:H7 n ch o.dst=true) (hsure:O5 E ch=true)
    (hrun:∀ (r:Operand→Value),(∀ x v,evO E ch x=some v→r x=v)→∀ w,Sat W0 H w→∃ v w' H',R v H'∧Sat W0 H' w' ∧
      ((execOp r o).run P w=.ok (.value v) w'∨((execOp r o).run P w=.ok .skip w'∧v=undef)))
    (k:∀ v H',R v H'→GL false P ops (i+1) Q n (Env.put E o.dst ch v) W0 H'):GL false P ops i Q n E W0 H:=by
  have hi:i<ops.toList.length:=by
    rcases Nat.lt_or_ge i ops.size with h | h
    · simpa using h
    · simp [Array.getElem?_eq_none h] at ho
  have hdrop:ops.toList.drop i=o::ops.toList.drop (i+1):=by
    rw [List.drop_eq_getElem_cons hi]
    congr 1
    have hi':i<ops.size:=by simpa using hi
    rw [Array.getElem?_eq_getElem hi'] at ho
    simpa using ho
  intro a w ha hs
  rw [hdrop]
  obtain ⟨β,hβ,hat⟩:=ha.at_
  have hcT:=chSure_of hsure β hβ
  have hw:=L1 hβ hat hch
  unfold wpList
  rw [hw,if_pos hcT]
  left
  obtain ⟨v,w',H',hR,hs',hr⟩:=hrun a.eval (fun x v=>J0 hat hcT) w hs
  have hput:=Ag.put ha hβ hat hd v
  rw [if_pos hcT] at hput
  unfold Oper.wp
  rcases hr with hr | ⟨hr,rfl⟩
  · rw [hr]; exact k v H' hR _ _ hput hs'
  · rw [hr]; exact k _ H' hR _ _ hput hs'
theorem Q8 {w:World} {b off:Nat} {c:Array Value} {e:TypeId} {fz:Nat × Nat} {v:Value} (h:w.heap[b]? = some (.cells c e fz)) (hv:c[off]? = some v):w.cell? ⟨b,off,none⟩=some v:=by
  simp [World.cell?,h,hv]
theorem K3 (b off i:Nat):(Addr.add ⟨b,off,none⟩ i)=⟨b,off+i,none⟩:=by
  unfold Addr.add
  split
  · rename_i h; subst h; rfl
  · rfl
theorem N7 {P:Program} {w:World} {b off:Nat} {c:Array Value} {e:TypeId} {fz:Nat × Nat} (h:w.heap[b]? = some (.cells c e fz)):∀ (l:List Value) (i:Nat) (acc:Array Value),
    (∀ k (hk:k<l.length),c[off+i+k]? = some l[k])→(loadCellsFrom ⟨b,off,none⟩ i l.length acc).run P w=.ok (acc++l.toArray) w
  | [],i,acc,_=>by simp [loadCellsFrom]
  | v::l,i,acc,hl=>by
    have h0:=hl 0 (by simp)
    simp only [List.getElem_cons_zero,Nat.add_zero] at h0
    have ih:=N7 (P:=P) (off:=off) h l (i+1) (acc.push v) (fun k hk=>by
      have:=hl (k+1) (by simp; omega)
      simp only [List.getElem_cons_succ] at this
      rw [show off+(i+1)+k=off+i+(k+1) from by omega]
      exact this)
    simp only [List.length_cons,loadCellsFrom,Sem.run_bind,K3,run_load,Q8 h h0,Result.andThen_ok,ih]
    simp
theorem A5 {d:Bool} {P:Program} {ops:Array Oper} {i:Nat} {Q:D6} {n:Fr} {E:Env} {W0:World} {H:List Grp} {o:Oper} {ch:List (Nat × Bool)} {t:TypeId} {x:Operand}
    {b off:Nat} {c:Array Value} {e:TypeId} {fz:Nat × Nat} {v:Value}
    (ho:ops[i]? = some o:=by exact rfl) (hop:o.op=.load t x:=by exact rfl) (hx:evO E ch x=some (.pointer (some ⟨b,off,none⟩)):=by kernel_rfl) (ht:aggB P t=some false:=by kernel_rfl)
    (hch:F1 ops E o.guard=some ch:=by kernel_rfl) (hd:H7 n ch o.dst=true:=by kernel_rfl) (hk:I0 E ch=true:=by kernel_rfl)
    (hA:At W0 H b (.cells c e fz)) (hv:c[off]? = some v:=by exact rfl)
    (k:GL d P ops (i+1) Q n (Env.put E o.dst ch v) W0 H):GL d P ops i Q n E W0 H:=by
  refine G5 ho hch hd hk (fun r hr _ w hs=>?_) k
  unfold execOp
  simp only [hop]
  rw [hr _ _ hx]
  simp only [Instr.loadAt,Instr.sureAddr,loadVar,Sem.run_bind,Sem.run_pure,Result.andThen_ok,L4 ht,Bool.false_eq_true,if_false,run_load,Q8 (hs.at hA) hv]
  exact ⟨rfl,rfl⟩
theorem D3 {d:Bool} {P:Program} {ops:Array Oper} {i:Nat} {Q:D6} {n:Fr} {E:Env} {W0:World} {H:List Grp} {o:Oper} {ch:List (Nat × Bool)} {t:TypeId} {x:Operand}
    {b off:Nat} {c:Array Value} {e:TypeId} {fz:Nat × Nat} {l:List Value}
    (ho:ops[i]? = some o:=by exact rfl) (hop:o.op=.load t x:=by exact rfl) (hx:evO E ch x=some (.pointer (some ⟨b,off,none⟩)):=by kernel_rfl) (ht:aggB P t=some true:=by kernel_rfl) (hsz:sizeV P t=some l.length:=by kernel_rfl)
    (hch:F1 ops E o.guard=some ch:=by kernel_rfl) (hd:H7 n ch o.dst=true:=by kernel_rfl) (hk:I0 E ch=true:=by kernel_rfl)
    (hA:At W0 H b (.cells c e fz)) (hv':(c.toList.drop off).take l.length=l:=by kernel_rfl)
    (k:GL d P ops (i+1) Q n (Env.put E o.dst ch (.agg l.toArray)) W0 H):GL d P ops i Q n E W0 H:=by
  have hv:∀ k (hk:k<l.length),c[off+k]? = some l[k]:=by
    intro k hk
    have h1:((c.toList.drop off).take l.length)[k]? = some l[k]:=by rw [hv']; simp
    rw [List.getElem?_take,if_pos hk,List.getElem?_drop] at h1
    simpa using h1
  refine G5 ho hch hd hk (fun r hr _ w hs=>?_) k
  unfold execOp
  simp only [hop]
  rw [hr _ _ hx]
  simp only [Instr.loadAt,Instr.sureAddr,loadVar,Sem.run_bind,Sem.run_pure,Result.andThen_ok,L4 ht,if_true,G8 hsz,loadCells,
    N7 (P:=P) (hs.at hA) l 0 #[] (by simpa using hv)]
  exact ⟨rfl,by simp⟩
def thawed (fz:Nat × Nat) (off:Nat):Bool:=!(decide (fz.1≤off)&&decide (off<fz.2))
theorem run_store1 {P:Program} {w:World} {b off:Nat} {c:Array Value} {e:TypeId} {fz:Nat × Nat} {v:Value} (h:w.heap[b]? = some (.cells c e fz)) (hoff:off<c.size)
    (hfz:thawed fz off=true) (hv:v.oneCell'=true):∃ w',(store ⟨b,off,none⟩ v).run P w=.ok () w'∧Wr b (.cells (c.setIfInBounds off v) e fz) w w':=by
  have hc:w.cell? ⟨b,off,none⟩=some c[off]:=Q8 h (by simp [hoff])
  have hf:w.frozen? ⟨b,off,none⟩=false:=by
    simp only [World.frozen?,h]
    simp [thawed] at hfz
    simp
    omega
  refine ⟨w.setCell ⟨b,off,none⟩ v,?_,?_⟩
  · rw [run_store P w _ v _ hv,hc]
    simp [hf]
  · have hb:b<w.heap.size:=by
      rcases Nat.lt_or_ge b w.heap.size with h' | h'
      · exact h'
      · simp [Array.getElem?_eq_none h'] at h
    refine ⟨rfl,rfl,rfl,by simp,?_,fun k hk=>?_⟩
    · simp only [World.setCell,Array.getElem?_modify,↓reduceIte,h,Option.map_some]
      simp
    · simp only [World.setCell,Array.getElem?_modify]
      rw [if_neg (fun e=>hk e.symm)]
theorem Wr.trans {b:Nat} {o1 o2:Obj} {w w1 w2:World} (h1:Wr b o1 w w1) (h2:Wr b o2 w1 w2):Wr b o2 w w2 :=
  ⟨h2.os.trans h1.os,h2.tape.trans h1.tape,h2.output.trans h1.output,h2.size.trans h1.size,h2.at_,fun k hk=>(h2.other k hk).trans (h1.other k hk)⟩
def setRow (c:Array Value) (off:Nat):List Value→Array Value
  | []=>c
  | v::r=>setRow (c.setIfInBounds off v) (off+1) r
theorem P1 {P:Program} {b:Nat} {e:TypeId} {fz:Nat × Nat}:∀ (l:List Value) {w:World} {off i:Nat} {c:Array Value},w.heap[b]? = some (.cells c e fz)→off+i+l.length≤c.size →
    (∀ k,k<l.length→thawed fz (off+i+k)=true)→(l.all Value.oneCell')=true →
    ∃ w',(storeCells ⟨b,off,none⟩ l i).run P w=.ok () w'∧(l=[]→w'=w)∧Wr b (.cells (setRow c (off+i) l) e fz) w w'
  | [],w,off,i,c,h,_,_,_=>⟨w,rfl,fun _=>rfl,rfl,rfl,rfl,rfl,h,fun _ _=>rfl⟩
  | v::l,w,off,i,c,h,hlen,hfz,hv=>by
    simp only [List.all_cons,Bool.and_eq_true] at hv
    simp only [List.length_cons] at hlen
    obtain ⟨w1,hr1,hw1⟩:=run_store1 (P:=P) h (off:=off+i) (by omega) (by simpa using hfz 0 (by simp)) hv.1
    obtain ⟨w2,hr2,_,hw2⟩:=P1 (P:=P) l (w:=w1) (off:=off) (i:=i+1) hw1.at_ (by simp; omega)
      (fun k hk=>by have:=hfz (k+1) (by simp; omega); rw [show off+(i+1)+k=off+i+(k+1) from by omega]; exact this) hv.2
    refine ⟨w2,?_,fun h=>by simp at h,?_⟩
    · simp only [storeCells,Sem.run_bind,K3,hr1,Result.andThen_ok,hr2]
    · have:=hw1.trans hw2
      simpa [setRow,Nat.add_assoc] using this
theorem M6 {P:Program} {ops:Array Oper} {i:Nat} {Q:D6} {n:Fr} {E:Env} {W0:World} {H H':List Grp} {o:Oper} {ch:List (Nat × Bool)} {t:TypeId} {x y:Operand}
    {b off:Nat} {c c':Array Value} {e:TypeId} {fz:Nat × Nat} {v:Value} {g:Grp} {j m:Nat}
    (ho:ops[i]? = some o:=by exact rfl) (hop:o.op=.store t x y:=by exact rfl) (hx:evO E ch x=some (.pointer (some ⟨b,off,none⟩)):=by kernel_rfl) (hy:evO E ch y=some v:=by kernel_rfl)
    (hsz:sizeV P t=some v.cells.size:=by kernel_rfl) (h1:(v.cells.toList.all Value.oneCell')=true:=by kernel_rfl)
    (hch:F1 ops E o.guard=some ch:=by kernel_rfl) (hd:H7 n ch o.dst=true:=by kernel_rfl) (hsure:O5 E ch=true:=by kernel_rfl)
    (hj:H[j]? = some g:=by exact rfl) (hi:g[m]? = some (b,.cells c e fz):=by exact rfl) (hoff:off+v.cells.size≤c.size) (hfz:∀ k,k<v.cells.size→thawed fz (off+k)=true)
    (hc':setRow c off v.cells.toList=c') (hH':H.set j (g.set m (b,.cells c' e fz))=H':=by kernel_rfl)
    (k:GL false P ops (i+1) Q n (Env.put E o.dst ch undef) W0 H'):GL false P ops i Q n E W0 H:=by
  refine GL_eff (R:=fun v H1=>v=undef∧H1=H') ho hch hd hsure (fun r hr w hs=>?_) (by rintro v H1 ⟨rfl,rfl⟩; exact k)
  have hblk:=hs.has _ (List.mem_flatten.2 ⟨g,List.mem_of_getElem? hj,List.mem_of_getElem? hi⟩)
  obtain ⟨w',hr',_,hw'⟩:=P1 (P:=P) v.cells.toList (w:=w) (off:=off) (i:=0) hblk (by simpa using hoff) (by simpa using hfz) h1
  refine ⟨undef,w',H',⟨rfl,rfl⟩,?_,.inr ⟨?_,rfl⟩⟩
  · have:=hs.wr hj hi (o':=.cells c' e fz) (by rw [← hc']; simpa using hw')
    rw [hH'] at this; exact this
  · unfold execOp
    simp only [hop]
    rw [hr _ _ hx,hr _ _ hy]
    simp only [Instr.storeAt,Instr.sureAddr,storeVar,Sem.run_bind,Sem.run_pure,Result.andThen_ok,G8 hsz,ne_eq,not_true_eq_false,if_false,hr']
theorem E3 {x:Nat}:thawed (0,0) x=true:=by simp [thawed]
theorem GL_new {P:Program} {ops:Array Oper} {i:Nat} {Q:D6} {n:Fr} {E:Env} {W0:World} {H:List Grp} {o:Oper} {ch:List (Nat × Bool)} {ob:Obj} {f:Nat→Value}
    (ho:ops[i]? = some o) (hch:F1 ops E o.guard=some ch) (hd:H7 n ch o.dst=true) (hsure:O5 E ch=true)
    (hrun:∀ (r:Operand→Value),(∀ x v,evO E ch x=some v→r x=v)→∀ w,(execOp r o).run P w=.ok (.value (f w.heap.size)) (w.alloc ob))
    (k:∀ b,GL false P ops (i+1) Q n (Env.put E o.dst ch (f b)) W0 ([(b,ob)]::H)):GL false P ops i Q n E W0 H:=by
  refine GL_eff (R:=fun v H1=>∃ b,v=f b∧H1=[(b,ob)]::H) ho hch hd hsure (fun r hr w hs=>?_) (by rintro v H1 ⟨b,rfl,rfl⟩; exact k b)
  exact ⟨f w.heap.size,w.alloc ob,_,⟨_,rfl,rfl⟩,hs.new rfl rfl rfl rfl,.inl (hrun r hr w)⟩
theorem F5 {P:Program} {ops:Array Oper} {i:Nat} {Q:D6} {n:Fr} {E:Env} {W0:World} {H:List Grp} {o:Oper} {ch:List (Nat × Bool)} {t:TypeId} {z:Value}
    (ho:ops[i]? = some o:=by exact rfl) (hop:o.op=.alloc t:=by exact rfl) (hz:zeroV P t=some z:=by kernel_rfl) (hch:F1 ops E o.guard=some ch:=by kernel_rfl) (hd:H7 n ch o.dst=true:=by kernel_rfl) (hsure:O5 E ch=true:=by kernel_rfl)
    (k:∀ b,GL false P ops (i+1) Q n (Env.put E o.dst ch (.pointer (some ⟨b,0,none⟩))) W0 ([(b,.cells z.cells t)]::H)):GL false P ops i Q n E W0 H :=
  GL_new (f:=fun b=>.pointer (some ⟨b,0,none⟩)) ho hch hd hsure (fun r hr w=>by
    unfold execOp; simp only [hop,Instr.alloc,Sem.run_bind,Q1 hz,Result.andThen_ok]; rfl) k
theorem G7 {P:Program} {ops:Array Oper} {i:Nat} {Q:D6} {n:Fr} {E:Env} {W0:World} {H:List Grp} {o:Oper} {ch:List (Nat × Bool)} {t:TypeId} {x:Operand} {v:Value}
    (ho:ops[i]? = some o:=by exact rfl) (hop:o.op=.box t x:=by exact rfl) (hx:evO E ch x=some v:=by kernel_rfl) (hch:F1 ops E o.guard=some ch:=by kernel_rfl) (hd:H7 n ch o.dst=true:=by kernel_rfl) (hsure:O5 E ch=true:=by kernel_rfl)
    (k:∀ b,GL false P ops (i+1) Q n (Env.put E o.dst ch (.pointer (some ⟨b,0,none⟩))) W0 ([(b,.cells v.cells t)]::H)):GL false P ops i Q n E W0 H :=
  GL_new (f:=fun b=>.pointer (some ⟨b,0,none⟩)) ho hch hd hsure (fun r hr w=>by
    unfold execOp; simp only [hop]; rw [hr _ _ hx]; rfl) k
def buildSliceV (P:Program) (t:TypeId) (len:Nat) (parts:List (Nat × Value)):Option (Array Value × TypeId) :=
  match P.underlying t with
  | some (.slice e) =>
    (match sizeV P e,zeroV P e with
     | some n,some z=>if len * n > 2 ^ 24 then none else
        (match Instr.fill (fun i=>some (i * n,n)) ((Array.range (len * n)).map (z.cells[· % z.cells.size]!)) parts with | some c=>some (c,e) | none=>none)
     | _,_=>none)
  | _=>none
theorem C9 {P:Program} {ops:Array Oper} {i:Nat} {Q:D6} {n:Fr} {E:Env} {W0:World} {H:List Grp} {o:Oper} {ch:List (Nat × Bool)} {t e:TypeId} {len:Nat} {parts:Array (Nat × Operand)} {l:List (Nat × Value)} {c:List Value}
    (ho:ops[i]? = some o:=by exact rfl) (hop:o.op=.buildSlice t len parts:=by exact rfl) (hx:evP (evO E ch) parts.toList=some l:=by kernel_rfl) (hc:buildSliceV P t len l=some (c.toArray,e):=by kernel_rfl)
    (hch:F1 ops E o.guard=some ch:=by kernel_rfl) (hd:H7 n ch o.dst=true:=by kernel_rfl) (hsure:O5 E ch=true:=by kernel_rfl)
    (k:∀ b,GL false P ops (i+1) Q n (Env.put E o.dst ch (.slice (some ⟨b,0,none⟩) len len)) W0 ([(b,.cells c.toArray e)]::H)):GL false P ops i Q n E W0 H :=
  GL_new (f:=fun b=>.slice (some ⟨b,0,none⟩) len len) ho hch hd hsure (fun r hr w=>by
    unfold execOp; simp only [hop]
    have e1:(Array.map (fun x=>(x.fst,r x.snd)) parts)=l.toArray:=by
      rw [← evP_map hr _ hx]; apply Array.ext'; rw [Array.toList_map]
    rw [e1]
    unfold buildSliceV at hc
    split at hc
    · rename_i el hu
      split at hc
      · rename_i sz z hsz hz
        split at hc
        · simp at hc
        · rename_i hbig
          split at hc
          · rename_i cc hf
            simp only [Option.some.injEq,Prod.mk.injEq] at hc
            obtain ⟨h1,rfl⟩:=hc
            have hm:len * sz=0→(Array.range (len * sz)).map (fun q=>(#[]:Array Value)[q % (#[]:Array Value).size]!)=(Array.range (len * sz)).map (z.cells[· % z.cells.size]!):=by
              intro h0
              rw [h0,show Array.range 0=#[] from rfl]
              simp
            simp only [Instr.buildSlice,Sem.run_bind,run_underlying hu,Result.andThen_ok,G8 hsz,if_neg hbig]
            by_cases h0:len * sz=0
            · rw [if_pos h0]
              simp only [Sem.run_bind,Sem.run_pure,Result.andThen_ok,hm h0,hf,newRow,run_newObj,h1]
              rfl
            · rw [if_neg h0]
              simp only [Sem.run_bind,Sem.run_pure,Q1 hz,Result.andThen_ok,hf,newRow,run_newObj,h1]
              rfl
          · simp at hc
      · simp at hc
    · simp at hc) k
def psv (P:Program) (ops:Array Oper) (n:Fr) (ms:List Nat) (i:Nat) (E:List Sl):List Sl:=(L8 P ops n ms i E).getD []
theorem psv_some {P:Program} {ops:Array Oper} {n:Fr} {ms:List Nat} {i:Nat} {E:List Sl} (h:(L8 P ops n ms i E).isSome=true):L8 P ops n ms i E=some (psv P ops n ms i E):=by
  unfold psv
  cases hp:L8 P ops n ms i E with
  | none=>rw [hp] at h; cases h
  | some E1=>rfl
theorem A4 {d:Bool} {P:Program} {ops:Array Oper} {i j:Nat} {Q:D6} {n:Fr} {E:Env} {W0:World} {H:List Grp} (ms:List Nat)
    (h:(L8 P ops n ms i E).isSome=true:=by kernel_rfl) (hj:i+ms.length=j:=by exact rfl) (k:GL d P ops j Q n (psv P ops n ms i E) W0 H):GL d P ops i Q n E W0 H :=
  GL_psteps ms (psv_some h) (by rw [hj]; exact k)
def setI (E:List Sl) (t:Nat) (y:Int):List Sl:=⟨t,[],.int .i64 y⟩::E.filter fun s=>!(s.t==t)
theorem setI_sub {E:Env} {t:Nat} {x y:Int} (hw:x=y) (h:Env.find E t=some ⟨t,[],.int .i64 x⟩):∀ s,s∈setI E t y→s∈E:=by
  subst hw
  intro s hs
  rcases List.mem_cons.1 hs with rfl | hs
  · exact (Env.find_mem h).1
  · exact (List.mem_filter.1 hs).1
theorem GL_w {d:Bool} {P:Program} {ops:Array Oper} {i:Nat} {Q:D6} {n:Fr} {E:Env} {W0:World} {H:List Grp} (t:Nat) {x y:Int} (hw:x=y)
    (h:Env.find E t=some ⟨t,[],.int .i64 x⟩:=by kernel_rfl) (k:GL d P ops i Q n (setI E t y) W0 H):GL d P ops i Q n E W0 H:=GL_sub (setI_sub hw h) k
theorem D5 {d:Bool} {P:Program} {ops:Array Oper} {i:Nat} {Q:D6} {n:Fr} {E:Env} {W0:World} {H:List Grp} (t:Nat) (x:Int) (h1:-9223372036854775808≤x) (h2:x≤9223372036854775807)
    (h:Env.find E t=some ⟨t,[],.int .i64 (IntKind.wrap .i64 x)⟩:=by kernel_rfl) (k:GL d P ops i Q n (setI E t x) W0 H):GL d P ops i Q n E W0 H:=GL_sub (setI_sub (w64 h1 h2) h) k
theorem E9 {P:Program} {ops:Array Oper} {i:Nat} {Q:D6} {n:Fr} {E:Env} {W0:World} {H:List Grp} {o:Oper} {ch:List (Nat × Bool)} {t:TypeId} {x y:Operand}
    {b off:Nat} {c:Array Value} {e:TypeId} {fz:Nat × Nat} {v:Value} {g:Grp} {j:Nat} (H':List Grp)
    (ho:ops[i]? = some o:=by exact rfl) (hop:o.op=.store t x y:=by exact rfl) (hx:evO E ch x=some (.pointer (some ⟨b,off,none⟩)):=by kernel_rfl) (hy:evO E ch y=some v:=by kernel_rfl)
    (hsz:sizeV P t=some v.cells.size:=by kernel_rfl) (h1:(v.cells.toList.all Value.oneCell')=true:=by kernel_rfl)
    (hch:F1 ops E o.guard=some ch:=by kernel_rfl) (hd:H7 n ch o.dst=true:=by kernel_rfl) (hsure:O5 E ch=true:=by kernel_rfl)
    (hj:H[j]? = some g:=by exact rfl) (hi:g[0]? = some (b,.cells c e fz):=by exact rfl) (hoff:off+v.cells.size≤c.size) (hfz:∀ k,k<v.cells.size→thawed fz (off+k)=true)
    (hH':H.set j (g.set 0 (b,.cells (setRow c off v.cells.toList) e fz))=H':=by kernel_rfl)
    (k:GL false P ops (i+1) Q n (Env.put E o.dst ch undef) W0 H'):GL false P ops i Q n E W0 H :=
  M6 (c':=setRow c off v.cells.toList) ho hop hx hy hsz h1 hch hd hsure hj hi hoff hfz rfl hH' k
theorem G_env {P:Program} {c:Code} {Q:D6} {n:Fr} {E E':Env} {W0:World} {H:List Grp} (h:E=E') (k:G P c Q n E' W0 H):G P c Q n E W0 H:=by subst h; exact k
theorem B0 {d:Bool} {P:Program} {ops:Array Oper} {i:Nat} {Q:D6} {n:Fr} {E:Env} {W0:World} {H:List Grp} (ms ts:List Nat)
    (hl:ops.size=i+ms.length:=by exact rfl) (h:(L8 P ops n ms i E).isSome=true:=by kernel_rfl) (k:N Q .normal n (Env.keep ts (psv P ops n ms i E)) W0 H):GL d P ops i Q n E W0 H :=
  B1 ms ts hl (by rw [psv_some h]; rfl) k
theorem G_p {P:Program} {id:Nat} {ops:Array Oper} {Q:D6} {n:Fr} {E:Env} {W0:World} {H:List Grp} (ms ts:List Nat)
    (hl:ops.size=ms.length:=by exact rfl) (h:(L8 P ops n ms 0 E).isSome=true:=by kernel_rfl) (k:N Q .normal n (Env.keep ts (psv P ops n ms 0 E)) W0 H):G P (.region id ops false) Q n E W0 H :=
  B7 ms ts hl (by rw [psv_some h]; rfl) k
theorem D8 {P:Program} {ops:Array Oper} {i:Nat} {Q:D6} {n:Fr} {E:Env} {W0:World} {H:List Grp} {o:Oper} {c:Call} {fo:Operand} {f:FuncId} {vs:List Value} {fn:Func} {R:Value→List Grp→Prop}
    (hf:P.funcs[f]? = some fn) (hc:Tri P f vs.toArray W0 H R)
    (k:∀ v H',R v H'→GL false P ops (i+1) Q n (Env.put E o.dst [] v) W0 H')
    (ho:ops[i]? = some o:=by exact rfl) (hop:o.op=.call c:=by exact rfl) (hce:c.callee=.value fo:=by exact rfl) (hfo:evO E [] fo=some (.func (.func f) #[] #[]):=by kernel_rfl) (hargs:evL (evO E []) c.args.toList=some vs:=by kernel_rfl)
    (hrt : (fn.name == "runtime.NumGoroutine") = false := by exact rfl) (hbody : fn.body.isNone = false := by exact rfl)
    (hch:F1 ops E o.guard=some []:=by kernel_rfl) (hd:H7 n [] o.dst=true:=by kernel_rfl):GL false P ops i Q n E W0 H :=
  GL_call (fst:=#[]) (caps:=#[]) ho hop hce hfo hargs hf hrt hbody hch hd (fun _ _=>rfl) (by rw [show (#[]++vs.toArray++#[]:Array Value)=vs.toArray by simp]; exact hc) k
theorem H4 {d:Bool} {P:Program} {ops:Array Oper} {i:Nat} {Q:D6} {n:Fr} {E:Env} {W0:World} {H:List Grp} {o:Oper} {c:Call} {fo:Operand} {f:FuncId} {vs:List Value} {fn:Func} {v:Value}
    (hf:P.funcs[f]? = some fn) (hc:Tri P f vs.toArray W0 H (fun u H'=>u=v∧H'=H))
    (k:GL d P ops (i+1) Q n (Env.put E o.dst [] v) W0 H)
    (ho:ops[i]? = some o:=by exact rfl) (hop:o.op=.call c:=by exact rfl) (hce:c.callee=.value fo:=by exact rfl) (hfo:evO E [] fo=some (.func (.func f) #[] #[]):=by kernel_rfl) (hargs:evL (evO E []) c.args.toList=some vs:=by kernel_rfl)
    (hrt : (fn.name == "runtime.NumGoroutine") = false := by exact rfl) (hbody : fn.body.isNone = false := by exact rfl)
    (hch:F1 ops E o.guard=some []:=by kernel_rfl) (hd:H7 n [] o.dst=true:=by kernel_rfl):GL d P ops i Q n E W0 H :=
  F7 (fst:=#[]) (caps:=#[]) ho hop hce hfo hargs hf hrt hbody hch hd rfl (fun _=>by rw [show (#[]++vs.toArray++#[]:Array Value)=vs.toArray by simp]; exact hc) k
end Go.Sw
namespace Go.Sw
open Go.RowKit
def Rd (S:Nat→Obj→Prop) (a:Option Addr) (cs:List Value):Prop :=
  cs=[]∨∃ b off c e fz,a=some ⟨b,off,none⟩∧S b (.cells c e fz)∧∀ (j:Nat) (u:Value),cs[j]? = some u→c[off+j]? = some u
def inG (g:Grp):Nat→Obj→Prop:=fun b o=>(b,o)∈g
def inB (W0:World):Nat→Obj→Prop:=fun b o=>b<W0.heap.size∧W0.heap[b]? = some o
theorem F9 {W0:World} {H:List Grp} {g:Grp} (j:Nat) (hj:H[j]? = some g):∀ b o,inG g b o→At W0 H b o:=fun _ _ h=>At.mem (List.mem_of_getElem? hj) h
theorem at_inB {W0:World} {H:List Grp}:∀ b o,inB W0 b o→At W0 H b o:=fun _ _ h=>.inl h
theorem Rd.mono {S S':Nat→Obj→Prop} {a:Option Addr} {cs:List Value} (h:Rd S a cs) (hs:∀ b o,S b o→S' b o):Rd S' a cs:=by
  rcases h with h | ⟨b,off,c,e,fz,h1,h2,h3⟩
  · exact .inl h
  · exact .inr ⟨b,off,c,e,fz,h1,hs _ _ h2,h3⟩
theorem Rd.lit {b:Nat} {c:List Value} {e:TypeId} {fz:Nat × Nat}:Rd (inG [(b,.cells c.toArray e fz)]) (some ⟨b,0,none⟩) c :=
  .inr ⟨b,0,_,_,_,rfl,List.mem_singleton.2 rfl,fun j u h=>by rw [Nat.zero_add]; simpa using h⟩
def eltA (a:Option Addr) (k:Nat):Addr:=(a.getD default).add k
theorem Rd.elt {S:Nat→Obj→Prop} {a:Option Addr} {cs:List Value} (h:Rd S a cs) {k:Nat} {v:Value} (hv:cs[k]? = some v) :
    ∃ b off c e fz,a=some ⟨b,off,none⟩∧S b (.cells c e fz)∧eltA a k=⟨b,off+k,none⟩∧c[off+k]? = some v:=by
  rcases h with h | ⟨b,off,c,e,fz,h1,h2,h3⟩
  · subst h; simp at hv
  · exact ⟨b,off,c,e,fz,h1,h2,by rw [h1]; exact K3 b off k,h3 k v hv⟩
theorem D0 {d:Bool} {P:Program} {ops:Array Oper} {i:Nat} {Q:D6} {n:Fr} {E:Env} {W0:World} {H:List Grp} {o:Oper} {ch:List (Nat × Bool)} {t e:TypeId} {x ix:Operand} {a:Option Addr} {len cap sz:Nat} {kd:IntKind} {j:Int} {S:Nat→Obj→Prop} {cs:List Value}
    (ho:ops[i]? = some o:=by exact rfl) (hop:o.op=.indexAddr t x ix:=by exact rfl) (hx:evO E ch x=some (.slice a len cap):=by kernel_rfl) (hix:evO E ch ix=some (.int kd j):=by kernel_rfl) (hu:P.underlying t=some (.slice e):=by kernel_rfl) (hsz:sizeV P e=some sz:=by kernel_rfl)
    (hch:F1 ops E o.guard=some ch:=by kernel_rfl) (hd:H7 n ch o.dst=true:=by kernel_rfl) (hk:I0 E ch=true:=by kernel_rfl)
    (hrd:Rd S a cs) (hb:chB E ch→0≤j∧j<len∧cs≠[])
    (k:GL d P ops (i+1) Q n (Env.put E o.dst ch (.pointer (some (eltA a (j.toNat * sz))))) W0 H):GL d P ops i Q n E W0 H:=by
  refine G5 ho hch hd hk (fun r hr hcb w _=>?_) k
  obtain ⟨h0,h1,h2⟩:=hb hcb
  have ha:∃ b,a=some b:=by
    rcases hrd with h | ⟨b,off,_,_,_,h,_⟩
    · exact absurd h h2
    · exact ⟨_,h⟩
  obtain ⟨b,rfl⟩:=ha
  unfold execOp
  simp only [hop]
  rw [hr _ _ hx,hr _ _ hix]
  simp only [Instr.indexAt,asIntOf,Sem.run_bind,Sem.run_pure,Result.andThen_ok,run_underlying hu,Bool.and_false,if_pos (⟨h0,h1⟩:0≤j∧j<(len:Int)),G8 hsz]
  exact ⟨rfl,rfl⟩
theorem I1 {d:Bool} {P:Program} {ops:Array Oper} {i:Nat} {Q:D6} {n:Fr} {E:Env} {W0:World} {H:List Grp} {o:Oper} {ch:List (Nat × Bool)} {t:TypeId} {x:Operand} {a:Option Addr} {q:Nat} {S:Nat→Obj→Prop} {cs:List Value} {v:Value}
    (ho:ops[i]? = some o:=by exact rfl) (hop:o.op=.load t x:=by exact rfl) (hx:evO E ch x=some (.pointer (some (eltA a q))):=by kernel_rfl) (ht:aggB P t=some false:=by kernel_rfl)
    (hch:F1 ops E o.guard=some ch:=by kernel_rfl) (hd:H7 n ch o.dst=true:=by kernel_rfl) (hk:I0 E ch=true:=by kernel_rfl)
    (hrd:Rd S a cs) (hS:∀ b o,S b o→At W0 H b o) (hv:chB E ch→cs[q]? = some v)
    (k:GL d P ops (i+1) Q n (Env.put E o.dst ch v) W0 H):GL d P ops i Q n E W0 H:=by
  refine G5 ho hch hd hk (fun r hr hcb w hs=>?_) k
  obtain ⟨b,off,c,e,fz,h1,h2,h3,h4⟩:=hrd.elt (hv hcb)
  unfold execOp
  simp only [hop]
  rw [hr _ _ hx,h3]
  simp only [Instr.loadAt,Instr.sureAddr,loadVar,Sem.run_bind,Sem.run_pure,Result.andThen_ok,L4 ht,Bool.false_eq_true,if_false,run_load,Q8 (hs.at (hS _ _ h2)) h4]
  exact ⟨rfl,rfl⟩
theorem I7 {d:Bool} {P:Program} {ops:Array Oper} {i:Nat} {Q:D6} {n:Fr} {E:Env} {W0:World} {H:List Grp} {o:Oper} {ch:List (Nat × Bool)} {t:TypeId} {x:Operand} {a:Option Addr} {q:Nat} {S:Nat→Obj→Prop} {cs l:List Value}
    (ho:ops[i]? = some o:=by exact rfl) (hop:o.op=.load t x:=by exact rfl) (hx:evO E ch x=some (.pointer (some (eltA a q))):=by kernel_rfl) (ht:aggB P t=some true:=by kernel_rfl) (hsz:sizeV P t=some l.length:=by kernel_rfl)
    (hch:F1 ops E o.guard=some ch:=by kernel_rfl) (hd:H7 n ch o.dst=true:=by kernel_rfl) (hk:I0 E ch=true:=by kernel_rfl)
    (hrd:Rd S a cs) (hS:∀ b o,S b o→At W0 H b o) (hl:l≠[]) (hv:chB E ch→∀ m (hm:m<l.length),cs[q+m]? = some l[m])
    (k:GL d P ops (i+1) Q n (Env.put E o.dst ch (.agg l.toArray)) W0 H):GL d P ops i Q n E W0 H:=by
  refine G5 ho hch hd hk (fun r hr hcb w hs=>?_) k
  have hv':=hv hcb
  have hpos:0<l.length:=by cases l with | nil=>exact absurd rfl hl | cons _ _=>simp
  obtain ⟨b,off,c,e,fz,h1,h2,h3,h4⟩:=hrd.elt (k:=q) (v:=l[0]) (by have:=hv' 0 hpos; simpa using this)
  rcases hrd with hn | ⟨b',off',c',e',fz',h1',h2',h3'⟩
  · have:=hv' 0 hpos; rw [hn] at this; simp at this
  · rw [h1'] at h1
    injection h1 with h1
    injection h1 with hb ho'
    subst hb; subst ho'
    unfold execOp
    simp only [hop]
    rw [hr _ _ hx,h3]
    simp only [Instr.loadAt,Instr.sureAddr,loadVar,Sem.run_bind,Sem.run_pure,Result.andThen_ok,L4 ht,if_true,G8 hsz,loadCells,
      N7 (P:=P) (off:=off'+q) (hs.at (hS _ _ h2')) l 0 #[] (fun m hm=>by
        have:=h3' _ _ (hv' m hm)
        rw [Nat.add_zero,Nat.add_assoc]; exact this)]
    exact ⟨rfl,by simp⟩
def cutA (a:Option Addr) (cap l sz:Nat):Option Addr:=if cap=l then a else a.map (·.add (l * sz))
theorem Rd.cut {S:Nat→Obj→Prop} {a:Option Addr} {cs:List Value} (h:Rd S a cs) {cap l sz m:Nat} (hl:cap=l→m=0):Rd S (cutA a cap l sz) ((cs.drop (l * sz)).take m):=by
  rcases h with h | ⟨b,off,c,e,fz,h1,h2,h3⟩
  · exact .inl (by simp [h])
  · by_cases hc:cap=l
    · exact .inl (by rw [hl hc]; simp)
    · refine .inr ⟨b,off+l * sz,c,e,fz,?_,h2,?_⟩
      · rw [cutA,if_neg hc,h1]; simp [K3]
      · intro j u hj
        rw [List.getElem?_take] at hj
        split at hj
        · rw [List.getElem?_drop] at hj
          rw [Nat.add_assoc]; exact h3 _ _ hj
        · simp at hj
theorem GL_sliceL {d:Bool} {P:Program} {ops:Array Oper} {i:Nat} {Q:D6} {n:Fr} {E:Env} {W0:World} {H:List Grp} {o:Oper} {ch:List (Nat × Bool)} {t e:TypeId} {x:Operand} {lo hi:Option Operand} {a:Option Addr} {len cap sz:Nat} {vl vh:Option Value} {l h:Int}
    (ho:ops[i]? = some o) (hop:o.op=.slice t x lo hi none) (hx:evO E ch x=some (.slice a len cap)) (hvl:evOO (evO E ch) lo=some vl) (hvh:evOO (evO E ch) hi=some vh) (hu:P.underlying t=some (.slice e)) (hsz:sizeV P e=some sz)
    (hl:loV vl=some l) (hh:hiV len vh=some h)
    (hch:F1 ops E o.guard=some ch) (hd:H7 n ch o.dst=true) (hk:I0 E ch=true)
    (hb:chB E ch→0≤l∧l≤h∧h≤cap)
    (k:GL d P ops (i+1) Q n (Env.put E o.dst ch (.slice (cutA a cap l.toNat sz) (h.toNat - l.toNat) (cap - l.toNat))) W0 H):GL d P ops i Q n E W0 H:=by
  refine G5 ho hch hd hk (fun r hr hcb w _=>?_) k
  obtain ⟨h0,h1,h2⟩:=hb hcb
  have hm:∀ {y:Option Operand} {v:Option Value},evOO (evO E ch) y=some v→y.map r=v:=by
    intro y v hv
    cases y with
    | none=>simp only [evOO,Option.some.injEq] at hv; subst hv; rfl
    | some y =>
      simp only [evOO] at hv
      split at hv
      · rename_i u hu; injection hv with hv; subst hv; simp [hr _ _ hu]
      · simp at hv
  unfold execOp
  simp only [hop]
  rw [hr _ _ hx,hm hvl,hm hvh]
  simp only [Instr.sliceAt,Instr.slice,Sem.run_bind,run_underlying hu,Result.andThen_ok,Option.map_none,
    O0 (P:=P) (isSlice:=true) hl hh h0 h1 h2,G8 hsz,Sem.run_pure]
  exact ⟨rfl,rfl⟩
def Own (et:TypeId) (sz:Nat) (v:Value) (g:Grp) (n:Nat) (cs:List Value):Prop :=
  cs.length=n * sz∧((v=.slice none 0 0∧g=[]∧n=0)∨∃ b cap junk,v=.slice (some ⟨b,0,none⟩) n cap∧g=[(b,.cells (cs++junk).toArray et (0,0))]∧n≤cap∧(cs++junk).length=cap * sz)
theorem Own.nil {et:TypeId} {sz:Nat}:Own et sz (.slice none 0 0) [] 0 []:=⟨by simp,.inl ⟨rfl,rfl,rfl⟩⟩
theorem Own.lit {et:TypeId} {sz b n:Nat} {cs:List Value} (h:cs.length=n * sz):Own et sz (.slice (some ⟨b,0,none⟩) n n) [(b,.cells cs.toArray et (0,0))] n cs :=
  ⟨h,.inr ⟨b,n,[],rfl,by simp,Nat.le_refl _,by simpa using h⟩⟩
theorem Own.shape {et:TypeId} {sz:Nat} {v:Value} {g:Grp} {n:Nat} {cs:List Value} (h:Own et sz v g n cs):∃ a cap,v=.slice a n cap∧n≤cap∧Rd (inG g) a cs:=by
  obtain ⟨hl,⟨rfl,rfl,rfl⟩ | ⟨b,cap,junk,rfl,rfl,hc,hj⟩⟩:=h
  · exact ⟨none,0,rfl,Nat.le_refl _,.inl (by cases cs with | nil=>rfl | cons _ _=>simp at hl)⟩
  · refine ⟨_,_,rfl,hc,.inr ⟨b,0,_,_,_,rfl,List.mem_singleton.2 rfl,fun j u hu=>?_⟩⟩
    have:j<cs.length:=by
      rcases Nat.lt_or_ge j cs.length with h | h
      · exact h
      · rw [List.getElem?_eq_none h] at hu; simp at hu
    rw [List.getElem?_toArray,Nat.zero_add,List.getElem?_append_left this]
    exact hu
inductive SrcOf (S:Nat→Obj→Prop):Value→Nat→List Value→Prop
  | slice (a:Option Addr) (m cap:Nat) (cs:List Value) (h:Rd S a cs) (h0:a=none→m=0):SrcOf S (.slice a m cap) m cs
  | str (s:ByteArray):SrcOf S (.string s) s.size (byteCells s)
theorem setRow_mid:∀ (l:List Value) (pre post:List Value) (old:List Value),old.length=l.length→setRow (pre++old++post).toArray pre.length l=(pre++l++post).toArray
  | [],pre,post,old,h=>by
    have:old=[]:=by cases old with | nil=>rfl | cons _ _=>simp at h
    subst this; simp [setRow]
  | v::l,pre,post,old,h=>by
    cases old with
    | nil=>simp at h
    | cons x old =>
      simp only [setRow]
      have e1:((pre++x::old++post).toArray.setIfInBounds pre.length v)=((pre++[v])++old++post).toArray:=by
        simp
      rw [e1]
      have:=setRow_mid l (pre++[v]) post old (by simpa using h)
      simp only [List.length_append,List.length_cons,List.length_nil,Nat.zero_add] at this
      rw [this]
      simp
theorem srcOf_run {P:Program} {S:Nat→Obj→Prop} {x:Value} {m sz:Nat} {cs:List Value} {tx:TypeId} (h:SrcOf S x m cs) (hk:(∃ e',P.underlying tx=some (.slice e'))∨(P.underlying tx=some .string∧sz=1))
    (hks:(∃ s,x=.string s)→sz=1∧P.underlying tx=some .string) (hkl:(∃ a n c,x=.slice a n c)→∃ e',P.underlying tx=some (.slice e')) (hl:cs.length=m * sz) (h1:∀ u∈cs,u.oneCell'=true) {w:World} (hS:∀ b o,S b o→w.heap[b]? = some o):Src P sz tx x m cs w:=by
  cases h with
  | slice a m cap cs hrd h0 =>
    obtain ⟨e',he⟩:=hkl ⟨_,_,_,rfl⟩
    rcases hrd with hn | ⟨b,off,c,e,fz,h2,h3,h4⟩
    · subst hn
      cases a with
      | none =>
        have:=h0 rfl; subst this
        exact Src.ofNil w he cap
      | some a=>exact Src.ofSlice w he a m cap [] hl (fun j u hu=>by simp at hu) (fun u hu=>by simp at hu)
    · subst h2
      refine Src.ofSlice w he _ m cap cs hl (fun j u hu=>?_) h1
      rw [K3]
      exact Q8 (hS _ _ h3) (h4 j u hu)
  | str s =>
    obtain ⟨rfl,hs⟩:=hks ⟨s,rfl⟩
    exact Src.ofString w hs s
theorem set_perm:∀ {H:List Grp} {j:Nat} {g:Grp} (g':Grp),H[j]? = some g→(H.set j g').Perm (g'::H.eraseIdx j)
  | [],j,g,g',h=>by simp at h
  | x::H,0,g,g',h=>by simp
  | x::H,j+1,g,g',h=>by
    simp only [List.set_cons_succ,List.eraseIdx_cons_succ]
    exact (List.Perm.cons x (set_perm g' (by simpa using h))).trans (List.Perm.swap _ _ _)
theorem sublist_flatten {α:Type} {A B:List (List α)} (h:A.Sublist B):A.flatten.Sublist B.flatten:=by
  induction h with
  | slnil=>exact List.Sublist.refl _
  | cons a _ ih=>simp only [List.flatten_cons]; exact ih.trans (List.sublist_append_right _ _)
  | cons_cons a _ ih=>simp only [List.flatten_cons]; exact List.Sublist.append (List.Sublist.refl _) ih
theorem Sat.replace {W0:World} {H:List Grp} {g g':Grp} {j:Nat} {w:World} (h:Sat W0 (g'::H) w) (hj:H[j]? = some g):Sat W0 (H.set j g') w:=by
  refine Sat.perm ?_ (set_perm g' hj).symm
  refine h.subl ?_
  simp only [List.flatten_cons]
  exact List.Sublist.append (List.Sublist.refl _) (sublist_flatten (List.eraseIdx_sublist _ _))
theorem At.cons {W0:World} {H:List Grp} {g:Grp} {b:Nat} {o:Obj} (h:At W0 H b o):At W0 (g::H) b o:=by
  rcases h with h | h
  · exact .inl h
  · exact .inr (by simp only [List.flatten_cons,List.mem_append]; exact .inr h)
theorem Sat.erase {W0:World} {H:List Grp} {w:World} (h:Sat W0 H w) (j:Nat):Sat W0 (H.eraseIdx j) w:=h.subl (sublist_flatten (List.eraseIdx_sublist _ _))
theorem erase_perm:∀ {H:List Grp} {j:Nat} {g:Grp},H[j]? = some g→H.Perm (g::H.eraseIdx j)
  | [],j,g,h=>by simp at h
  | x::H,0,g,h=>by simp at h; simp [h]
  | x::H,j+1,g,h=>by
    simp only [List.eraseIdx_cons_succ]
    exact (List.Perm.cons x (erase_perm (by simpa using h))).trans (List.Perm.swap _ _ _)
theorem Sat.front {W0:World} {H:List Grp} {w:World} (h:Sat W0 H w) {j:Nat} {g:Grp} (hj:H[j]? = some g):Sat W0 (g::H.eraseIdx j) w:=h.perm (erase_perm hj)
theorem Tri_below {P:Program} {f:FuncId} {args:Array Value} {W0:World} {H:List Grp} {v:Value}
    (h:∀ w,Sat W0 H w→Calls P f args w fun e w'=>e=.returned v∧Below w.heap.size w w'):Tri P f args W0 H (fun u H'=>u=v∧H'=H) :=
  fun w hs=>(h w hs).mono fun e w' ⟨he,hb⟩=>⟨v,H,he,⟨rfl,rfl⟩,by
    have hlt:∀ p,p∈H.flatten→p.1<w.heap.size:=fun p hp=>by
      have:=hs.has p hp
      rcases Nat.lt_or_ge p.1 w.heap.size with h' | h'
      · exact h'
      · simp [Array.getElem?_eq_none h'] at this
    exact ⟨hs.below.trans (hb.mono hs.below.size),hs.nodup,fun p hp=>by rw [hb.block _ (hlt p hp)]; exact hs.has p hp,hs.high⟩⟩
theorem run_append_room {P:Program} {w:World} {t tx ty e:TypeId} {inf:TypeInfo} (ht:P.underlying t=some (.slice e)) (hi:P.info? e=some inf) {b sLen sCap:Nat} {x:Value} {m:Nat} {news:List Value} (hs:Src P inf.size tx x m news w)
    (hroom:sLen+m≤sCap) {w':World} (hst:(storeCells ⟨b,sLen * inf.size,none⟩ news 0).run P w=.ok () w') :
    (Builtin.append_ #[t,tx] ty #[.slice (some ⟨b,0,none⟩) sLen sCap,x]).run P w=.ok (.slice (some ⟨b,0,none⟩) (sLen+m) sCap) w':=by
  have ha:(⟨b,0,none⟩:Addr).add (sLen * inf.size)=⟨b,sLen * inf.size,none⟩:=by rw [K3,Nat.zero_add]
  rcases hs.kind with ⟨e',hk⟩ | hk <;> simp [Builtin.append_,run_underlying ht,run_underlying hk,sizeOf,typeInfo,hi,hs.len,hroom,hs.cells,ha,hst]
theorem zeroCells_len (z:Array Value) (m:Nat):(Builtin.zeroCells z m).size=m * z.size:=by simp [Builtin.zeroCells]
theorem G0 {P:Program} {ops:Array Oper} {i:Nat} {Q:D6} {q:Fr} {E:Env} {W0:World} {H:List Grp} {o:Oper} {ch:List (Nat × Bool)} {c:Call} {t tx e:TypeId} {inf:TypeInfo} {z s x:Value} {n m j:Nat} {cs news:List Value} {g:Grp} {S:Nat→Obj→Prop}
    (ho:ops[i]? = some o:=by exact rfl) (hop:o.op=.call c:=by exact rfl) (hce:c.callee=.builtin .append:=by exact rfl) (hat:c.argTypes=#[t,tx]:=by exact rfl) (hargs:evL (evO E ch) c.args.toList=some [s,x]:=by kernel_rfl)
    (ht:P.underlying t=some (.slice e):=by kernel_rfl) (hi:P.info? e=some inf:=by kernel_rfl) (hz:inf.zero=some z:=by exact rfl) (hzs:z.cells.size=inf.size:=by exact rfl)
    (hkind:(∃ e',P.underlying tx=some (.slice e'))∨(P.underlying tx=some .string∧inf.size=1))
    (hks:(∃ s,x=.string s)→inf.size=1∧P.underlying tx=some .string) (hkl:(∃ a n c,x=.slice a n c)→∃ e',P.underlying tx=some (.slice e'))
    (hch:F1 ops E o.guard=some ch:=by kernel_rfl) (hd:H7 q ch o.dst=true:=by kernel_rfl) (hsure:O5 E ch=true:=by kernel_rfl)
    (hj:H[j]? = some g:=by exact rfl) (hown:Own e inf.size s g n cs) (hsrc:SrcOf S x m news) (hS:∀ b o,S b o→At W0 H b o) (hl:news.length=m * inf.size:=by kernel_rfl) (h1:∀ u∈news,u.oneCell'=true)
    (hmax:n+m≤9223372036854775807) (hbytes:(n+m) * inf.bytes≤140737488355328)
    (k:∀ v g',Own e inf.size v g' (n+m) (cs++news)→GL false P ops (i+1) Q q (Env.put E o.dst ch v) W0 (H.set j g')):GL false P ops i Q q E W0 H:=by
  refine GL_eff (R:=fun v H1=>∃ g',Own e inf.size v g' (n+m) (cs++news)∧H1=H.set j g') ho hch hd hsure (fun r hr w hs=>?_) (by rintro v H1 ⟨g',ho',rfl⟩; exact k v g' ho')
  have hS':∀ b o,S b o→w.heap[b]? = some o:=fun b o h=>hs.at (hS b o h)
  have hsrc':Src P inf.size tx x m news w:=srcOf_run hsrc hkind hks hkl hl h1 hS'
  have hexec:∀ {v:Value} {w':World},(Builtin.append_ #[t,tx] o.type #[s,x]).run P w=.ok v w'→(execOp r o).run P w=.ok (.value v) w':=by
    intro v w' h
    unfold execOp
    simp only [hop,resolve,hce,hat,L0 hr hargs,Sem.run_bind,Sem.run_pure,Result.andThen_ok,invoke,Go.builtin,h]
  have hlen2:(cs++news).length=(n+m) * inf.size:=by
    rw [List.length_append,hown.1,hl,Nat.add_mul]
  have hsame:H.set j g=H:=by
    apply List.ext_getElem?
    intro q
    rw [List.getElem?_set]
    split
    · rename_i e1; subst e1; split
      · exact hj.symm
      · rename_i hlt; rw [List.getElem?_eq_none (by omega)]
    · rfl
  obtain ⟨hlc,⟨rfl,rfl,rfl⟩ | ⟨b,cap,junk,rfl,rfl,hcap,hjunk⟩⟩:=hown
  · have hcs:cs=[]:=by cases cs with | nil=>rfl | cons _ _=>simp at hlc
    subst hcs
    by_cases hm:m=0
    · subst hm
      have hn:news=[]:=by cases news with | nil=>rfl | cons _ _=>simp at hl
      subst hn
      refine ⟨.slice none 0 0,w,H,⟨[],Own.nil,hsame.symm⟩,hs,.inl (hexec ?_)⟩
      rcases hsrc'.kind with ⟨e',hk⟩ | hk <;> simp [Builtin.append_,run_underlying ht,run_underlying hk,sizeOf,typeInfo,hi,hsrc'.len,hsrc'.cells]
    · have hg:=run_append_grow_src (P:=P) w t tx o.type e inf z ht hi hz none 0 0 [] (run_firstCells_none w.drew _ 0 0 0) x m news hsrc' (by omega) (by omega) (growslice_fits (by omega) hbytes)
      simp only [Nat.zero_add,List.nil_append] at hg
      refine ⟨_,_,H.set j [(w.heap.size,.cells (news++(Builtin.zeroCells z.cells (grownCap w m 0 e - m)).toList).toArray e (0,0))],⟨_,⟨by simpa using hl,.inr ⟨w.heap.size,grownCap w m 0 e,(Builtin.zeroCells z.cells (grownCap w m 0 e - m)).toList,by rw [Nat.zero_add],by simp,by rw [Nat.zero_add]; exact grownCap_ge w m 0 e,?_⟩⟩,rfl⟩,?_,.inl (hexec hg)⟩
      · have:=grownCap_ge w m 0 e
        simp only [List.nil_append,List.length_append,hl,Array.length_toList,zeroCells_len,hzs,← Nat.add_mul]
        congr 1; omega
      · have h2:=(hs.drew).new (w':=w.drew.alloc (.cells (news.toArray++Builtin.zeroCells z.cells (grownCap w m 0 e - m)) e)) (o:=.cells (news.toArray++Builtin.zeroCells z.cells (grownCap w m 0 e - m)) e) rfl rfl rfl rfl
        have h3:=h2.replace hj
        have e1:(news++(Builtin.zeroCells z.cells (grownCap w m 0 e - m)).toList).toArray=news.toArray++Builtin.zeroCells z.cells (grownCap w m 0 e - m):=by apply Array.ext'; simp
        rw [e1]; exact h3
  · by_cases hroom:n+m≤cap
    · have hblk:w.heap[b]? = some (.cells (cs++junk).toArray e (0,0)):=hs.has (b,_) (List.mem_flatten.2 ⟨_,List.mem_of_getElem? hj,List.mem_singleton.2 rfl⟩)
      have hjl:junk.length=(cap - n) * inf.size:=by
        rw [List.length_append,hlc] at hjunk
        rw [Nat.sub_mul]; omega
      have hfit:n * inf.size+news.length≤(cs++junk).length:=by
        rw [hjunk,hl,← Nat.add_mul]; exact Nat.mul_le_mul_right _ hroom
      obtain ⟨w',hr',_,hw'⟩:=P1 (P:=P) news (w:=w) (off:=n * inf.size) (i:=0) hblk (by simpa using hfit) (fun k _=>by simp [thawed]) (List.all_eq_true.2 h1)
      have hrow:setRow (cs++junk).toArray (n * inf.size+0) news=((cs++news)++junk.drop news.length).toArray:=by
        have hnl:news.length≤junk.length:=by
          rw [hl,hjl]; exact Nat.mul_le_mul_right _ (by omega)
        have:=setRow_mid news cs (junk.drop news.length) (junk.take news.length) (by simp [hnl])
        rw [List.append_assoc,List.take_append_drop,hlc] at this
        exact this
      rw [hrow] at hw'
      refine ⟨.slice (some ⟨b,0,none⟩) (n+m) cap,w',H.set j ([(b,.cells ((cs++news)++junk.drop news.length).toArray e (0,0))]),⟨_,⟨hlen2,.inr ⟨b,cap,junk.drop news.length,rfl,rfl,hroom,?_⟩⟩,rfl⟩,?_,.inl (hexec (run_append_room ht hi hsrc' hroom hr'))⟩
      · rw [List.length_append,List.length_append,List.length_drop,hjl,hl,hlc]
        have h2:(cap - n) * inf.size=(cap - n - m) * inf.size+m * inf.size:=by rw [← Nat.add_mul]; congr 1; omega
        have h3:cap * inf.size=n * inf.size+m * inf.size+(cap - n - m) * inf.size:=by rw [← Nat.add_mul,← Nat.add_mul]; congr 1; omega
        omega
      · exact hs.wr hj (i:=0) rfl hw'
    · have hblk:w.heap[b]? = some (.cells (cs++junk).toArray e (0,0)):=hs.has (b,_) (List.mem_flatten.2 ⟨_,List.mem_of_getElem? hj,List.mem_singleton.2 rfl⟩)
      have hold:(Builtin.firstCells inf.size n (.slice (some ⟨b,0,none⟩) n cap)).run P w.drew=.ok cs.toArray w.drew:=by
        refine run_firstCells_some (P:=P) w.drew inf.size n ⟨b,0,none⟩ n cap cs hlc (fun j v hv=>?_)
        rw [K3,Nat.zero_add]
        have hlt:j<cs.length:=by
          rcases Nat.lt_or_ge j cs.length with h | h
          · exact h
          · rw [List.getElem?_eq_none h] at hv; simp at hv
        exact Q8 (w:=w.drew) hblk (by rw [List.getElem?_toArray,List.getElem?_append_left hlt]; exact hv)
      have hg:=run_append_grow_src (P:=P) w t tx o.type e inf z ht hi hz (some ⟨b,0,none⟩) n cap cs hold x m news hsrc' (by omega) (by omega) (growslice_fits (by omega) hbytes)
      have hge:=grownCap_ge w (n+m) cap e
      refine ⟨_,_,H.set j [(w.heap.size,.cells ((cs++news)++(Builtin.zeroCells z.cells (grownCap w (n+m) cap e - (n+m))).toList).toArray e (0,0))],⟨_,⟨hlen2,.inr ⟨w.heap.size,grownCap w (n+m) cap e,(Builtin.zeroCells z.cells (grownCap w (n+m) cap e - (n+m))).toList,rfl,rfl,hge,?_⟩⟩,rfl⟩,?_,.inl (hexec hg)⟩
      · rw [List.length_append,hlen2,Array.length_toList,zeroCells_len,hzs,← Nat.add_mul]
        congr 1; omega
      · have h2:=(hs.drew).new (w':=w.drew.alloc (.cells ((cs++news).toArray++Builtin.zeroCells z.cells (grownCap w (n+m) cap e - (n+m))) e)) (o:=.cells ((cs++news).toArray++Builtin.zeroCells z.cells (grownCap w (n+m) cap e - (n+m))) e) rfl rfl rfl rfl
        have h3:=h2.replace hj
        have e1:((cs++news)++(Builtin.zeroCells z.cells (grownCap w (n+m) cap e - (n+m))).toList).toArray=(cs++news).toArray++Builtin.zeroCells z.cells (grownCap w (n+m) cap e - (n+m)):=by apply Array.ext'; simp
        rw [e1]; exact h3
theorem own_rd {t:TypeId} {k:Nat} {a:Option Addr} {n c:Nat} {g:Grp} {cs:List Value} (h:Own t k (.slice a n c) g n cs):Rd (inG g) a cs:=by
  obtain ⟨a',c',he,_,hr⟩:=h.shape
  injection he with e1 e2 e3
  subst e1; exact hr
theorem own_cap {t:TypeId} {k:Nat} {a:Option Addr} {n c:Nat} {g:Grp} {cs:List Value} (h:Own t k (.slice a n c) g n cs):n≤c:=by
  obtain ⟨a',c',he,hc,_⟩:=h.shape
  injection he with e1 e2 e3
  subst e3; exact hc
end Go.Sw
namespace Go.Sw
theorem I5 {E:List Sl} {t:Nat} {w b:Bool} {r c:List (Nat × Bool)} (h:chB E ((t,w)::r)) (hf:Env.find E t=some ⟨t,c,.bool b⟩):b=w:=by
  have h1:=h.1
  rw [hf] at h1
  exact h1
theorem chB_tl {E:List Sl} {p:Nat × Bool} {r:List (Nat × Bool)} (h:chB E (p::r)):chB E r:=h.2
def Qn (K:Act→World→Prop):D6:=fun x a w=>x=.normal∧K a w
theorem wp_swap {P:Program} {o:Oper} {a:Act} {w:World} {K1 K A B:Act→World→Prop} (h:∀ a w,K1 a w→K a w)
    (hh:o.wp P a w K1 (Qn A)):o.wp P a w K (Qn B):=by
  unfold Oper.wp at *
  generalize (execOp a.eval o).run P w=r at *
  cases r with
  | ok n w' =>
    cases n <;> simp only [Oper.upon] at hh ⊢ <;>
      first
        | exact h _ _ hh
        | exact Calls.mono hh (fun e w'' he=>by
            cases e
            · exact h _ _ he
            · exact absurd he.1 (by intro h; cases h)
            · obtain ⟨_,_,h1,_⟩:=he; cases h1)
        | exact Rows.mono hh (fun _ _ he=>h _ _ he)
  | halt x w'=>cases x <;> simp only [Oper.upon] at hh ⊢ <;> first | exact hh | exact absurd hh.1 (by intro h; cases h)
def N2 (ops:Array Oper) (i:Nat):Array Oper:=(ops.toList.take (i+1)).toArray
def I8 (ops:Array Oper) (i:Nat):Bool:=match ops[i]? with | some o=>(match o.guard with | some (j,_)=>decide (j≤i) | none=>true) | none=>false
theorem cutOps_get {ops:Array Oper} {i j:Nat} (h:j≤i):(N2 ops i)[j]? = ops[j]? := by
  rw [N2,List.getElem?_toArray,List.getElem?_take,if_pos (by omega),Array.getElem?_toList]
theorem cut_drop {ops:Array Oper} {i:Nat} {o:Oper} (h:ops[i]? = some o):(N2 ops i).toList.drop i=[o]:=by
  have hi:i<ops.toList.length:=by
    rcases Nat.lt_or_ge i ops.size with h' | h'
    · simpa using h'
    · simp [Array.getElem?_eq_none h'] at h
  have e:ops.toList[i]? = some o:=by rw [Array.getElem?_toList]; exact h
  rw [List.getElem?_eq_getElem hi] at e
  injection e with e
  unfold N2
  rw [List.toList_toArray,List.take_succ_eq_append_getElem hi,e,List.drop_append_of_le_length (by rw [List.length_take]; omega),List.drop_eq_nil_of_le (by rw [List.length_take]; omega)]
  rfl
theorem cut_wanted {ops:Array Oper} {i:Nat} {o:Oper} (h:ops[i]? = some o) (hg:I8 ops i=true) (tmps:Array Value) :
    Region.wanted o (yielded (N2 ops i) tmps)=Region.wanted o (yielded ops tmps):=by
  unfold I8 at hg
  rw [h] at hg
  unfold Region.wanted
  cases hgd:o.guard with
  | none=>rfl
  | some p =>
    obtain ⟨j,b⟩:=p
    simp only [hgd,decide_eq_true_eq] at hg
    simp only [yielded,cutOps_get hg]
def noCall (o:Oper):Bool:=match o.op with
  | .move _ | .assign _ | .pick .. | .load .. | .binOp .. | .unOp .. | .convert .. | .makeInterface .. | .makeFunc .. | .slice .. | .fieldAddr .. | .field .. | .indexAddr .. | .index .. | .lookup .. | .extract .. | .build ..=>true
  | _=>false
def GH (P:Program) (ops:Array Oper) (L:List Grp) (fuel:Nat) (listed:Array Bool) (Q:D6) (n:Fr) (E:Env) (W0:World) (H:List Grp):Prop :=
  ∀ a w,Ag n E a→Sat W0 H w→wpAnyH P .any ops (Qn (Q .normal)) (Sat W0 L) fuel listed a w
theorem P9 {P:Program} {id:Nat} {ops:Array Oper} {Q:D6} {n:Fr} {E:Env} {W0:World} {H:List Grp} (L:List Grp)
    (hm:P.follows .mixedOrders=true:=by kernel_rfl) (k:GH P ops L ops.size (Array.replicate ops.size false) Q n E W0 H):G P (.region id ops true) Q n E W0 H:=by
  intro a w ha hs
  refine Code.wp_mono (Q:=Qn (Q .normal)) (fun e a w h=>?_) (wp_region_held hm (k a _ ha hs.drew))
  obtain ⟨rfl,h⟩:=h
  exact h
theorem M2 {P:Program} {ops:Array Oper} {L:List Grp} (L':List Grp) {fuel:Nat} {listed:Array Bool} {Q:D6} {n:Fr} {E:Env} {W0:World} {H:List Grp}
    (hL:∀ w,Sat W0 L' w→Sat W0 L w) (k:GH P ops L' fuel listed Q n E W0 H):GH P ops L fuel listed Q n E W0 H:=by
  have mono:∀ fuel listed a w,wpAnyH P .any ops (Qn (Q .normal)) (Sat W0 L') fuel listed a w→wpAnyH P .any ops (Qn (Q .normal)) (Sat W0 L) fuel listed a w:=by
    intro fuel
    induction fuel with
    | zero=>exact fun _ _ _ h=>h
    | succ fuel ih=>exact fun listed a w h=>⟨h.1,fun i hi=>wpOp_mono (fun a' w' h'=>⟨hL _ h'.1,ih _ _ _ h'.2⟩) (h.2 i hi)⟩
  exact fun a w ha hs=>mono _ _ _ _ (k a w ha hs)
theorem N3 {P:Program} {ops:Array Oper} {L:List Grp} {fuel:Nat} {listed:Array Bool} {Q:D6} {n:Fr} {E E':Env} {W0:World} {H:List Grp} (ts:List Nat)
    (hr:Region.ready .any ops listed=[]:=by kernel_rfl) (hk:Env.keep ts E=E':=by kernel_rfl) (k:N Q .normal n E' W0 H):GH P ops L fuel listed Q n E W0 H :=
  fun a w ha hs=>wpAnyH_done hr ⟨rfl,N_sub ts hk k a w ha hs⟩ fuel
theorem GH_wpOp {P:Program} {ops:Array Oper} {L:List Grp} {fuel:Nat} {listed:Array Bool} {Q:D6} {n:Fr} {E:Env} {W0:World} {H:List Grp} (i:Nat)
    (hi:(ops[i]?).isSome=true) (hg:I8 ops i=true)
    (k:GL false P (N2 ops i) i (Qn fun a w=>Sat W0 L w∧wpAnyH P .any ops (Qn (Q .normal)) (Sat W0 L) fuel (listed.setIfInBounds i true) a w) n E W0 H) {a:Act} {w:World} (ha:Ag n E a) (hs:Sat W0 H w) :
    wpOp P ops (Qn (Q .normal)) i (fun a w=>Sat W0 L w∧wpAnyH P .any ops (Qn (Q .normal)) (Sat W0 L) fuel (listed.setIfInBounds i true) a w) a w:=by
  obtain ⟨o,ho⟩:=Option.isSome_iff_exists.1 hi
  have h1:=k a w ha hs
  rw [cut_drop ho] at h1
  unfold wpOp
  simp only [ho]
  unfold wpList at h1
  rw [cut_wanted ho hg] at h1
  split
  · rename_i hw
    rw [if_pos hw] at h1
    rcases h1 with h1 | ⟨_,_,_,h1,_⟩
    · exact .inl (wp_swap (fun a w h=>h.2) h1)
    · cases h1
  · rename_i hw
    rw [if_neg hw] at h1
    exact h1.2
theorem H5 {P:Program} {ops:Array Oper} {L:List Grp} {fuel:Nat} {listed:Array Bool} {Q:D6} {n:Fr} {E:Env} {W0:World} {H:List Grp} (i:Nat)
    (hr:Region.ready .any ops listed=[i]:=by kernel_rfl) (hi:(ops[i]?).isSome=true:=by kernel_rfl) (hg:I8 ops i=true:=by kernel_rfl)
    (k:GL false P (N2 ops i) i (Qn fun a w=>Sat W0 L w∧wpAnyH P .any ops (Qn (Q .normal)) (Sat W0 L) fuel (listed.setIfInBounds i true) a w) n E W0 H) :
    GH P ops L (fuel+1) listed Q n E W0 H:=by
  intro a w ha hs
  refine wpAnyH_all hr (by simp) (fun j hj=>?_)
  have hji:j=i:=by simpa using hj
  subst hji
  exact GH_wpOp j hi hg k ha hs
theorem GH_eff2 {P:Program} {ops:Array Oper} {L:List Grp} {fuel:Nat} {listed:Array Bool} {Q:D6} {n:Fr} {E:Env} {W0:World} {H:List Grp} (i i':Nat)
    (hr:Region.ready .any ops listed=[i,i']:=by kernel_rfl) (hi:(ops[i]?).isSome=true:=by kernel_rfl) (hg:I8 ops i=true:=by kernel_rfl) (hi':(ops[i']?).isSome=true:=by kernel_rfl) (hg':I8 ops i'=true:=by kernel_rfl)
    (k:GL false P (N2 ops i) i (Qn fun a w=>Sat W0 L w∧wpAnyH P .any ops (Qn (Q .normal)) (Sat W0 L) fuel (listed.setIfInBounds i true) a w) n E W0 H)
    (k':GL false P (N2 ops i') i' (Qn fun a w=>Sat W0 L w∧wpAnyH P .any ops (Qn (Q .normal)) (Sat W0 L) fuel (listed.setIfInBounds i' true) a w) n E W0 H) :
    GH P ops L (fuel+1) listed Q n E W0 H:=by
  intro a w ha hs
  refine wpAnyH_all hr (by simp) (fun j hj=>?_)
  have hji:j=i∨j=i':=by simpa using hj
  rcases hji with rfl | rfl
  · exact GH_wpOp j hi hg k ha hs
  · exact GH_wpOp j hi' hg' k' ha hs
theorem F0 {P:Program} {ops:Array Oper} {L:List Grp} {fuel:Nat} {listed:Array Bool} {Q:D6} {n:Fr} {E:Env} {W0:World} {H:List Grp} {i j:Nat}
    (hi:(N2 ops i).size=j:=by kernel_rfl) (hL:∀ w,Sat W0 H w→Sat W0 L w) (k:GH P ops L fuel listed Q n E W0 H) :
    GL false P (N2 ops i) j (Qn fun a w=>Sat W0 L w∧wpAnyH P .any ops (Qn (Q .normal)) (Sat W0 L) fuel listed a w) n E W0 H :=
  GL_end hi (fun a w ha hs=>⟨rfl,hL w hs,k a w ha hs⟩)
def valueM (m:Sem Value):Sem Next:=m >>= fun v=>pure (.value v)
theorem valueM_run {P:Program} {m:Sem Value} {w w':World} {x:Next} (h:(valueM m).run P w=.ok x w'):∃ v,x=.value v:=by
  unfold valueM at h
  rw [Sem.run_bind] at h
  generalize m.run P w=r at h
  cases r with
  | ok v w1=>simp only [Result.andThen_ok,Sem.run_pure] at h; injection h with h; exact ⟨v,h.symm⟩
  | halt x w1=>simp [Result.andThen] at h
theorem bindV_run {P:Program} {α:Type} {m:Sem α} {f:α→Value} {w w':World} {x:Next} (h:(m >>= fun b=>pure (Next.value (f b))).run P w=.ok x w'):∃ v,x=.value v:=by
  rw [Sem.run_bind] at h
  generalize m.run P w=r at h
  cases r with
  | ok v w1=>simp only [Result.andThen_ok,Sem.run_pure] at h; injection h with h; exact ⟨_,h.symm⟩
  | halt x w1=>simp [Result.andThen] at h
theorem noCall_value {P:Program} {o:Oper} (hn:noCall o=true) {r:Operand→Value} {C:World→Prop} {w:World} {v:Value}
    (h:Oper.quietUpon P C w v ((execOp r o).run P w)):(execOp r o).run P w=.ok (.value v) w:=by
  have key:∀ x w',(execOp r o).run P w=.ok x w'→∃ v,x=.value v:=by
    intro x w' he
    unfold noCall at hn
    cases hop:o.op <;> rw [hop] at hn <;> simp only [Bool.false_eq_true] at hn
    all_goals (unfold execOp at he; simp only [hop] at he)
    all_goals first
      | exact valueM_run (m:=_) he
      | (simp only [Sem.run_pure] at he; injection he with he; exact ⟨_,he.symm⟩)
      | exact bindV_run he
  generalize hr:(execOp r o).run P w=res at h ⊢
  cases res with
  | ok x w' =>
    obtain ⟨u,rfl⟩:=key x w' hr
    simp only [Oper.quietUpon] at h
    obtain ⟨rfl,rfl⟩:=h
    rfl
  | halt x w'=>simp [Oper.quietUpon] at h
theorem GH_take {P:Program} {ops:Array Oper} {L:List Grp} {fuel:Nat} {listed:Array Bool} {Q:D6} {n:Fr} {E E':Env} {W0:World} {H:List Grp} (i:Nat)
    (hi:(match ops[i]? with | some o=>noCall o | none=>false)=true) (hg:I8 ops i=true) (hs:Region.noSelect ops=true) (hf:Region.free .any ops listed i=true)
    (hr:(Region.ready .any ops listed).contains i=true) (hL:∀ w,Sat W0 H w→Sat W0 L w)
    (hy:GL true P (N2 ops i) i (fun _ a _=>Ag n E' a) n E W0 L)
    (k:GH P ops L fuel (listed.setIfInBounds i true) Q n E' W0 H):GH P ops L (fuel+1) listed Q n E W0 H:=by
  intro a w ha hsat
  cases ho:ops[i]? with
  | none=>rw [ho] at hi; simp at hi
  | some o =>
    rw [ho] at hi
    have hSw:=hL w hsat
    have h1:=hy a ha
    rw [cut_drop ho] at h1
    unfold wpQuiet at h1
    rw [cut_wanted ho hg] at h1
    by_cases hw:Region.wanted o (yielded ops a.tmps)=true
    · rw [if_pos hw] at h1
      obtain ⟨v,h2,h3⟩:=h1
      exact wpAnyH_take (v:=v) ho hs hf hr (fun c a w h=>absurd h.1 (by intro h; cases h)) (.inl ⟨hw,fun w' hw'=>noCall_value hi (h2 w' hw')⟩) hSw (k _ w (h3 w hSw) hsat)
    · rw [if_neg hw] at h1
      exact wpAnyH_take (v:=undef) ho hs hf hr (fun c a w h=>absurd h.1 (by intro h; cases h)) (.inr ⟨by simpa using hw,rfl⟩) hSw (k _ w (h1 w hSw) hsat)
theorem GH_nil {P:Program} {ops:Array Oper} {L:List Grp} {fuel:Nat} {listed:Array Bool} {Q:D6} {n:Fr} {E:Env} {W0:World} {H:List Grp} {o:Oper} {x:Operand} {ad:Addr} (i:Nat)
    (ho:ops[i]? = some o:=by exact rfl) (hop:o.op=.nilCheck x:=by exact rfl) (hgd:o.guard=none:=by exact rfl) (hx:evO E [] x=some (.pointer (some ad)):=by kernel_rfl) (hd:H7 n [] o.dst=true:=by kernel_rfl)
    (hs:Region.noSelect ops=true:=by kernel_rfl) (hf:Region.free .any ops listed i=true:=by kernel_rfl)
    (hr:(Region.ready .any ops listed).contains i=true:=by kernel_rfl) (hL:∀ w,Sat W0 H w→Sat W0 L w)
    (k:GH P ops L fuel (listed.setIfInBounds i true) Q n (Env.put E o.dst [] (.pointer (some ad))) W0 H):GH P ops L (fuel+1) listed Q n E W0 H:=by
  intro a w ha hsat
  obtain ⟨β,hβ,hat⟩:=ha.at_
  have hv:a.eval x=.pointer (some ad):=J0 hat rfl hx
  have hw:Region.wanted o (yielded ops a.tmps)=true:=by unfold Region.wanted; rw [hgd]
  have hput:Ag n (Env.put E o.dst [] (.pointer (some ad))) (a.put o.dst (.pointer (some ad))):=by
    have:=ha.put hβ hat hd (.pointer (some ad))
    simpa [chT] using this
  refine wpAnyH_take (v:=.pointer (some ad)) ho hs hf hr (fun c a w h=>absurd h.1 (by intro h; cases h)) (.inl ⟨hw,fun w' _=>?_⟩) (hL w hsat) (k _ w hput hsat)
  unfold execOp
  simp only [hop,hv]
  rfl
theorem GH_pev {P:Program} {ops:Array Oper} {L:List Grp} {fuel:Nat} {listed:Array Bool} {Q:D6} {n:Fr} {E:Env} {W0:World} {H:List Grp} {o:Oper} {v:Value} (i:Nat)
    (ho:ops[i]? = some o) (hgd:o.guard=none) (hp:pev P (evO E []) o.op=some v) (hd:H7 n [] o.dst=true)
    (hs:Region.noSelect ops=true) (hf:Region.free .any ops listed i=true)
    (hr:(Region.ready .any ops listed).contains i=true) (hL:∀ w,Sat W0 H w→Sat W0 L w)
    (k:GH P ops L fuel (listed.setIfInBounds i true) Q n (Env.put E o.dst [] v) W0 H):GH P ops L (fuel+1) listed Q n E W0 H:=by
  intro a w ha hsat
  obtain ⟨β,hβ,hat⟩:=ha.at_
  have hw:Region.wanted o (yielded ops a.tmps)=true:=by unfold Region.wanted; rw [hgd]
  have hput:Ag n (Env.put E o.dst [] v) (a.put o.dst v):=by
    have:=ha.put hβ hat hd v
    simpa [chT] using this
  exact wpAnyH_take (v:=v) ho hs hf hr (fun c a w h=>absurd h.1 (by intro h; cases h)) (.inl ⟨hw,fun w' _=>pev_sound (fun x v h=>J0 hat rfl h) hp w'⟩) (hL w hsat) (k _ w hput hsat)
theorem GL_yend {P:Program} {ops:Array Oper} {i:Nat} {n:Fr} {E E':Env} {W0:World} {L:List Grp} (hi:ops.size=i) (he:E=E'):GL true P ops i (fun _ a _=>Ag n E' a) n E W0 L :=
  GL_end hi (by subst he; exact fun a w ha _=>ha)
theorem cut_size {ops:Array Oper} {i:Nat} {o:Oper} (h:ops[i]? = some o):(N2 ops i).size=i+[0].length:=by
  have hi:i<ops.size:=(Array.getElem?_eq_some_iff.1 h).1
  unfold N2
  rw [List.size_toArray,List.length_take,Array.length_toList]; show min (i+1) ops.size=i+1; omega
theorem GH_pure {P:Program} {ops:Array Oper} {L:List Grp} {fuel:Nat} {listed:Array Bool} {Q:D6} {n:Fr} {E E':Env} {W0:World} {H:List Grp} (i m:Nat)
    (hc:((match ops[i]? with | some o=>noCall o | none=>false)&&(I8 ops i&&(Region.noSelect ops&&(Region.free .any ops listed i&&(Region.ready .any ops listed).contains i))))=true) (hL:∀ w,Sat W0 H w→Sat W0 L w)
    (h:(L8 P (N2 ops i) n [m] i E).map (Env.only (E'.map Sl.t))=some E')
    (k:GH P ops L fuel (listed.setIfInBounds i true) Q n E' W0 H):GH P ops L (fuel+1) listed Q n E W0 H:=by
  simp only [Bool.and_eq_true] at hc
  obtain ⟨h1,h2,h3,h4,h5⟩:=hc
  refine GH_take (E':=E') i h1 h2 h3 h4 h5 hL (C0 (j:=i+[m].length) [m] h rfl (GL_yend ?_ rfl)) k
  cases ho:ops[i]? with
  | none=>rw [ho] at h1; cases h1
  | some o=>exact cut_size ho
theorem GH_take' {P:Program} {ops:Array Oper} {L:List Grp} {fuel:Nat} {listed:Array Bool} {Q:D6} {n:Fr} {E E':Env} {W0:World} {H:List Grp} (i:Nat)
    (hc:((match ops[i]? with | some o=>noCall o | none=>false)&&(I8 ops i&&(Region.noSelect ops&&(Region.free .any ops listed i&&(Region.ready .any ops listed).contains i))))=true:=by kernel_rfl) (hL:∀ w,Sat W0 H w→Sat W0 L w)
    (hy:GL true P (N2 ops i) i (fun _ a _=>Ag n E' a) n E W0 L)
    (k:GH P ops L fuel (listed.setIfInBounds i true) Q n E' W0 H):GH P ops L (fuel+1) listed Q n E W0 H:=by
  simp only [Bool.and_eq_true] at hc
  obtain ⟨h1,h2,h3,h4,h5⟩:=hc
  exact GH_take i h1 h2 h3 h4 h5 hL hy k
theorem N_env {Q:D6} {x:Exit} {n:Fr} {E E':Env} {W0:World} {H:List Grp} (h:E=E') (k:N Q x n E' W0 H):N Q x n E W0 H:=by subst h; exact k
def JQ {T:Type} (n:Fr) (W0:World) (EJ:T→Env) (HJ:T→List Grp) (Φ:T→Prop):D6:=fun x a w=>x=.normal∧∃ v,Φ v∧Ag n (EJ v) a∧Sat W0 (HJ v) w
theorem G_join {P:Program} {c:Code} {Q:D6} {n:Fr} {E:Env} {W0:World} {H:List Grp} {T:Type} (EJ:T→Env) (HJ:T→List Grp) (Φ:T→Prop)
    (h:G P c (JQ n W0 EJ HJ Φ) n E W0 H) (k:∀ v,Φ v→N Q .normal n (EJ v) W0 (HJ v)):G P c Q n E W0 H :=
  fun a w ha hs=>Code.wp_mono (fun x a w ⟨hx,v,h1,h2,h3⟩=>by subst hx; exact k v h1 a w h2 h3) (h a w ha hs)
theorem K4 {n:Fr} {E:Env} {W0:World} {H:List Grp} {T:Type} {EJ:T→Env} {HJ:T→List Grp} {Φ:T→Prop} (v:T) (ts:List Nat) (h:Env.keep ts E=EJ v:=by kernel_rfl)
    (hH:∀ w,Sat W0 H w→Sat W0 (HJ v) w) (hp:Φ v):N (JQ n W0 EJ HJ Φ) .normal n E W0 H :=
  fun _ w ha hs=>⟨rfl,v,hp,ha.sub (by rw [← h]; intro s hs; exact Env.keep_mem _ hs),hH w hs⟩
def JQR (Q:D6) {T:Type} (n:Fr) (W0:World) (EJ:T→Env) (HJ:T→List Grp) (Φ:T→Prop):D6:=fun x a w=>(x=.normal∧∃ v,Φ v∧Ag n (EJ v) a∧Sat W0 (HJ v) w)∨(x=.ret∧Q .ret a w)
theorem G_joinR {P:Program} {c:Code} {Q:D6} {n:Fr} {E:Env} {W0:World} {H:List Grp} {T:Type} (EJ:T→Env) (HJ:T→List Grp) (Φ:T→Prop)
    (h:G P c (JQR Q n W0 EJ HJ Φ) n E W0 H) (k:∀ v,Φ v→N Q .normal n (EJ v) W0 (HJ v)):G P c Q n E W0 H :=
  fun a w ha hs=>Code.wp_mono (fun x a w hx=>by
    rcases hx with ⟨hx,v,h1,h2,h3⟩ | ⟨hx,h1⟩
    · subst hx; exact k v h1 a w h2 h3
    · subst hx; exact h1) (h a w ha hs)
theorem N_joinR {Q:D6} {n:Fr} {E:Env} {W0:World} {H:List Grp} {T:Type} {EJ:T→Env} {HJ:T→List Grp} {Φ:T→Prop} (v:T) (ts:List Nat) (h:Env.keep ts E=EJ v:=by kernel_rfl)
    (hH:∀ w,Sat W0 H w→Sat W0 (HJ v) w) (hp:Φ v):N (JQR Q n W0 EJ HJ Φ) .normal n E W0 H :=
  fun _ w ha hs=>.inl ⟨rfl,v,hp,ha.sub (by rw [← h]; intro s hs; exact Env.keep_mem _ hs),hH w hs⟩
theorem N_joinRet {Q:D6} {n:Fr} {E:Env} {W0:World} {H:List Grp} {T:Type} {EJ:T→Env} {HJ:T→List Grp} {Φ:T→Prop} (k:N Q .ret n E W0 H):N (JQR Q n W0 EJ HJ Φ) .ret n E W0 H :=
  fun a w ha hs=>.inr ⟨rfl,k a w ha hs⟩
theorem C4 {d:Bool} {P:Program} {ops:Array Oper} {i:Nat} {Q:D6} {n:Fr} {E E':Env} {W0:World} {H:List Grp} (h:E=E') (k:GL d P ops i Q n E' W0 H):GL d P ops i Q n E W0 H:=by subst h; exact k
inductive RV (P:Program) (E:List Sl) (W0:World) (H:List Grp):ResultVar→Value→Prop
  | tmp {t:Nat} {v:Value} (h:evT E [] t=some v):RV P E W0 H (.tmp t) v
  | agg {a t b off:Nat} {c:Array Value} {e:TypeId} {fz:Nat × Nat} {l:List Value} (h:evT E [] a=some (.pointer (some ⟨b,off,none⟩))) (ht:aggB P t=some true) (hz:sizeV P t=some l.length)
      (hA:At W0 H b (.cells c e fz)) (hv:(c.toList.drop off).take l.length=l):RV P E W0 H (.cell a t) (.agg l.toArray)
  | one {a t b off:Nat} {c:Array Value} {e:TypeId} {fz:Nat × Nat} {v:Value} (h:evT E [] a=some (.pointer (some ⟨b,off,none⟩))) (ht:aggB P t=some false)
      (hA:At W0 H b (.cells c e fz)) (hv:c[off]? = some v):RV P E W0 H (.cell a t) v
inductive RVs (P:Program) (E:List Sl) (W0:World) (H:List Grp):List ResultVar→List Value→Prop
  | nil:RVs P E W0 H [] []
  | cons {r:ResultVar} {v:Value} {rs:List ResultVar} {l:List Value} (h:RV P E W0 H r v) (k:RVs P E W0 H rs l):RVs P E W0 H (r::rs) (v::l)
theorem RV.run {P:Program} {n:Fr} {E:Env} {W0:World} {H:List Grp} {a:Act} (ha:Ag n E a) {w:World} (hs:Sat W0 H w) {r:ResultVar} {v:Value} (h:RV P E W0 H r v) :
    (resOne a.tmps r).run P w=.ok v w:=by
  cases h with
  | tmp h =>
    have e:=ha.eval (x:=.tmp _) h
    simp only [resOne,Sem.run_pure]
    rw [show a.tmps.getD _ undef=v from e]
  | @agg x t b off c e fz l h ht hz hA hv' =>
    have ee:a.tmps.getD x undef=_:=ha.eval (x:=.tmp x) h
    have hv:∀ k (hk:k<l.length),c[off+k]? = some l[k]:=by
      intro k hk
      have h1:((c.toList.drop off).take l.length)[k]? = some l[k]:=by rw [hv']; simp
      rw [List.getElem?_take,if_pos hk,List.getElem?_drop] at h1
      simpa using h1
    simp only [resOne,ee,asAddr,loadVar,Sem.run_bind,Sem.run_pure,Result.andThen_ok,L4 ht,if_true,G8 hz,loadCells,
      N7 (P:=P) (hs.at hA) l 0 #[] (by simpa using hv)]
    simp
  | @one x t b off c e fz v h ht hA hv =>
    have ee:a.tmps.getD x undef=_:=ha.eval (x:=.tmp x) h
    simp only [resOne,ee,asAddr,loadVar,Sem.run_bind,Sem.run_pure,Result.andThen_ok,L4 ht,Bool.false_eq_true,if_false,run_load,Q8 (hs.at hA) hv]
theorem RVs.run {P:Program} {n:Fr} {E:Env} {W0:World} {H:List Grp} {a:Act} (ha:Ag n E a) {w:World} (hs:Sat W0 H w) {rs:List ResultVar} {l:List Value} (h:RVs P E W0 H rs l) :
    (rs.mapM (resOne a.tmps)).run P w=.ok l w:=by
  induction h with
  | nil=>rfl
  | cons h _ ih=>simp only [List.mapM_cons,Sem.run_bind,h.run ha hs,Sem.run_pure,Result.andThen_ok,ih]
theorem L5 {P:Program} {fn:Func} {n:Fr} {E:Env} {W0:World} {H:List Grp} {R:Value→List Grp→Prop} {x:Exit} (rs:List ResultVar) (l:List Value)
    (hr:fn.results=rs.toArray:=by exact rfl) (h:RVs P E W0 H rs l) (hx:(match x with | .normal=>true | .ret=>true | _=>false)=true:=by exact rfl) (k:∃ H',R (packV l) H'∧∀ w,Sat W0 H w→Sat W0 H' w) (hz:n.dl=[]:=by rfl):N (Body P fn W0 R) x n E W0 H:=by
  intro a w ha hs
  obtain ⟨H',hR,hH⟩:=k
  have e:(results fn a.tmps).run P w=.ok (packV l) w:=by
    have e2:=h.run (P:=P) ha hs
    have e3:((rs.toArray).mapM (resOne a.tmps)).run P w=.ok l.toArray w:=by
      rw [Array.mapM_eq_mapM_toList,Sem.run_map,e2]; rfl
    rw [results_eq,hr,Sem.run_bind,e3]
    simp only [Result.andThen_ok,Sem.run_pure]
    congr 1
    cases l with
    | nil=>rfl
    | cons v l=>cases l with
      | nil=>rfl
      | cons u l=>simp [packV]
  cases x <;> simp at hx
  · exact ⟨ha.defers.trans (by unfold Fr.ds; rw [hz]),packV l,e,packV l,H',rfl,hR,hH w hs⟩
  · exact ⟨ha.defers.trans (by unfold Fr.ds; rw [hz]),packV l,e,packV l,H',rfl,hR,hH w hs⟩
theorem GH_sub {P:Program} {ops:Array Oper} {L:List Grp} {fuel:Nat} {listed:Array Bool} {Q:D6} {n:Fr} {E E':Env} {W0:World} {H:List Grp} (hs:∀ s,s∈E'→s∈E) (k:GH P ops L fuel listed Q n E' W0 H):GH P ops L fuel listed Q n E W0 H :=
  fun a w ha=>k a w (ha.sub hs)
theorem GH_wi {P:Program} {ops:Array Oper} {L:List Grp} {fuel:Nat} {listed:Array Bool} {Q:D6} {n:Fr} {E:Env} {W0:World} {H:List Grp} (t:Nat) (x:Int) (h1:-9223372036854775808≤x) (h2:x≤9223372036854775807)
    (h:Env.find E t=some ⟨t,[],.int .i64 (IntKind.wrap .i64 x)⟩) (k:GH P ops L fuel listed Q n (setI E t x) W0 H):GH P ops L fuel listed Q n E W0 H:=GH_sub (setI_sub (w64 h1 h2) h) k
def hpo (P:Program) (ops:Array Oper) (n:Fr) (m i:Nat) (l:Array Bool) (E:List Sl):Option (List Sl) :=
  if (match ops[i]? with | some o=>noCall o | none=>false)&&(I8 ops i&&(Region.noSelect ops&&(Region.free .any ops l i&&(Region.ready .any ops l).contains i))) then L8 P (N2 ops i) n [m] i E else none
def hps (P:Program) (ops:Array Oper) (n:Fr):List (Nat × Nat)→Array Bool→List Sl→Option (List Sl)
  | [],_,E=>some E
  | (i,m)::r,l,E=>match hpo P ops n m i l E with
    | some E1=>hps P ops n r (l.setIfInBounds i true) E1
    | none=>none
def hls:List (Nat × Nat)→Array Bool→Array Bool
  | [],l=>l
  | (i,_)::r,l=>hls r (l.setIfInBounds i true)
def hpv (P:Program) (ops:Array Oper) (n:Fr) (ms:List (Nat × Nat)) (l:Array Bool) (E:List Sl):List Sl:=(hps P ops n ms l E).getD []
theorem GH_hps {P:Program} {ops:Array Oper} {L:List Grp} {Q:D6} {n:Fr} {W0:World} {H:List Grp} (hL:∀ w,Sat W0 H w→Sat W0 L w):∀ (ms:List (Nat × Nat)) {fuel:Nat} {listed:Array Bool} {E E':Env},
    hps P ops n ms listed E=some E'→GH P ops L fuel (hls ms listed) Q n E' W0 H→GH P ops L (fuel+ms.length) listed Q n E W0 H
  | [],fuel,listed,E,E',h,k=>by
    rw [hps,Option.some.injEq] at h; subst h; exact k
  | (i,m)::r,fuel,listed,E,E',h,k=>by
    rw [hps] at h
    cases h1:hpo P ops n m i listed E with
    | none=>rw [h1] at h; cases h
    | some E1 =>
      rw [h1] at h
      have k1:GH P ops L (fuel+r.length) (listed.setIfInBounds i true) Q n E1 W0 H:=GH_hps hL r h k
      unfold hpo at h1
      rw [Option.ite_none_right_eq_some] at h1
      obtain ⟨hc,h1⟩:=h1
      refine GH_pure (E':=E1) i m hc hL ?_ k1
      rw [h1]
      show some (Env.only (E1.map Sl.t) E1)=some E1
      congr 1
      exact List.filter_eq_self.2 fun s hs=>by
        rw [List.contains_iff_mem]; exact List.mem_map.2 ⟨s,hs,rfl⟩
theorem GH_p {P:Program} {ops:Array Oper} {L:List Grp} {fuel fuel':Nat} {listed:Array Bool} {Q:D6} {n:Fr} {E:Env} {W0:World} {H:List Grp} (ms:List (Nat × Nat)) (hL:∀ w,Sat W0 H w→Sat W0 L w)
    (h:(hps P ops n ms listed E).isSome=true:=by kernel_rfl) (hf:fuel'=fuel+ms.length:=by exact rfl) (k:GH P ops L fuel (hls ms listed) Q n (hpv P ops n ms listed E) W0 H):GH P ops L fuel' listed Q n E W0 H:=by
  subst hf
  refine GH_hps hL ms ?_ k
  unfold hpv
  cases hp:hps P ops n ms listed E with
  | none=>rw [hp] at h; cases h
  | some E1=>rfl
end Go.Sw
namespace Go.Sw
def u8s (l:List UInt8):List Value:=l.map fun b=>Value.int .u8 (b.toNat:Int)
theorem O7 {d:Bool} {P:Program} {ops:Array Oper} {i:Nat} {Q:D6} {n:Fr} {E:Env} {W0:World} {H:List Grp} {o:Oper} {ch:List (Nat × Bool)} {src dst e:TypeId} {x:Operand} {a:Addr} {cap:Nat} {S:Nat→Obj→Prop} (l:List UInt8)
    (ho:ops[i]? = some o:=by exact rfl) (hop:o.op=.convert src dst x:=by exact rfl) (hx:evO E ch x=some (.slice (some a) l.length cap):=by kernel_rfl) (hs:P.underlying src=some (.slice e):=by kernel_rfl) (he:P.underlying e=some (.int .u8):=by kernel_rfl) (hds:P.underlying dst=some .string:=by kernel_rfl)
    (hch:F1 ops E o.guard=some ch:=by kernel_rfl) (hd:H7 n ch o.dst=true:=by kernel_rfl) (hk:I0 E ch=true:=by kernel_rfl)
    (hrd:Rd S (some a) (u8s l)) (hS:∀ b o,S b o→At W0 H b o)
    (k:GL d P ops (i+1) Q n (Env.put E o.dst ch (.string ⟨l.toArray⟩)) W0 H):GL d P ops i Q n E W0 H:=by
  refine G5 ho hch hd hk (fun r hr _ w hsat=>?_) k
  unfold execOp
  simp only [hop]
  rw [hr _ _ hx]
  have:=Go.run_convert_bytes_back (P:=P) w src dst e a cap l hs he hds (fun j hj=>by
    have hv:(u8s l)[j]? = some (.int .u8 (l[j].toNat:Int)):=by simp [u8s,hj]
    obtain ⟨b,off,c,t,fz,h1,h2,h3,h4⟩:=hrd.elt hv
    have ha:a.add j=⟨b,off+j,none⟩:=h3
    rw [ha]
    exact Q8 (hsat.at (hS _ _ h2)) h4)
  simp only [Sem.run_bind,Sem.run_pure,this,Result.andThen_ok]
  exact ⟨rfl,rfl⟩
theorem J9 {d:Bool} {P:Program} {ops:Array Oper} {i:Nat} {Q:D6} {n:Fr} {E:Env} {W0:World} {H:List Grp} {o:Oper} {ch:List (Nat × Bool)} {t e:TypeId} {x ix:Operand} {b off len sz:Nat} {kd:IntKind} {j:Int}
    (ho:ops[i]? = some o:=by exact rfl) (hop:o.op=.indexAddr t x ix:=by exact rfl) (hx:evO E ch x=some (.pointer (some ⟨b,off,none⟩)):=by kernel_rfl) (hix:evO E ch ix=some (.int kd j):=by kernel_rfl) (hu:P.underlying t=some (.array len e):=by kernel_rfl) (hsz:sizeV P e=some sz:=by kernel_rfl)
    (hch:F1 ops E o.guard=some ch:=by kernel_rfl) (hd:H7 n ch o.dst=true:=by kernel_rfl) (hk:I0 E ch=true:=by kernel_rfl)
    (hb:chB E ch→0≤j∧j<len)
    (k:GL d P ops (i+1) Q n (Env.put E o.dst ch (.pointer (some ⟨b,off+j.toNat * sz,none⟩))) W0 H):GL d P ops i Q n E W0 H:=by
  refine G5 ho hch hd hk (fun r hr hcb w _=>?_) k
  obtain ⟨h0,h1⟩:=hb hcb
  unfold execOp
  simp only [hop]
  rw [hr _ _ hx,hr _ _ hix]
  simp only [Instr.indexAt,asIntOf,Instr.sureAddr,Sem.run_bind,Sem.run_pure,Result.andThen_ok,run_underlying hu,if_pos (⟨h0,h1⟩:0≤j∧j<(len:Int)),G8 hsz,K3]
  exact ⟨rfl,rfl⟩
end Go.Sw
namespace Go.Esc
open Go.Lib
abbrev bk (l:List UInt8):ByteArray:=⟨l.toArray⟩
theorem C3 (l:List UInt8):(bk l).size=l.length:=by simp [ByteArray.size]
theorem M0 (l:List UInt8):(bk l).data.toList=l:=rfl
def isR (p:Int):Prop:=0≤p∧p≤1114111∧(p<55296∨57343<p)
def runesF:Nat→List UInt8→List Int
  | 0,_=>[]
  | n+1,l=>if l=[] then [] else ((decodeL l).1:Int)::runesF n (l.drop (decodeL l).2)
def A6 (l:List UInt8):List Int:=runesF l.length l
def badL (l:List UInt8):Prop:=(decodeL l).1=65533∧(decodeL l).2=1
instance (l:List UInt8):Decidable (badL l):=by unfold badL; exact inferInstance
def ptsF:Nat→List UInt8→List Int
  | 0,_=>[]
  | n+1,l=>if l=[] then [] else (if badL l then -1 else ((decodeL l).1:Int))::ptsF n (l.drop (decodeL l).2)
def pts (l:List UInt8):List Int:=ptsF l.length l
theorem N9:∀ n,runesF n []=[]
  | 0=>rfl
  | _+1=>by simp [runesF]
theorem ptsF_nil:∀ n,ptsF n []=[]
  | 0=>rfl
  | _+1=>by simp [ptsF]
theorem runesF_fuel:∀ (n m:Nat) (l:List UInt8),l.length≤n→l.length≤m→runesF n l=runesF m l
  | 0,m,l,hn,_=>by
    have:l=[]:=List.eq_nil_of_length_eq_zero (by omega)
    subst this; rw [N9,N9]
  | n+1,0,l,_,hm=>by
    have:l=[]:=List.eq_nil_of_length_eq_zero (by omega)
    subst this; rw [N9,N9]
  | n+1,m+1,l,hn,hm=>by
    by_cases hne:l=[]
    · subst hne; rw [N9,N9]
    · have hw:=decodeL_width l
      have hl:0<l.length:=List.length_pos_iff.2 hne
      simp only [runesF,if_neg hne]
      rw [runesF_fuel n m _ (by rw [List.length_drop]; omega) (by rw [List.length_drop]; omega)]
theorem ptsF_fuel:∀ (n m:Nat) (l:List UInt8),l.length≤n→l.length≤m→ptsF n l=ptsF m l
  | 0,m,l,hn,_=>by
    have:l=[]:=List.eq_nil_of_length_eq_zero (by omega)
    subst this; rw [ptsF_nil,ptsF_nil]
  | n+1,0,l,_,hm=>by
    have:l=[]:=List.eq_nil_of_length_eq_zero (by omega)
    subst this; rw [ptsF_nil,ptsF_nil]
  | n+1,m+1,l,hn,hm=>by
    by_cases hne:l=[]
    · subst hne; rw [ptsF_nil,ptsF_nil]
    · have hw:=decodeL_width l
      have hl:0<l.length:=List.length_pos_iff.2 hne
      simp only [ptsF,if_neg hne]
      rw [ptsF_fuel n m _ (by rw [List.length_drop]; omega) (by rw [List.length_drop]; omega)]
theorem P3 (l:List UInt8) (hne:l≠[]):A6 l=((decodeL l).1:Int)::A6 (l.drop (decodeL l).2):=by
  have hw:=decodeL_width l
  have hl:0<l.length:=List.length_pos_iff.2 hne
  unfold A6
  obtain ⟨n,hn⟩:∃ n,l.length=n+1:=⟨l.length - 1,by omega⟩
  rw [hn]; simp only [runesF,if_neg hne]
  rw [runesF_fuel n (l.drop (decodeL l).2).length _ (by rw [List.length_drop]; omega) (Nat.le_refl _)]
theorem pts_step (l:List UInt8) (hne:l≠[]):pts l=(if badL l then -1 else ((decodeL l).1:Int))::pts (l.drop (decodeL l).2):=by
  have hw:=decodeL_width l
  have hl:0<l.length:=List.length_pos_iff.2 hne
  unfold pts
  obtain ⟨n,hn⟩:∃ n,l.length=n+1:=⟨l.length - 1,by omega⟩
  rw [hn]; simp only [ptsF,if_neg hne]
  rw [ptsF_fuel n (l.drop (decodeL l).2).length _ (by rw [List.length_drop]; omega) (Nat.le_refl _)]
theorem rune_ind {M:List UInt8→Prop} (h0:M []) (h1:∀ l,l≠[]→M (l.drop (decodeL l).2)→M l) (l:List UInt8):M l:=by
  suffices ∀ n (l:List UInt8),l.length≤n→M l from this l.length l (Nat.le_refl _)
  intro n
  induction n with
  | zero=>intro l hl; rw [List.eq_nil_of_length_eq_zero (by omega:l.length=0)]; exact h0
  | succ n ih =>
    intro l hl
    by_cases hne:l=[]
    · rw [hne]; exact h0
    · have:=List.length_pos_iff.2 hne
      have hw:=decodeL_width l
      exact h1 l hne (ih _ (by rw [List.length_drop]; omega))
def fixP (p:Int):Int:=if p<0 then 65533 else p
theorem runes_pts (l:List UInt8):A6 l=(pts l).map fixP:=by
  refine rune_ind (M:=fun l=>A6 l=(pts l).map fixP) rfl (fun l hne ih=>?_) l
  rw [P3 l hne,pts_step l hne,List.map_cons,ih]
  congr 1
  unfold fixP
  split
  · rename_i h
    rw [if_pos (by decide)]
    show ((decodeL l).1:Int)=65533
    rw [h.1]; rfl
  · rw [if_neg (by omega)]
theorem decodeL_isR (l:List UInt8):isR ((decodeL l).1:Int):=by
  rw [decodeL_N]
  have k0:=(l.getD 0 0).toNat_lt
  have k1:=(l.getD 1 0).toNat_lt
  have k2:=(l.getD 2 0).toNat_lt
  have k3:=(l.getD 3 0).toNat_lt
  unfold isR
  rcases decodeN_shape l.length (l.getD 0 0).toNat (l.getD 1 0).toNat (l.getD 2 0).toNat (l.getD 3 0).toNat with ⟨c,e⟩ | ⟨c1,c2,c3,cv,e⟩ | ⟨c1,c2,c3,c4,cv,cs,e⟩ | ⟨c1,c2,c3,c4,c5,cv,cw,e⟩ | e
  all_goals (rw [e]; dsimp only; omega)
theorem runes_isR (l:List UInt8):∀ p∈A6 l,isR p:=by
  refine rune_ind (M:=fun l=>∀ p∈A6 l,isR p) (by intro p hp; cases hp) (fun l hne ih=>?_) l
  rw [P3 l hne]
  intro p hp
  rcases List.mem_cons.1 hp with rfl | hp
  · exact decodeL_isR l
  · exact ih p hp
def encL (ps:List Int):List UInt8:=ps.flatMap encodeRune
theorem encL_nil:encL []=[]:=rfl
theorem encL_cons (p:Int) (ps:List Int):encL (p::ps)=encodeRune p++encL ps:=rfl
theorem encL_app (a b:List Int):encL (a++b)=encL a++encL b:=by simp [encL]
theorem byteZ (x:Int) (h0:0≤x) (h1:x<256):(x.toNat.toUInt8).toNat=x.toNat:=by
  rw [Nat.toUInt8,UInt8.toNat_ofNat']; exact Nat.mod_eq_of_lt (by omega)
theorem enc_one {p:Int} (h0:0≤p) (h1:p≤127):encodeRune p=[p.toNat.toUInt8]:=by unfold encodeRune; rw [encodeRuneZ_one h0 h1]; rfl
theorem decode_enc {p:Int} (h:isR p) (t:List UInt8):decodeL (encodeRune p++t)=(p.toNat,(encodeRune p).length)∧¬ badL (encodeRune p++t):=by
  unfold isR at h
  unfold badL
  rw [decodeL_N]
  unfold encodeRune
  by_cases h1:p≤127
  · rw [encodeRuneZ_one (by omega) h1]
    simp only [List.map_cons,List.map_nil,List.cons_append,List.nil_append,List.length_cons,List.length_nil,List.getD_cons_zero,List.getD_cons_succ]
    have e:decodeN (t.length+1) (p.toNat.toUInt8).toNat (t.getD 0 0).toNat (t.getD 1 0).toNat (t.getD 2 0).toNat=(p.toNat,1):=by
      rw [byteZ p (by omega) (by omega)]; unfold decodeN; rw [if_pos (by omega)]
    rw [e]; refine ⟨rfl,fun hh=>?_⟩; have:=hh.1; dsimp only at this; omega
  by_cases h2:p≤2047
  · rw [encodeRuneZ_two (by omega) h2]
    simp only [List.map_cons,List.map_nil,List.cons_append,List.nil_append,List.length_cons,List.length_nil,List.getD_cons_zero,List.getD_cons_succ]
    have e:decodeN (t.length+1+1) ((192+p / 64).toNat.toUInt8).toNat ((128+p % 64).toNat.toUInt8).toNat (t.getD 0 0).toNat (t.getD 1 0).toNat=(p.toNat,2):=by
      rw [byteZ _ (by omega) (by omega),byteZ _ (by omega) (by omega)]; unfold decodeN
      rw [if_neg (by omega),if_pos (by omega),if_pos (by omega)]
      exact Prod.ext (by dsimp only; omega) rfl
    rw [e]; refine ⟨rfl,fun hh=>?_⟩; have:=hh.2; dsimp only at this; omega
  by_cases h3:p≤65535
  · rw [encodeRuneZ_three (by omega)]
    simp only [List.map_cons,List.map_nil,List.cons_append,List.nil_append,List.length_cons,List.length_nil,List.getD_cons_zero,List.getD_cons_succ]
    have e:decodeN (t.length+1+1+1) ((224+p / 4096).toNat.toUInt8).toNat ((128+p / 64 % 64).toNat.toUInt8).toNat ((128+p % 64).toNat.toUInt8).toNat (t.getD 0 0).toNat=(p.toNat,3):=by
      rw [byteZ _ (by omega) (by omega),byteZ _ (by omega) (by omega),byteZ _ (by omega) (by omega)]; unfold decodeN
      rw [if_neg (by omega),if_neg (by omega),if_pos (by omega),if_pos (by omega)]
      exact Prod.ext (by dsimp only; omega) rfl
    rw [e]; refine ⟨rfl,fun hh=>?_⟩; have:=hh.2; dsimp only at this; omega
  · rw [encodeRuneZ_four (by omega) (by omega)]
    simp only [List.map_cons,List.map_nil,List.cons_append,List.nil_append,List.length_cons,List.length_nil,List.getD_cons_zero,List.getD_cons_succ]
    have e:decodeN (t.length+1+1+1+1) ((240+p / 262144).toNat.toUInt8).toNat ((128+p / 4096 % 64).toNat.toUInt8).toNat ((128+p / 64 % 64).toNat.toUInt8).toNat ((128+p % 64).toNat.toUInt8).toNat=(p.toNat,4):=by
      rw [byteZ _ (by omega) (by omega),byteZ _ (by omega) (by omega),byteZ _ (by omega) (by omega),byteZ _ (by omega) (by omega)]; unfold decodeN
      rw [if_neg (by omega),if_neg (by omega),if_neg (by omega),if_pos (by omega),if_pos (by omega)]
      exact Prod.ext (by dsimp only; omega) rfl
    rw [e]; refine ⟨rfl,fun hh=>?_⟩; have:=hh.2; dsimp only at this; omega
theorem enc_ne (p:Int) (t:List UInt8):encodeRune p++t≠[]:=by
  have:=(encodeRuneZ_length p).1
  intro h
  have:=congrArg List.length h
  simp only [encodeRune,List.length_append,List.length_map,List.length_nil] at this
  omega
theorem pts_enc1 {p:Int} (h:isR p) (t:List UInt8):pts (encodeRune p++t)=p::pts t:=by
  rw [pts_step _ (enc_ne p t),if_neg (decode_enc h t).2,(decode_enc h t).1]
  dsimp only
  rw [List.drop_left]
  congr 1
  have:=h.1; omega
theorem pts_enc:∀ {ps:List Int},(∀ p∈ps,isR p)→∀ t,pts (encL ps++t)=ps++pts t
  | [],_,t=>rfl
  | p::ps,h,t=>by rw [encL_cons,List.append_assoc,pts_enc1 (h p List.mem_cons_self),pts_enc (fun q hq=>h q (List.mem_cons_of_mem _ hq)),List.cons_append]
def D2 (l:List UInt8):Bool:=(pts l).all fun p=>decide (0≤p)
theorem validP_D (l:List UInt8):D2 l=validD l:=by
  refine rune_ind (M:=fun l=>D2 l=validD l) rfl (fun l hne ih=>?_) l
  rw [validD_step l hne,← ih]
  unfold D2
  rw [pts_step l hne,List.all_cons]
  by_cases hb:badL l
  · rw [if_pos hb,if_pos (show _∧_ from hb)]; rfl
  · rw [if_neg hb,if_neg (show ¬ (_∧_) from hb),decide_eq_true (Int.natCast_nonneg _)]; rfl
theorem validP_enc {ps:List Int} (h:∀ p∈ps,isR p) (t:List UInt8):D2 (encL ps++t)=D2 t:=by
  unfold D2
  rw [pts_enc h,List.all_append,List.all_eq_true.2 (fun p hp=>decide_eq_true (h p hp).1),Bool.true_and]
theorem enc_runes (l:List UInt8) (h:D2 l=true):encL (A6 l)=l:=by
  revert h
  refine rune_ind (M:=fun l=>D2 l=true→encL (A6 l)=l) (fun _=>rfl) (fun l hne ih h=>?_) l
  have hp:=h
  unfold D2 at hp
  rw [pts_step l hne,List.all_cons,Bool.and_eq_true,decide_eq_true_eq] at hp
  have hb:¬ badL l:=by
    intro hb; rw [if_pos hb] at hp; exact absurd hp.1 (by decide)
  rw [P3 l hne,encL_cons,ih hp.2,encode_decode l hne hb]
  exact List.take_append_drop _ _
end Go.Esc
namespace Go.Esc
open Go.Lib
def hexl (n:Nat):UInt8:=if n<10 then UInt8.ofNat (48+n) else UInt8.ofNat (87+n)
def fixL (l:List UInt8):List UInt8:=encL (A6 l)
def hex4 (n:Nat):List UInt8:=[hexl (n / 4096 % 16),hexl (n / 256 % 16),hexl (n / 16 % 16),hexl (n % 16)]
def H6 (p:Int):List UInt8 :=
  if p=34∨p=92 then 92::encodeRune p else if p=10 then [92,110] else if p=13 then [92,114] else if p=9 then [92,116]
  else if p<32∨p=127∨p=8232∨p=8233∨p=60∨p=62∨p=38 then 92::117::hex4 p.toNat else encodeRune p
def G6 (l:List UInt8):List UInt8:=34::((A6 l).flatMap H6++[34])
def digC (x:Int):Int:=if 48≤x∧x≤57 then x - 48 else if 97≤x∧x≤102 then x - 97+10 else if 65≤x∧x≤70 then x - 65+10 else -1
def digB (x base:Int):Int:=if base≤digC x then -1 else digC x
def numV (base:Int):Int→List UInt8→Option Int
  | a,[]=>some a
  | a,c::t=>if digB (c.toNat:Int) base<0 then none else numV base (base * a+digB (c.toNat:Int) base) t
def isB (n:Int):Bool:=(decide (n ≥ 0)&&decide (n≤1114111))&&(decide (n<55296)||decide (n > 57343))
theorem G1 {n:Int}:isB n=true ↔ isR n:=by unfold isB isR; simp only [Bool.and_eq_true,Bool.or_eq_true,decide_eq_true_eq]; omega
theorem F4 {n:Int}:isB n=false ↔ ¬ isR n:=by rw [← G1,Bool.not_eq_true]
def G9 (l:List UInt8):Int:=if l.length<6∨l.take 2≠[92,117] then -1 else (numV 16 0 ((l.drop 2).take 4)).getD (-1)
def O9 (c:UInt8):Int:=if c=34 then 34 else if c=92 then 92 else if c=47 then 47 else if c=98 then 8 else if c=102 then 12 else if c=110 then 10 else if c=114 then 13 else if c=116 then 9 else -1
def G2 (l:List UInt8):Int × Nat :=
  if l.length<2 then (-1,0) else if 0≤O9 (l.getD 1 0) then (O9 (l.getD 1 0),2)
  else if 55296≤G9 l∧G9 l<56320 then (if G9 (l.drop 6)<56320∨57343<G9 (l.drop 6) then (-1,0) else (65536+(G9 l - 55296) * 1024+G9 (l.drop 6) - 56320,12))
  else if 56320≤G9 l∧G9 l<57344 then (-1,0) else (G9 l,6)
def ujF:Nat→List UInt8→Option (List UInt8)
  | 0,_=>some []
  | _+1,[]=>some []
  | n+1,c::t=>if c<32∨c=34 then none else if c≠92 then (ujF n t).map (c::·) else if (G2 (c::t)).1<0 then none else (ujF n ((c::t).drop (G2 (c::t)).2)).map (encodeRune (G2 (c::t)).1++·)
def ujL (l:List UInt8):Option (List UInt8):=ujF l.length l
end Go.Esc
namespace Go.Esc
open Go.Lib
theorem enc_len (p:Int):1≤(encodeRune p).length∧(encodeRune p).length≤4:=by
  have:=encodeRuneZ_length p
  simpa [encodeRune] using this
theorem encL_len:∀ ps:List Int,(encL ps).length≤4 * ps.length
  | []=>Nat.le_refl _
  | p::ps=>by
    rw [encL_cons,List.length_append,List.length_cons]
    have:=(enc_len p).2
    have:=encL_len ps
    omega
theorem runes_len (l:List UInt8):(A6 l).length≤l.length:=by
  refine rune_ind (M:=fun l=>(A6 l).length≤l.length) (Nat.le_refl _) (fun l hne ih=>?_) l
  have hl:=List.length_pos_iff.2 hne
  have hw:=decodeL_width l
  rw [P3 l hne,List.length_cons]
  rw [List.length_drop] at ih
  omega
theorem jsonP_len (p:Int):(H6 p).length≤6:=by
  have:=(enc_len p).2
  unfold H6 hex4
  (repeat' split) <;> (try simp only [List.length_cons,List.length_nil]) <;> omega
theorem flat_len {f:Int→List UInt8} {m:Nat} (hf:∀ p,(f p).length≤m):∀ ps:List Int,(ps.flatMap f).length≤m * ps.length
  | []=>Nat.le_refl _
  | p::ps=>by
    rw [List.flatMap_cons,List.length_append,List.length_cons,Nat.mul_succ]
    have:=hf p
    have:=flat_len hf ps
    omega
theorem K5 (l:List UInt8):(G6 l).length≤6 * l.length+2:=by
  have h1:=flat_len jsonP_len (A6 l)
  have h3:=runes_len l
  unfold G6
  rw [List.length_cons,List.length_append,List.length_singleton]; omega
theorem numV_nil (base a:Int):numV base a []=some a:=rfl
theorem M9 (base a:Int) (c:UInt8) (t:List UInt8):numV base a (c::t)=if digB (c.toNat:Int) base<0 then none else numV base (base * a+digB (c.toNat:Int) base) t:=rfl
theorem digC_rng (x:Int):-1≤digC x∧digC x≤15:=by unfold digC; (repeat' split) <;> omega
theorem digB_rng (x base:Int) (hb:0≤base):-1≤digB x base∧(digB x base<base):=by
  have:=digC_rng x
  unfold digB; split <;> omega
theorem J4 (l:List UInt8) {k:Nat} (h:k<l.length):l.drop k=l.getD k 0::l.drop (k+1):=by
  rw [List.drop_eq_getElem_cons h]; congr 1; simp [List.getD,h]
end Go.Esc
namespace Go.Sw
open Go.RowKit
theorem baEq {a b:ByteArray}:(a==b)=true ↔ a=b:=by
  constructor
  · intro h
    have h':(a.data==b.data)=true:=h
    cases a; cases b; simpa using h'
  · intro h
    subst h
    show (a.data==a.data)=true
    simp
theorem baNe {a b:ByteArray}:(a==b)=false ↔ a≠b:=by
  rw [← Bool.not_eq_true,ne_eq,baEq]
abbrev SM:=List (ByteArray × Value × Nat)
def mput:SM→Nat→ByteArray→Value→SM
  | [],c,k,v=>[(k,v,c)]
  | e::r,c,k,v=>if k==e.1 then (k,v,e.2.2)::r else e::mput r c k v
def mdel:SM→ByteArray→SM
  | [],_=>[]
  | e::r,k=>if k==e.1 then r else e::mdel r k
def mhas (m:SM) (k:ByteArray):Bool:=m.any fun e=>k==e.1
theorem Wr_setObj {P:Program} {w:World} {b:Nat} {o o':Obj} (h:w.heap[b]? = some o) (hc:(match o with | .cells ..=>false | _=>true)=true) :
    ∃ w',(setObj b o').run P w=.ok () w'∧Wr b o' w w':=by
  have hb:b<w.heap.size:=by
    rcases Nat.lt_or_ge b w.heap.size with h' | h'
    · exact h'
    · simp [Array.getElem?_eq_none h'] at h
  refine ⟨{ w with heap:=w.heap.setIfInBounds b o' },?_,rfl,rfl,rfl,by simp,by simp [hb],fun k hk=>?_⟩
  · simp only [setObj,Sem.run,h]
    cases o <;> simp at hc <;> rfl
  · show (w.heap.setIfInBounds b o')[k]? = _
    rw [Array.getElem?_setIfInBounds_ne (fun e=>hk e.symm)]
structure MapOk (m:SM) (c:Nat):Prop where
  keys:m.Pairwise fun x y=>(x.1==y.1)=false
  born:(m.map (·.2.2)).Nodup
  lt:∀ e,e∈m→e.2.2<c
theorem run_getObj_iter {P:Program} {w:World} {r:Nat} {o:Obj} (h:w.heap[r]? = some o) (hc:(match o with | .cells ..=>false | _=>true)=true):(getObj r).run P w=.ok o w:=by
  cases o <;> simp at hc <;> simp [getObj,Sem.run,h]
end Go.Sw
namespace Go.Sw
theorem GL_extern {d:Bool} {P:Program} {ops:Array Oper} {i:Nat} {Q:D6} {n:Fr} {E:Env} {W0:World} {H:List Grp} {o:Oper} {ch:List (Nat × Bool)} {c:Call} {fo:Operand} {f:FuncId} {vs:List Value}
    {fn:Func} {v:Value} {e:Array Value→Sem Value}
    (ho:ops[i]? = some o) (hop:o.op=.call c) (hce:c.callee=.value fo) (hfo:evO E ch fo=some (.func (.func f) #[] #[])) (hargs:evL (evO E ch) c.args.toList=some vs)
    (hf : P.funcs[f]? = some fn) (hrt : (fn.name == "runtime.NumGoroutine") = false) (hbody : fn.body.isNone = true) (hn : Extern.findNext fn = none) (he : Extern.find fn = some e)
    (hch:F1 ops E o.guard=some ch) (hd:H7 n ch o.dst=true) (hk:I0 E ch=true)
    (hrun:∀ w,(e vs.toArray).run P w=.ok v w)
    (k:GL d P ops (i+1) Q n (Env.put E o.dst ch v) W0 H):GL d P ops i Q n E W0 H:=by
  refine G5 ho hch hd hk (fun r hr hcb w hs=>?_) k
  have hrun':(execOp r o).run P w=.ok (.value v) w:=by
    unfold execOp
    simp only [hop]
    simp only [resolve,hce]
    rw [hr _ _ hfo,L0 hr hargs]
    simp only [Deferred.ofValue,Sem.run_bind,Sem.run_pure,Result.andThen_ok,invoke]
    have:=run_callFunc_extern hf hrt hbody hn he vs.toArray w
    simp only [Array.empty_append,Array.append_empty,this,hrun,Result.andThen_ok]
  rw [hrun']
  exact ⟨rfl,rfl⟩
def bIdx (s:ByteArray) (c:Int):Int:=firstIdx s c.toNat.toUInt8
theorem size_extract (s:ByteArray) (a b:Nat):(s.extract a b).size=min b s.size - a:=by simp
end Go.Sw
namespace Go.Sw
open Go.RowKit
def stS (s:SM × Nat) (e:ByteArray × Value × Nat):SM × Nat :=
  match e.2.1 with
  | .pointer none=>(mdel s.1 e.1,s.2)
  | v=>(mput s.1 s.2 e.1 v,if mhas s.1 e.1 then s.2 else s.2+1)
theorem mhas_false {m:SM} {k:ByteArray}:mhas m k=false ↔ ∀ e∈m,(k==e.1)=false:=by
  unfold mhas; rw [List.any_eq_false]
  constructor
  · intro h e he; simpa using h e he
  · intro h e he; simpa using h e he
theorem mput_new {m:SM} {k:ByteArray} (c:Nat) (v:Value) (h:mhas m k=false):mput m c k v=m++[(k,v,c)]:=by
  induction m with
  | nil=>rfl
  | cons e m ih =>
    rw [mhas_false] at h
    have h0:=h e List.mem_cons_self
    rw [mput,h0]
    simp only [Bool.false_eq_true,if_false]
    rw [ih (mhas_false.2 (fun x hx=>h x (List.mem_cons_of_mem _ hx)))]
    rfl
theorem mput_keys (m:SM) (c:Nat) (k:ByteArray) (v:Value) (h:mhas m k=true):(mput m c k v).map (fun e=>(e.2.2))=m.map (fun e=>(e.2.2))∧(mput m c k v).map Prod.fst=m.map Prod.fst:=by
  induction m with
  | nil=>cases h
  | cons e m ih =>
    rw [mput]
    cases hk:k==e.1
    · simp only [Bool.false_eq_true,if_false,List.map_cons]
      unfold mhas at h
      rw [List.any_cons,hk,Bool.false_or] at h
      obtain ⟨h1,h2⟩:=ih h
      exact ⟨by rw [h1],by rw [h2]⟩
    · simp only [if_true,List.map_cons,true_and]
      rw [baEq] at hk; rw [hk]
theorem mdel_sub (m:SM) (k:ByteArray):(mdel m k).Sublist m:=by
  induction m with
  | nil=>exact List.Sublist.refl _
  | cons e m ih =>
    rw [mdel]
    split
    · exact List.sublist_cons_self e m
    · exact ih.cons_cons e
theorem MapOk.del {m:SM} {c:Nat} (h:MapOk m c) (k:ByteArray):MapOk (mdel m k) c :=
  ⟨h.keys.sublist (mdel_sub m k),h.born.sublist ((mdel_sub m k).map _),fun e he=>h.lt e ((mdel_sub m k).subset he)⟩
theorem pw_keys {m:SM}:(m.Pairwise fun x y=>(x.1==y.1)=false) ↔ (m.map Prod.fst).Nodup:=by
  rw [List.nodup_iff_pairwise_ne,List.pairwise_map]
  constructor
  · intro h; exact h.imp (fun h=>baNe.1 h)
  · intro h; exact h.imp (fun h=>baNe.2 h)
theorem MapOk.put {m:SM} {c:Nat} (h:MapOk m c) (k:ByteArray) (v:Value):MapOk (mput m c k v) (if mhas m k then c else c+1):=by
  cases hm:mhas m k with
  | true =>
    obtain ⟨h1,h2⟩:=mput_keys m c k v hm
    refine ⟨pw_keys.2 (by rw [h2]; exact pw_keys.1 h.keys),by rw [h1]; exact h.born,fun e he=>?_⟩
    have:e.2.2∈(mput m c k v).map (fun e=>e.2.2):=List.mem_map.2 ⟨e,he,rfl⟩
    rw [h1] at this
    obtain ⟨x,hx,hx2⟩:=List.mem_map.1 this
    have:=h.lt x hx
    simp only [if_true]; omega
  | false =>
    rw [mput_new c v hm]
    simp only [Bool.false_eq_true,if_false]
    rw [mhas_false] at hm
    refine ⟨?_,?_,?_⟩
    · rw [List.pairwise_append]
      refine ⟨h.keys,by simp,fun x hx y hy=>?_⟩
      rw [List.mem_singleton.1 hy]
      have:=hm x hx
      rw [baNe] at this ⊢
      exact fun e=>this e.symm
    · rw [List.map_append,List.nodup_append]
      refine ⟨h.born,by simp,?_⟩
      intro a ha b hb
      obtain ⟨x,hx,rfl⟩:=List.mem_map.1 ha
      simp only [List.map_cons,List.map_nil,List.mem_singleton] at hb
      have:=h.lt x hx
      omega
    · intro e he
      rcases List.mem_append.1 he with he | he
      · have:=h.lt e he; omega
      · rw [List.mem_singleton.1 he]; simp
theorem MapOk.st {s:SM × Nat} (h:MapOk s.1 s.2) (e:ByteArray × Value × Nat):MapOk (stS s e).1 (stS s e).2:=by
  unfold stS
  split
  · exact h.del _
  · exact h.put _ _
end Go.Sw
namespace Go.Sw
open Go.RowKit
theorem GL_strBytes {P:Program} {ops:Array Oper} {i:Nat} {Q:D6} {n:Fr} {E:Env} {W0:World} {H:List Grp} {o:Oper} {ch:List (Nat × Bool)} {src dst e:TypeId} {x:Operand} {s:ByteArray}
    (ho:ops[i]? = some o:=by exact rfl) (hop:o.op=.convert src dst x:=by exact rfl) (hx:evO E ch x=some (.string s):=by kernel_rfl) (hs':P.underlying src=some .string:=by kernel_rfl) (hds:P.underlying dst=some (.slice e):=by kernel_rfl) (he:P.underlying e=some (.int .u8):=by kernel_rfl)
    (hch:F1 ops E o.guard=some ch:=by kernel_rfl) (hd:H7 n ch o.dst=true:=by kernel_rfl) (hsure:O5 E ch=true:=by kernel_rfl)
    (k:∀ b cap g,s.size≤cap→Rd (inG g) (some ⟨b,0,none⟩) (u8s s.data.toList)→GL false P ops (i+1) Q n (Env.put E o.dst ch (.slice (some ⟨b,0,none⟩) s.size cap)) W0 (g::H)):GL false P ops i Q n E W0 H:=by
  refine GL_eff (R:=fun v H1=>∃ b cap g,v=.slice (some ⟨b,0,none⟩) s.size cap∧s.size≤cap∧Rd (inG g) (some ⟨b,0,none⟩) (u8s s.data.toList)∧H1=g::H) ho hch hd hsure (fun rr hr w hs=>?_) (by rintro v H1 ⟨b,cap,g,rfl,h1,h2,rfl⟩; exact k b cap g h1 h2)
  have hrun:=run_bytes_of_string (P:=P) w src dst e s hs' hds he
  refine ⟨_,w.drew.alloc (.cells (bytesRow s (grownCap w s.size 0 e)) e ((bytesRow s (grownCap w s.size 0 e)).size,(bytesRow s (grownCap w s.size 0 e)).size+1)),_,⟨w.heap.size,grownCap w s.size 0 e,_,rfl,by have:=grownCap_ge w s.size 0 e; omega,?_,rfl⟩,(hs.drew).new rfl rfl rfl rfl,.inl ?_⟩
  · refine .inr ⟨_,0,_,_,_,rfl,List.mem_singleton.2 rfl,fun j u hu=>?_⟩
    unfold u8s at hu
    rw [List.getElem?_map] at hu
    cases hj:s.data.toList[j]? with
    | none=>rw [hj] at hu; simp at hu
    | some b =>
      rw [hj] at hu
      simp only [Option.map_some,Option.some.injEq] at hu
      obtain ⟨hlt,hb⟩:=List.getElem?_eq_some_iff.1 hj
      have hlt':j<s.data.size:=by simpa using hlt
      rw [Nat.zero_add,bytesRow_at s _ j hlt',← hu,← hb]
      simp
  · unfold execOp
    simp only [hop]
    rw [hr _ _ hx]
    simp only [Sem.run_bind,Sem.run_pure,hrun,Result.andThen_ok]
end Go.Sw
namespace Go.Sw
def TriD (P:Program) (f:FuncId) (args:Array Value) (W0:World) (H:List Grp) (R:Value→List Grp→Prop):Prop :=
  ∀ u w,Sat W0 H w→CallsD P f args u w fun e u' w'=>u'=u∧∃ v H',e=.returned v∧R v H'∧Sat W0 H' w'
inductive LvD (P:Program) (W0:World):List Deferred→List Grp→List Grp→Prop
  | nil {H:List Grp}:LvD P W0 [] H H
  | cons {f : FuncId} {vs : List Value} {fn : Func} {ds : List Deferred} {H H1 H' : List Grp} (hf : P.funcs[f]? = some fn) (hrt : (fn.name == "runtime.NumGoroutine") = false) (hbody : fn.body.isNone = false)
      (hc:TriD P f vs.toArray W0 H (fun _ H2=>H2=H1)) (hr:LvD P W0 ds H1 H'):LvD P W0 ({ target:=.fn (.func f) #[],args:=vs.toArray }::ds) H H'
theorem LvD.leaves {P:Program} {W0:World} {fn:Func} {tmps:Array Value} {R':Ending→World→Prop} {ds:List Deferred} {H H':List Grp} (h:LvD P W0 ds H H') :
    ∀ w,Sat W0 H w→(∀ w',Sat W0 H' w'→∃ v,(results fn tmps).run P w'=.ok v w'∧R' (.returned v) w')→Leaves P fn tmps R' ds .returning w:=by
  induction h with
  | nil=>exact fun w hs hk=>hk w hs
  | cons hf hrt hbody hc hr ih =>
    intro w hs hk
    refine leaves_cons (by intro h; cases h) (f:=_) (args:=_) ?_ ((hc .returning w hs).mono ?_)
    · simp only [invoke,callFunc,Sem.run_bind,run_program,hf,hrt,hbody,Bool.false_eq_true,if_false,Array.append_empty,Result.andThen_ok,Sem.run_pure]
    · rintro e u' w' ⟨rfl,v,H2,rfl,rfl,hs'⟩
      exact ih w' hs' hk
end Go.Sw
namespace Go.Sw
theorem frozen_end {w:World} {b:Nat} {c:Array Value} {e:TypeId} (h:w.heap[b]? = some (.cells c e (0,0))):Wr b (.cells c e (c.size,c.size+1)) w (w.freeze ⟨b,c.size,none⟩ 1):=by
  have hlt:b<w.heap.size:=by
    rcases Nat.lt_or_ge b w.heap.size with h' | h'
    · exact h'
    · rw [Array.getElem?_eq_none h'] at h; cases h
  have hb:w.heap[b]=.cells c e (0,0):=by rw [Array.getElem?_eq_getElem hlt] at h; exact Option.some.inj h
  unfold World.freeze
  rw [if_neg (by decide)]
  refine ⟨rfl,rfl,rfl,Array.size_modify,?_,fun k hk=>?_⟩
  · show (w.heap.modify b _)[b]? = _
    rw [Array.getElem?_modify,if_pos rfl,h]
    rfl
  · show (w.heap.modify b _)[k]? = _
    rw [Array.getElem?_modify,if_neg (by omega)]
theorem GL_sameBytes {P:Program} {ops:Array Oper} {i:Nat} {Q:D6} {n:Fr} {E:Env} {W0:World} {H H':List Grp} {o:Oper} {ch:List (Nat × Bool)} {t e:TypeId} {x:Operand} {b off l cap:Nat} {c:Array Value} {e':TypeId} {g:Grp} {j m:Nat}
    (ho:ops[i]? = some o) (hop:o.op=.convert t t x) (hx:evO E ch x=some (.slice (some ⟨b,off,none⟩) l cap)) (ht:P.underlying t=some (.slice e)) (he:P.underlying e=some (.int .u8))
    (hch:F1 ops E o.guard=some ch) (hd:H7 n ch o.dst=true) (hsure:O5 E ch=true)
    (hj:H[j]? = some g) (hi:g[m]? = some (b,.cells c e' (0,0))) (hH':H.set j (g.set m (b,.cells c e' (c.size,c.size+1)))=H')
    (k:GL false P ops (i+1) Q n (Env.put E o.dst ch (.slice (some ⟨b,off,none⟩) l cap)) W0 H'):GL false P ops i Q n E W0 H:=by
  refine GL_eff (R:=fun v H1=>v=.slice (some ⟨b,off,none⟩) l cap∧H1=H') ho hch hd hsure (fun r hr w hs=>?_) (by rintro v H1 ⟨rfl,rfl⟩; exact k)
  have hblk:=hs.has _ (List.mem_flatten.2 ⟨g,List.mem_of_getElem? hj,List.mem_of_getElem? hi⟩)
  have hw:=frozen_end hblk
  have hsh:w.shape? b=some (e',c.size):=by unfold World.shape?; rw [hblk]
  refine ⟨_,w.freeze ⟨b,c.size,none⟩ 1,H',⟨rfl,rfl⟩,?_,.inl ?_⟩
  · have:=hs.wr hj hi hw
    rw [hH'] at this; exact this
  · unfold execOp
    simp only [hop]
    rw [hr _ _ hx]
    simp [convert,run_underlying ht,run_underlying he,markStringish,hsh]
end Go.Sw
namespace Go.Sw
open Go.RowKit
theorem R3 {d:Bool} {P:Program} {ops:Array Oper} {i:Nat} {Q:D6} {n:Fr} {E:Env} {W0:World} {H:List Grp} {o:Oper} {ch:List (Nat × Bool)} {t e:TypeId} {x:Operand} {lo hi:Option Operand} {b off len sz:Nat} {vl vh:Option Value} {l h:Int}
    (ho:ops[i]? = some o:=by exact rfl) (hop:o.op=.slice t x lo hi none:=by exact rfl) (hx:evO E ch x=some (.pointer (some ⟨b,off,none⟩)):=by kernel_rfl) (hvl:evOO (evO E ch) lo=some vl:=by kernel_rfl) (hvh:evOO (evO E ch) hi=some vh:=by kernel_rfl) (hu:P.underlying t=some (.array len e):=by kernel_rfl) (hsz:sizeV P e=some sz:=by kernel_rfl)
    (hl:loV vl=some l:=by kernel_rfl) (hh:hiV len vh=some h:=by kernel_rfl)
    (hch:F1 ops E o.guard=some ch:=by kernel_rfl) (hd:H7 n ch o.dst=true:=by kernel_rfl) (hk:I0 E ch=true:=by kernel_rfl)
    (hb:chB E ch→0≤l∧l≤h∧h≤len∧l.toNat<len)
    (k:GL d P ops (i+1) Q n (Env.put E o.dst ch (.slice (some ⟨b,off+l.toNat * sz,none⟩) (h.toNat - l.toNat) (len - l.toNat))) W0 H):GL d P ops i Q n E W0 H:=by
  refine G5 ho hch hd hk (fun r hr hcb w _=>?_) k
  obtain ⟨h0,h1,h2,h3⟩:=hb hcb
  have hm:∀ {y:Option Operand} {v:Option Value},evOO (evO E ch) y=some v→y.map r=v:=by
    intro y v hv
    cases y with
    | none=>simp only [evOO,Option.some.injEq] at hv; subst hv; rfl
    | some y =>
      simp only [evOO] at hv
      split at hv
      · rename_i u hu; injection hv with hv; subst hv; simp [hr _ _ hu]
      · simp at hv
  unfold execOp
  simp only [hop]
  rw [hr _ _ hx,hm hvl,hm hvh]
  simp only [Instr.sliceAt,Sem.run_bind,run_underlying hu,Result.andThen_ok,Option.map_none,Instr.sureAddr,Sem.run_pure,
    O0 (P:=P) (isSlice:=false) hl hh h0 h1 h2,G8 hsz]
  rw [if_neg (by omega),K3]
  exact ⟨rfl,rfl⟩
theorem cutA_zero (b cap sz:Nat):cutA (some ⟨b,0,none⟩) cap 0 sz=some ⟨b,0,none⟩:=by
  unfold cutA; split
  · rfl
  · simp [K3]
end Go.Sw
namespace Go.Sw
open Go.Esc
theorem cut_some {b n j:Nat} (h:j<n):cutA (some ⟨b,0,none⟩) n j 1=some ⟨b,j,none⟩:=by
  unfold cutA; rw [if_neg (by omega)]; simp [K3]
end Go.Sw
namespace Go.Proofs.YtppgfiklmfoaeaaGreatDoor
open Go.Sw Go.Esc
end Go.Proofs.YtppgfiklmfoaeaaGreatDoor
namespace Go.Sw
open Go.RowKit
theorem shape_of {w:World} {b:Nat} {c:Array Value} {e:TypeId} {fz:Nat × Nat} (h:w.heap[b]? = some (.cells c e fz)):w.shape? b=some (e,c.size):=by simp [World.shape?,h]
theorem GL_toUnsafe {d:Bool} {P:Program} {ops:Array Oper} {i:Nat} {Q:D6} {n:Fr} {E:Env} {W0:World} {H:List Grp} {o:Oper} {ch:List (Nat × Bool)} {src dst t e:TypeId} {x:Operand} {inf:TypeInfo} {b:Nat} {c:Array Value} {fz:Nat × Nat}
    (ho:ops[i]? = some o) (hop:o.op=.convert src dst x) (hx:evO E ch x=some (.pointer (some ⟨b,0,none⟩))) (hs:P.underlying src=some (.pointer t)) (hdd:P.underlying dst=some .unsafePointer) (ht:P.info? t=some inf) (hj:(inf.size != 0)=true)
    (hch:F1 ops E o.guard=some ch) (hd:H7 n ch o.dst=true) (hk:I0 E ch=true)
    (hA:At W0 H b (.cells c e fz)) (hc:(c.size != 0)=true)
    (k:GL d P ops (i+1) Q n (Env.put E o.dst ch (.pointer (some ⟨b,0,none⟩))) W0 H):GL d P ops i Q n E W0 H:=by
  refine G5 ho hch hd hk (fun r hr _ w hsat=>?_) k
  unfold execOp
  simp only [hop]
  rw [hr _ _ hx]
  have:=Go.Lib.run_to_unsafe (P:=P) w ⟨b,0,none⟩ hs hdd ht (by simpa using hj) (shape_of (hsat.at hA)) (Nat.pos_of_ne_zero (by simpa using hc))
  simp only [Sem.run_bind,this,Result.andThen_ok]
  exact ⟨rfl,rfl⟩
theorem GL_fromUnsafe {d:Bool} {P:Program} {ops:Array Oper} {i:Nat} {Q:D6} {n:Fr} {E:Env} {W0:World} {H:List Grp} {o:Oper} {ch:List (Nat × Bool)} {src dst u e:TypeId} {x:Operand} {inf:TypeInfo} {b:Nat} {c:Array Value} {fz:Nat × Nat}
    (ho:ops[i]? = some o) (hop:o.op=.convert src dst x) (hx:evO E ch x=some (.pointer (some ⟨b,0,none⟩))) (hs:P.underlying src=some .unsafePointer) (hdd:P.underlying dst=some (.pointer u)) (ht:P.info? u=some inf)
    (hch:F1 ops E o.guard=some ch) (hd:H7 n ch o.dst=true) (hk:I0 E ch=true)
    (hA:At W0 H b (.cells c e fz)) (hlies:liesAt P P.depth e (c.size / P.cellsOf e) 0 u 1=true)
    (k:GL d P ops (i+1) Q n (Env.put E o.dst ch (.pointer (some ⟨b,0,none⟩))) W0 H):GL d P ops i Q n E W0 H:=by
  refine G5 ho hch hd hk (fun r hr _ w hsat=>?_) k
  unfold execOp
  simp only [hop]
  rw [hr _ _ hx]
  have:=Go.Lib.run_from_unsafe (P:=P) w ⟨b,0,none⟩ hs hdd ht (shape_of (hsat.at hA)) hlies
  simp only [Sem.run_bind,this,Result.andThen_ok]
  exact ⟨rfl,rfl⟩
theorem GL_neqPtr {d:Bool} {P:Program} {ops:Array Oper} {i:Nat} {Q:D6} {n:Fr} {E:Env} {W0:World} {H:List Grp} {o:Oper} {ch:List (Nat × Bool)} {tp te:TypeId} {x y:Operand} {inf:TypeInfo} {a:Addr}
    (ho:ops[i]? = some o) (hop:o.op=.binOp .neq tp x y tp) (hx:evO E ch x=some (.pointer (some a))) (hy:evO E ch y=some (.pointer (some a))) (hp:P.underlying tp=some (.pointer te)) (ht:P.info? te=some inf)
    (hch:F1 ops E o.guard=some ch) (hd:H7 n ch o.dst=true) (hk:I0 E ch=true)
    (k:GL d P ops (i+1) Q n (Env.put E o.dst ch (.bool false)) W0 H):GL d P ops i Q n E W0 H:=by
  refine G5 ho hch hd hk (fun r hr _ w hsat=>?_) k
  unfold execOp
  simp only [hop]
  rw [hr _ _ hx,hr _ _ hy]
  have:=Go.Lib.run_neq_ptr_same (P:=P) w a hp ht
  have hg:(eqGuard .neq tp x y (.pointer (some a)) (.pointer (some a))).run P w=.ok () w:=rfl
  simp only [Sem.run_bind,hg,this,Result.andThen_ok]
  exact ⟨rfl,rfl⟩
theorem GL_sliceData {d:Bool} {P:Program} {ops:Array Oper} {i:Nat} {Q:D6} {n:Fr} {E:Env} {W0:World} {H:List Grp} {o:Oper} {ch:List (Nat × Bool)} {c:Call} {a:Option Addr} {l cap:Nat}
    (ho:ops[i]? = some o:=by exact rfl) (hop:o.op=.call c:=by exact rfl) (hce:c.callee=.builtin .unsafeSliceData:=by exact rfl) (hargs:evL (evO E ch) c.args.toList=some [.slice a l cap]:=by kernel_rfl) (hc:a=none∨cap≠0)
    (hch:F1 ops E o.guard=some ch:=by kernel_rfl) (hd:H7 n ch o.dst=true:=by kernel_rfl) (hk:I0 E ch=true:=by kernel_rfl)
    (k:GL d P ops (i+1) Q n (Env.put E o.dst ch (.pointer a)) W0 H):GL d P ops i Q n E W0 H:=by
  refine G5 ho hch hd hk (fun r hr _ w hsat=>?_) k
  unfold execOp
  have hrun:(Builtin.unsafeSliceData_ c.argTypes o.type #[.slice a l cap]).run P w=.ok (.pointer a) w:=by
    cases a with
    | none=>exact Go.Lib.run_unsafeSliceData_nil (P:=P) w _ _ l cap
    | some a=>exact Go.Lib.run_unsafeSliceData_row (P:=P) w _ _ a l cap (by simpa using hc)
  simp only [hop,resolve,hce,L0 hr hargs,Sem.run_bind,Sem.run_pure,Result.andThen_ok,invoke,Go.builtin,hrun]
  exact ⟨rfl,rfl⟩
theorem GL_sliceData0 {P:Program} {ops:Array Oper} {i:Nat} {Q:D6} {n:Fr} {E:Env} {W0:World} {H:List Grp} {o:Oper} {ch:List (Nat × Bool)} {c:Call} {b:Nat} {l:Nat} {e:TypeId} {cs:Array Value} {et:TypeId} {fz:Nat × Nat}
    (ho:ops[i]? = some o) (hop:o.op=.call c) (hce:c.callee=.builtin .unsafeSliceData) (hargs:evL (evO E ch) c.args.toList=some [.slice (some ⟨b,0,none⟩) l 0]) (hp:P.underlying o.type=some (.pointer e))
    (hch:F1 ops E o.guard=some ch) (hd:H7 n ch o.dst=true) (hsure:O5 E ch=true) (hA:At W0 H b (.cells cs et fz))
    (k:∀ v,GL false P ops (i+1) Q n (Env.put E o.dst ch (.pointer (some ⟨v,0,none⟩))) W0 ([(v,.view ⟨b,0,none⟩ e)]::H)):GL false P ops i Q n E W0 H:=by
  refine GL_eff (R:=fun v H1=>∃ q,v=.pointer (some ⟨q,0,none⟩)∧H1=[(q,.view ⟨b,0,none⟩ e)]::H) ho hch hd hsure (fun r hr w hs=>?_) (by rintro v H1 ⟨q,rfl,rfl⟩; exact k q)
  have hrun:=Go.Lib.run_unsafeSliceData_zero (P:=P) w c.argTypes o.type e hp ⟨b,0,none⟩ l _ (shape_of (hs.at hA))
  refine ⟨_,w.alloc (.view ⟨b,0,none⟩ e),_,⟨w.heap.size,rfl,rfl⟩,hs.new rfl rfl rfl rfl,.inl ?_⟩
  unfold execOp
  simp only [hop,resolve,hce,L0 hr hargs,Sem.run_bind,Sem.run_pure,Result.andThen_ok,invoke,Go.builtin,hrun]
theorem R2 {d:Bool} {P:Program} {ops:Array Oper} {i:Nat} {Q:D6} {n:Fr} {E:Env} {W0:World} {H:List Grp} {o:Oper} {ch:List (Nat × Bool)} {c:Call} {p:Option Addr} {pt it:TypeId}
    (ho:ops[i]? = some o:=by exact rfl) (hop:o.op=.call c:=by exact rfl) (hce:c.callee=.builtin .unsafeString:=by exact rfl) (hat:c.argTypes=#[pt,it]:=by exact rfl) (hargs:evL (evO E ch) c.args.toList=some [.pointer p,.int .i64 0]:=by kernel_rfl)
    (hch:F1 ops E o.guard=some ch:=by kernel_rfl) (hd:H7 n ch o.dst=true:=by kernel_rfl) (hk:I0 E ch=true:=by kernel_rfl)
    (k:GL d P ops (i+1) Q n (Env.put E o.dst ch (.string .empty)) W0 H):GL d P ops i Q n E W0 H:=by
  refine G5 ho hch hd hk (fun r hr _ w hsat=>?_) k
  unfold execOp
  simp only [hop,resolve,hce,hat,L0 hr hargs,Sem.run_bind,Sem.run_pure,Result.andThen_ok,invoke,Go.builtin,Go.Lib.run_unsafeString_none]
  exact ⟨rfl,rfl⟩
theorem freeze_wr {w:World} {b n:Nat} {c:Array Value} {e:TypeId} (h:w.heap[b]? = some (.cells c e (0,0))) (hn:n≠0):Wr b (.cells c e (0,n)) w (w.freeze ⟨b,0,none⟩ n):=by
  have hb:b<w.heap.size:=by
    rcases Nat.lt_or_ge b w.heap.size with h' | h'
    · exact h'
    · simp [Array.getElem?_eq_none h'] at h
  unfold World.freeze
  rw [if_neg hn]
  refine ⟨rfl,rfl,rfl,by simp,?_,fun k hk=>?_⟩
  · simp only [Array.getElem?_modify,h]
    simp
  · simp only [Array.getElem?_modify]
    rw [if_neg (Ne.symm hk)]
theorem GL_unsafeStr {P:Program} {ops:Array Oper} {i:Nat} {Q:D6} {n:Fr} {E:Env} {W0:World} {H:List Grp} {o:Oper} {ch:List (Nat × Bool)} {c:Call} {b j:Nat} {pt it e:TypeId} {cs:Array Value} {l:List UInt8}
    (ho:ops[i]? = some o) (hop:o.op=.call c) (hce:c.callee=.builtin .unsafeString) (hat:c.argTypes=#[pt,it]) (hargs:evL (evO E ch) c.args.toList=some [.pointer (some ⟨b,0,none⟩),.int .i64 (l.length:Int)])
    (hp:P.underlying pt=some (.pointer e)) (hc1:(P.cellsOf e==1)=true)
    (hch:F1 ops E o.guard=some ch) (hd:H7 n ch o.dst=true) (hsure:O5 E ch=true)
    (hj:H[j]? = some [(b,.cells cs e (0,0))]) (h0:l≠[]) (hlc:l.length≤cs.size) (hmax:l.length≤9223372036854775807) (hcell:∀ (k:Nat) x,l[k]? = some x→cs[k]? = some (.int .u8 (x.toNat:Int)))
    (k:GL false P ops (i+1) Q n (Env.put E o.dst ch (.string ⟨l.toArray⟩)) W0 (H.set j [(b,.cells cs e (0,l.length))])):GL false P ops i Q n E W0 H:=by
  refine GL_eff (R:=fun v H1=>v=.string ⟨l.toArray⟩∧H1=H.set j [(b,.cells cs e (0,l.length))]) ho hch hd hsure (fun r hr w hs=>?_) (by rintro v H1 ⟨rfl,rfl⟩; exact k)
  have hi:([(b,Obj.cells cs e (0,0))]:Grp)[0]? = some (b,.cells cs e (0,0)):=rfl
  have hblk:=hs.has _ (List.mem_flatten.2 ⟨_,List.mem_of_getElem? hj,List.mem_of_getElem? hi⟩)
  have hrun:=Go.Lib.run_unsafeString_row (P:=P) w pt it o.type e hp (by simpa using hc1) b cs.size (shape_of hblk) l h0 hlc hmax (fun k x hx=>by
    have:=hcell k x hx
    rw [K3,Nat.zero_add]
    exact Q8 hblk this)
  refine ⟨_,_,_,⟨rfl,rfl⟩,hs.wr hj hi (freeze_wr hblk (by simpa using h0)),.inl ?_⟩
  unfold execOp
  simp only [hop,resolve,hce,hat,L0 hr hargs,Sem.run_bind,Sem.run_pure,Result.andThen_ok,invoke,Go.builtin,hrun]
def Bld (b:Nat) (p:Value):Prop:=p=.pointer none∨p=.pointer (some ⟨b,0,none⟩)
theorem bld0 {b:Nat}:Bld b (.pointer none):=.inl rfl
theorem bld1 {b:Nat}:Bld b (.pointer (some ⟨b,0,none⟩)):=.inr rfl
end Go.Sw
namespace Go.Sha
open Go.Sw
structure S8 where
  a:Int
  b:Int
  c:Int
  d:Int
  e:Int
  f:Int
  g:Int
  h:Int
theorem u8s_at {l:List UInt8} {k:Nat} (h:k<l.length):(u8s l)[k]? = some (.int .u8 ((l.getD k 0).toNat:Int)):=by
  simp [u8s,h,List.getD]
def S8.v (s:S8):Value:=.agg #[.int .u32 s.a,.int .u32 s.b,.int .u32 s.c,.int .u32 s.d,.int .u32 s.e,.int .u32 s.f,.int .u32 s.g,.int .u32 s.h]
def b8 (y:Int):UInt8:=UInt8.ofNat (y % 256).toNat
def wd (s:S8) (k:Nat):Int:=[s.a,s.b,s.c,s.d,s.e,s.f,s.g,s.h].getD k 0
theorem u8s_append (a b:List UInt8):u8s (a++b)=u8s a++u8s b:=by simp [u8s]
def digs:ByteArray:=ByteArray.mk #[48,49,50,51,52,53,54,55,56,57,97,98,99,100,101,102]
def hd (i:Int):UInt8:=UInt8.ofNat (A7 digs i).toNat
theorem u8_one {l:List UInt8}:∀ u∈u8s l,u.oneCell'=true:=by
  intro u hu
  obtain ⟨b,_,rfl⟩:=List.mem_map.1 hu
  rfl
end Go.Sha
namespace Go.Proofs.YtppgfiklmfoaeaaGreatDoor
open Go.Sw Go.Sha
theorem bytes_len (t:ByteArray):(u8s t.data.toList).length=t.size:=by
  rw [show (u8s t.data.toList).length=_ from List.length_map _,Array.length_toList]; rfl
theorem own_text {v:Value} {g:Grp} {n m:Nat} {t s:ByteArray} (h:Go.Sw.Own 5 1 v g n (u8s t.data.toList++u8s s.data.toList)) (hn:n=m) (hm:m=(t++s).size):Go.Sw.Own 5 1 v g (t++s).size (u8s (t++s).data.toList):=by
  have e:u8s (t++s).data.toList=u8s t.data.toList++u8s s.data.toList:=by rw [ByteArray.data_append,Array.toList_append]; exact List.map_append
  rw [← hm,← hn,e]; exact h
def bldG (b:Nat) (p v:Value):Grp:=[(b,.cells #[p,v] 87 (0,0))]
def O8 (v:Value) (g:Grp) (t:ByteArray):Prop:=Go.Sw.Own 5 1 v g t.size (u8s t.data.toList)
theorem cc0 (b:Nat) (v:Value) (W0:World) (H:List Grp):Tri Tryz.prog 135 #[pt b] W0 ([(b,.cells #[.pointer none,v] 87 (0,0))]::H) (fun r H'=>r=.tuple #[]∧H'=bldG b (.pointer (some ⟨b,0,none⟩)) v::H):=by
 refine C6 (args:=[pt b]) (n:=20) Tryz.func135 rfl rfl (Nat.le_of_ble_eq_true rfl) ?_
 refine A1 (A2 ?_)
 refine A4 (j:=3) [0,0,0] (k:=A5 (ch:=[]) (b:=b) (off:=0) (v:=.pointer none) (hA:=At.grp 0 0 rfl rfl) (k:=?_))
 refine B1 (E':=[⟨0,[],pt b⟩,⟨6,[],.bool true⟩]) [0] [0,6] (k:=A0 ?_)
 refine E8 kr (A2 ?_)
 refine A4 (j:=2) [0,0] (k:=GL_toUnsafe (i:=2) (ch:=[]) (inf:=Tryz.t87) (t:=87) (e:=87) (b:=b) rfl rfl kr kr kr kr kr kr kr kr (At.grp 0 0 rfl rfl) rfl ?_)
 refine GL_extern (i:=3) (ch:=[]) (f:=162) (vs:=[pt b]) (v:=pt b) (e:=Extern.AbiNoEscape.same) rfl rfl rfl kr kr Tryz.func162 kr rfl kr kr kr kr kr (fun w=>Go.Lib.run_noEscape w _) (GL_fromUnsafe (i:=4) (ch:=[]) (inf:=Tryz.t87) (u:=87) (e:=87) (b:=b) rfl rfl kr kr kr kr kr kr kr (At.grp 0 0 rfl rfl) kr ?_)
 refine A4 (j:=7) [0,0] (k:=E9 (ch:=[]) (b:=b) (off:=0) (v:=pt b) (j:=0) ([(b,.cells #[pt b,v] 87 (0,0))]::H) (hoff:=Nat.le_of_ble_eq_true rfl) (hfz:=(fun _ _=>E3)) (k:=?_))
 refine B1 (E':=[]) [] [] (k:=B6 [] [] (k:=?_))
 exact ⟨rfl,rfl⟩
theorem cc1 (b:Nat) (v:Value) (W0:World) (H:List Grp):Tri Tryz.prog 135 #[pt b] W0 ([(b,.cells #[pt b,v] 87 (0,0))]::H) (fun r H'=>r=.tuple #[]∧H'=bldG b (.pointer (some ⟨b,0,none⟩)) v::H):=by
 refine C6 (args:=[pt b]) (n:=20) Tryz.func135 rfl rfl (Nat.le_of_ble_eq_true rfl) ?_
 refine A1 (A2 ?_)
 refine A4 (j:=3) [0,0,0] (k:=A5 (ch:=[]) (b:=b) (off:=0) (v:=pt b) (hA:=At.grp 0 0 rfl rfl) (k:=?_))
 refine B1 (E':=[⟨0,[],pt b⟩,⟨6,[],.bool false⟩]) [0] [0,6] (k:=A0 ?_)
 refine C2 kr (A1 ?_)
 refine A2 (A4 (j:=3) [0,0,0] (k:=?_))
 refine A5 (ch:=[]) (b:=b) (off:=0) (v:=pt b) (hA:=At.grp 0 0 rfl rfl) (k:=A4 (j:=5) [0] (k:=?_))
 refine GL_neqPtr (i:=5) (ch:=[]) (inf:=Tryz.t87) (te:=87) (a:=⟨b,0,none⟩) rfl rfl kr kr kr kr kr kr kr (B1 (E':=[⟨19,[],.bool false⟩]) [] [19] (k:=?_))
 refine A0 (C2 kr ?_)
 refine A8 (B6 [] [] (k:=?_))
 exact ⟨rfl,rfl⟩
theorem copyCheck_ (b:Nat) (p v:Value) (hp:Bld b p) (W0:World) (H:List Grp):Tri Tryz.prog 135 #[pt b] W0 (bldG b p v::H) (fun r H'=>r=.tuple #[]∧H'=bldG b (.pointer (some ⟨b,0,none⟩)) v::H):=by
  rcases hp with rfl | rfl
  · exact cc0 b v W0 H
  · exact cc1 b v W0 H
theorem writeString_ (b:Nat) (p v:Value) (g:Grp) (t s:ByteArray) (hp:Bld b p) (hv:O8 v g t) (hs:t.size+s.size≤140737488355328) (W0:World) (H:List Grp):Tri Tryz.prog 90 #[pt b,.string s] W0 ([(b,.cells #[p,v] 87 (0,0))]::g::H) (fun r H'=>r=.tuple #[.int .i64 (s.size:Int),.nilIface]∧∃ v' g',O8 v' g' (t++s)∧H'=bldG b (.pointer (some ⟨b,0,none⟩)) v'::g'::H):=by
 refine C6 (args:=[pt b,.string s]) (n:=19) Tryz.func90 rfl rfl (Nat.le_of_ble_eq_true rfl) ?_
 refine A1 (B7 (E':=[⟨0,[],pt b⟩,⟨1,[],.string s⟩]) [0,0] [0,1] (k:=?_))
 refine A0 (A1 ?_)
 refine A2 (A4 (j:=1) [0] (k:=?_))
 refine D8 Tryz.func135 (copyCheck_ b (p) (v) hp _ _) ?_
 rintro r H' ⟨rfl,rfl⟩
 refine B1 (E':=[⟨0,[],pt b⟩,⟨1,[],.string s⟩]) [] [0,1] (k:=A0 ?_)
 refine A1 (A2 ?_)
 refine A4 (j:=4) [0,0,0,0] (k:=A5 (ch:=[]) (b:=b) (off:=1) (v:=v) (hA:=At.grp 0 0 rfl rfl) (k:=?_))
 refine A4 (j:=6) [0] (k:=G0 (i:=6) (ch:=[]) (t:=22) (tx:=9) (e:=5) (inf:=Tryz.t5) (s:=v) (x:=.string s) (n:=t.size) (m:=s.size) (j:=1) (cs:=(u8s t.data.toList)) (news:=(u8s s.data.toList)) (g:=g) (S:=(inB W0)) rfl rfl rfl rfl kr kr kr rfl rfl (.inr ⟨kr,rfl⟩) (fun _=>⟨rfl,kr⟩) (fun ⟨_,_,_,h⟩=>by cases h) kr kr kr rfl hv (SrcOf.str s) at_inB (by rw [show (u8s s.data.toList).length=_ from List.length_map _,Array.length_toList]; exact (Nat.mul_one _).symm) u8_one (by omega) (by show (t.size+s.size) * 1≤140737488355328; omega) (fun v1 g2 hO3=>?_))
 obtain ⟨a4,cap5,rfl,hcap6,hrd7⟩:=hO3.shape
 refine A4 (j:=9) [0,0] (k:=E9 (ch:=[]) (b:=b) (off:=1) (v:=.slice a4 (t.size+s.size) cap5) (j:=0) ([(b,.cells #[pt b,.slice a4 (t.size+s.size) cap5] 87 (0,0))]::g2::H) (hoff:=Nat.le_of_ble_eq_true rfl) (hfz:=(fun _ _=>E3)) (k:=?_))
 refine B1 (E':=[⟨1,[],.string s⟩]) [] [1] (k:=A0 ?_)
 refine A1 (G_p [0,0,0,0] [4,5] (k:=?_))
 refine A0 (B5 ?_)
 refine B6 [.tmp 4,.tmp 5] [.int .i64 (s.size:Int),.nilIface] (k:=?_)
 exact ⟨rfl,_,_,own_text hO3 rfl (by simp [ByteArray.size_append]),rfl⟩
theorem writeString (b:Nat) (p v:Value) (g:Grp) (t s:ByteArray) (hp:Bld b p) (hv:O8 v g t) (hs:t.size+s.size≤140737488355328) (W0:World) (H:List Grp):Tri Tryz.prog 90 #[pt b,.string s] W0 (bldG b p v::g::H) (fun r H'=>r=.tuple #[.int .i64 (s.size:Int),.nilIface]∧∃ v' g',O8 v' g' (t++s)∧H'=bldG b (.pointer (some ⟨b,0,none⟩)) v'::g'::H):=writeString_ b p v g t s hp hv hs W0 H
theorem bStr0 (b:Nat) (p:Value) (W0:World) (H:List Grp):Tri Tryz.prog 53 #[pt b] W0 ([(b,.cells #[p,.slice none 0 0] 87 (0,0))]::H) (fun v H'=>v=.string .empty∧H'=bldG b p (.slice none 0 0)::H):=by
 refine C6 (args:=[pt b]) (n:=14) Tryz.func53 rfl rfl (Nat.le_of_ble_eq_true rfl) ?_
 refine A1 (B7 (E':=[⟨0,[],pt b⟩]) [0] [0] (k:=?_))
 refine A0 (A1 ?_)
 refine M1 (k:=A4 (j:=3) [0,0,0] (k:=?_))
 refine A5 (ch:=[]) (b:=b) (off:=1) (v:=.slice none 0 0) (hA:=At.grp 0 0 rfl rfl) (k:=GL_sliceData (ch:=[]) (a:=none) (l:=0) (cap:=0) (hc:=.inl rfl) (k:=?_))
 refine A4 (j:=8) [0,0,0] (k:=A5 (ch:=[]) (b:=b) (off:=1) (v:=.slice none 0 0) (hA:=At.grp 0 0 rfl rfl) (k:=?_))
 refine A4 (j:=10) [0] (k:=R2 (ch:=[]) (p:=none) (pt:=124) (it:=3) (k:=?_))
 refine B1 (E':=[⟨2,[],.string .empty⟩]) [0] [2] (k:=A0 ?_)
 refine B5 (B6 [.tmp 2] [.string .empty] (k:=?_))
 exact ⟨rfl,rfl⟩
theorem bStr1 (b:Nat) (p:Value) (a:Nat) (cs:Array Value) (W0:World) (H:List Grp):Tri Tryz.prog 53 #[pt b] W0 ([(b,.cells #[p,.slice (some ⟨a,0,none⟩) 0 0] 87 (0,0))]::[(a,.cells cs 5 (0,0))]::H) (fun v H'=>v=.string .empty∧∃ x,H'=x::bldG b p (.slice (some ⟨a,0,none⟩) 0 0)::[(a,.cells cs 5 (0,0))]::H):=by
 refine C6 (args:=[pt b]) (n:=14) Tryz.func53 rfl rfl (Nat.le_of_ble_eq_true rfl) ?_
 refine A1 (B7 (E':=[⟨0,[],pt b⟩]) [0] [0] (k:=?_))
 refine A0 (A1 ?_)
 refine P9 ([(b,.cells #[p,.slice (some ⟨a,0,none⟩) 0 0] 87 (0,0))]::[(a,.cells cs 5 (0,0))]::H) kr (GH_p (fuel:=11) [(0,0)] (fun w h=>h) (k:=?_))
 refine GH_nil (ad:=⟨b,0,none⟩) 1 (hL:=(fun w h=>h)) (k:=GH_p (fuel:=9) [(2,0)] (fun w h=>h) (k:=?_))
 refine GH_take' 3 (hL:=(fun w h=>h)) (hy:=A5 (i:=3) (ch:=[]) (b:=b) (off:=1) (v:=.slice (some ⟨a,0,none⟩) 0 0) (hA:=At.grp 0 0 rfl rfl) (k:=GL_yend kr rfl)) (k:=GH_p (fuel:=7) [(5,0)] (fun w h=>h) (k:=?_))
 refine GH_nil (ad:=⟨b,0,none⟩) 6 (hL:=(fun w h=>h)) (k:=GH_p (fuel:=5) [(7,0)] (fun w h=>h) (k:=?_))
 refine GH_take' 8 (hL:=(fun w h=>h)) (hy:=A5 (i:=8) (ch:=[]) (b:=b) (off:=1) (v:=.slice (some ⟨a,0,none⟩) 0 0) (hA:=At.grp 0 0 rfl rfl) (k:=GL_yend kr rfl)) (k:=GH_pev (v:=.int .i64 0) 9 rfl rfl kr kr kr kr kr (fun w h=>h) ?_)
 refine H5 4 (k:=GL_sliceData0 (i:=4) (ch:=[]) (b:=a) (l:=0) (e:=5) rfl rfl rfl kr kr kr kr kr (At.grp 1 0 rfl rfl) (fun b1=>?_))
 refine F0 kr (fun w h=>(h.erase 0)) (M2 ([(b1,.view ⟨a,0,none⟩ 5)]::[(b,.cells #[p,.slice (some ⟨a,0,none⟩) 0 0] 87 (0,0))]::[(a,.cells cs 5 (0,0))]::H) (fun w h=>(h.erase 0)) ?_)
 refine H5 10 (k:=R2 (ch:=[]) (p:=some ⟨b1,0,none⟩) (pt:=124) (it:=3) (k:=?_))
 refine F0 kr (fun w h=>h) (GH_p (fuel:=0) [(11,0)] (fun w h=>h) (k:=?_))
 refine N3 (E':=[⟨2,[],.string .empty⟩]) [2] (k:=A0 ?_)
 refine B5 (B6 [.tmp 2] [.string .empty] (k:=?_))
 exact ⟨rfl,_,rfl⟩
theorem bStr2 (b:Nat) (p:Value) (a:Nat) (cs:Array Value) (c:Nat) (hc:c≠0) (W0:World) (H:List Grp):Tri Tryz.prog 53 #[pt b] W0 ([(b,.cells #[p,.slice (some ⟨a,0,none⟩) 0 c] 87 (0,0))]::[(a,.cells cs 5 (0,0))]::H) (fun v H'=>v=.string .empty∧H'=bldG b p (.slice (some ⟨a,0,none⟩) 0 c)::[(a,.cells cs 5 (0,0))]::H):=by
 refine C6 (args:=[pt b]) (n:=14) Tryz.func53 rfl rfl (Nat.le_of_ble_eq_true rfl) ?_
 refine A1 (B7 (E':=[⟨0,[],pt b⟩]) [0] [0] (k:=?_))
 refine A0 (A1 ?_)
 refine M1 (k:=A4 (j:=3) [0,0,0] (k:=?_))
 refine A5 (ch:=[]) (b:=b) (off:=1) (v:=.slice (some ⟨a,0,none⟩) 0 c) (hA:=At.grp 0 0 rfl rfl) (k:=GL_sliceData (ch:=[]) (a:=(some ⟨a,0,none⟩)) (l:=0) (cap:=c) (hc:=.inr hc) (k:=?_))
 refine A4 (j:=8) [0,0,0] (k:=A5 (ch:=[]) (b:=b) (off:=1) (v:=.slice (some ⟨a,0,none⟩) 0 c) (hA:=At.grp 0 0 rfl rfl) (k:=?_))
 refine A4 (j:=10) [0] (k:=R2 (ch:=[]) (p:=some ⟨a,0,none⟩) (pt:=124) (it:=3) (k:=?_))
 refine B1 (E':=[⟨2,[],.string .empty⟩]) [0] [2] (k:=A0 ?_)
 refine B5 (B6 [.tmp 2] [.string .empty] (k:=?_))
 exact ⟨rfl,rfl⟩
theorem bStr3 (b:Nat) (p:Value) (a:Nat) (cs:Array Value) (c:Nat) (l:List UInt8) (hc:c≠0) (h0:l≠[]) (hlc:l.length≤cs.size) (hmax:l.length≤9223372036854775807) (hcell:∀ (k:Nat) x,l[k]? = some x→cs[k]? = some (.int .u8 (x.toNat:Int))) (W0:World) (H:List Grp):Tri Tryz.prog 53 #[pt b] W0 ([(b,.cells #[p,.slice (some ⟨a,0,none⟩) l.length c] 87 (0,0))]::[(a,.cells cs 5 (0,0))]::H) (fun v H'=>v=.string ⟨l.toArray⟩∧H'=bldG b p (.slice (some ⟨a,0,none⟩) l.length c)::[(a,.cells cs 5 (0,l.length))]::H):=by
 refine C6 (args:=[pt b]) (n:=14) Tryz.func53 rfl rfl (Nat.le_of_ble_eq_true rfl) ?_
 refine A1 (B7 (E':=[⟨0,[],pt b⟩]) [0] [0] (k:=?_))
 refine A0 (A1 ?_)
 refine P9 ([(b,.cells #[p,.slice (some ⟨a,0,none⟩) l.length c] 87 (0,0))]::H) kr (GH_p (fuel:=11) [(0,0)] (fun w h=>(h.erase 1)) (k:=?_))
 refine GH_nil (ad:=⟨b,0,none⟩) 1 (hL:=(fun w h=>(h.erase 1))) (k:=GH_p (fuel:=9) [(2,0)] (fun w h=>(h.erase 1)) (k:=?_))
 refine GH_take' 3 (hL:=(fun w h=>(h.erase 1))) (hy:=A5 (i:=3) (ch:=[]) (b:=b) (off:=1) (v:=.slice (some ⟨a,0,none⟩) l.length c) (hA:=At.grp 0 0 rfl rfl) (k:=GL_yend kr rfl)) (k:=GH_p (fuel:=7) [(5,0)] (fun w h=>(h.erase 1)) (k:=?_))
 refine GH_nil (ad:=⟨b,0,none⟩) 6 (hL:=(fun w h=>(h.erase 1))) (k:=GH_p (fuel:=5) [(7,0)] (fun w h=>(h.erase 1)) (k:=?_))
 refine GH_take' 8 (hL:=(fun w h=>(h.erase 1))) (hy:=A5 (i:=8) (ch:=[]) (b:=b) (off:=1) (v:=.slice (some ⟨a,0,none⟩) l.length c) (hA:=At.grp 0 0 rfl rfl) (k:=GL_yend kr rfl)) (k:=GH_pev (v:=.int .i64 ((l.length:Nat):Int)) 9 rfl rfl kr kr kr kr kr (fun w h=>(h.erase 1)) ?_)
 refine H5 4 (k:=GL_sliceData (ch:=[]) (a:=(some ⟨a,0,none⟩)) (l:=l.length) (cap:=c) (hc:=.inr hc) (k:=?_))
 refine F0 kr (fun w h=>(h.erase 1)) (H5 10 (k:=?_))
 refine GL_unsafeStr (i:=10) (ch:=[]) (b:=a) (j:=1) (pt:=124) (it:=3) (e:=5) (cs:=cs) (l:=l) rfl rfl rfl rfl kr kr kr kr kr kr rfl h0 hlc hmax hcell (F0 kr (fun w h=>(h.erase 1)) ?_)
 refine GH_p (fuel:=0) [(11,0)] (fun w h=>(h.erase 1)) (k:=N3 (E':=[⟨2,[],.string ⟨l.toArray⟩⟩]) [2] (k:=?_))
 refine A0 (B5 ?_)
 refine B6 [.tmp 2] [.string ⟨l.toArray⟩] (k:=?_)
 exact ⟨rfl,rfl⟩
theorem u8_at (t:ByteArray) (junk:List Value) (k:Nat) (x:UInt8) (h:t.data.toList[k]? = some x):((u8s t.data.toList++junk).toArray)[k]? = some (.int .u8 (x.toNat:Int)):=by
  obtain ⟨hk,hx⟩:=List.getElem?_eq_some_iff.1 h
  rw [List.getElem?_toArray,List.getElem?_append_left (by simpa [u8s] using hk)]
  simp [u8s,h]
theorem Q9 (b:Nat) (p v:Value) (g:Grp) (t:ByteArray) (hv:O8 v g t) (hs:t.size≤140737488355328) (W0:World) (H:List Grp):Tri Tryz.prog 53 #[pt b] W0 (bldG b p v::g::H) (fun r H'=>r=.string t∧H'=bldG b p v::H):=by
  obtain ⟨hl,⟨rfl,rfl,h0⟩ | ⟨a,cap,junk,rfl,rfl,hcap,hj⟩⟩:=hv
  · have ht:t=.empty:=by cases t with | mk d=>(have:d=#[]:=Array.eq_empty_of_size_eq_zero h0); rw [this]; rfl
    subst ht
    exact Tri.heap (fun _ h=>h.erase 1) (bStr0 b p W0 H)
  · by_cases h0:t.size=0
    · have ht:t=.empty:=by cases t with | mk d=>(have:d=#[]:=Array.eq_empty_of_size_eq_zero h0); rw [this]; rfl
      by_cases hc:cap=0
      · subst hc; subst ht
        exact Tri.post (bStr1 b p a _ W0 H) fun v H' ⟨h1,x,h2⟩=>⟨_,⟨h1,rfl⟩,fun w hw=>by rw [h2] at hw; exact (hw.erase 2).erase 0⟩
      · subst ht
        exact Tri.post (bStr2 b p a _ cap hc W0 H) fun v H' ⟨h1,h2⟩=>⟨_,⟨h1,rfl⟩,fun w hw=>by rw [h2] at hw; exact hw.erase 1⟩
    · have hcap0:cap≠0:=by omega
      have hlen:t.data.toList.length=t.size:=Array.length_toList
      have:=bStr3 b p a (u8s t.data.toList++junk).toArray cap t.data.toList hcap0 (fun h=>h0 (by rw [← hlen,h]; rfl)) (by rw [List.size_toArray,List.length_append,bytes_len,hlen]; omega) (by omega) (u8_at t junk) W0 H
      rw [hlen] at this
      exact Tri.post this fun v H' ⟨h1,h2⟩=>⟨_,⟨by rw [h1],rfl⟩,fun w hw=>by rw [h2] at hw; exact hw.erase 1⟩
end Go.Proofs.YtppgfiklmfoaeaaGreatDoor
namespace Go.Proofs.YtppgfiklmfoaeaaGreatDoor
open Go.Sw Go.Sha Go.Esc
theorem w8m (x:Int):IntKind.wrap .u8 x=x % 256:=by first | rfl | simp [IntKind.wrap,IntKind.bits,IntKind.signed]
theorem w32u {x:Int} (h0:0≤x) (h1:x<4294967296):IntKind.wrap .u32 x=x:=by
  rw [show IntKind.wrap .u32 x=x % 4294967296 from by first | rfl | simp [IntKind.wrap,IntKind.bits,IntKind.signed]]; omega
theorem or192 {y:Int} (h0:0≤y) (h1:y<32):IntKind.wrap .u8 ((BitVec.ofInt (IntKind.bits .u8) 192 ||| BitVec.ofInt (IntKind.bits .u8) y).toNat)=192+y:=by
  have h:∀ n:Fin 32,IntKind.wrap .u8 ((BitVec.ofInt (IntKind.bits .u8) 192 ||| BitVec.ofInt (IntKind.bits .u8) (n.val:Int)).toNat)=192+(n.val:Int):=by decide +kernel
  have:=h ⟨y.toNat,by omega⟩
  simpa [show ((y.toNat:Nat):Int)=y by omega] using this
theorem or224 {y:Int} (h0:0≤y) (h1:y<16):IntKind.wrap .u8 ((BitVec.ofInt (IntKind.bits .u8) 224 ||| BitVec.ofInt (IntKind.bits .u8) y).toNat)=224+y:=by
  have h:∀ n:Fin 16,IntKind.wrap .u8 ((BitVec.ofInt (IntKind.bits .u8) 224 ||| BitVec.ofInt (IntKind.bits .u8) (n.val:Int)).toNat)=224+(n.val:Int):=by decide +kernel
  have:=h ⟨y.toNat,by omega⟩
  simpa [show ((y.toNat:Nat):Int)=y by omega] using this
theorem or240 {y:Int} (h0:0≤y) (h1:y<8):IntKind.wrap .u8 ((BitVec.ofInt (IntKind.bits .u8) 240 ||| BitVec.ofInt (IntKind.bits .u8) y).toNat)=240+y:=by
  have h:∀ n:Fin 8,IntKind.wrap .u8 ((BitVec.ofInt (IntKind.bits .u8) 240 ||| BitVec.ofInt (IntKind.bits .u8) (n.val:Int)).toNat)=240+(n.val:Int):=by decide +kernel
  have:=h ⟨y.toNat,by omega⟩
  simpa [show ((y.toNat:Nat):Int)=y by omega] using this
theorem lo63 {y:Int} (h0:0≤y) (h1:y<256):IntKind.wrap .u8 ((BitVec.ofInt (IntKind.bits .u8) 128 ||| BitVec.ofInt (IntKind.bits .u8) (IntKind.wrap .u8 ((BitVec.ofInt (IntKind.bits .u8) y &&& BitVec.ofInt (IntKind.bits .u8) 63).toNat))).toNat)=128+y % 64:=by
  have h:∀ n:Fin 256,IntKind.wrap .u8 ((BitVec.ofInt (IntKind.bits .u8) 128 ||| BitVec.ofInt (IntKind.bits .u8) (IntKind.wrap .u8 ((BitVec.ofInt (IntKind.bits .u8) (n.val:Int) &&& BitVec.ofInt (IntKind.bits .u8) 63).toNat))).toNat)=128+(n.val:Int) % 64:=by decide +kernel
  have:=h ⟨y.toNat,by omega⟩
  simpa [show ((y.toNat:Nat):Int)=y by omega] using this
theorem hi2 {r:Int} (h0:128≤r) (h1:r≤2047):IntKind.wrap .u8 ((BitVec.ofInt (IntKind.bits .u8) 192 ||| BitVec.ofInt (IntKind.bits .u8) (IntKind.wrap .u8 (Int.fdiv r (2 ^ 6)))).toNat)=192+r / 64:=by
  rw [w8m (Int.fdiv r (2 ^ 6)),Int.fdiv_eq_ediv_of_nonneg _ (by decide),or192 (by omega) (by omega)]; omega
theorem hi3 {r:Int} (h0:2048≤r) (h1:r≤65535):IntKind.wrap .u8 ((BitVec.ofInt (IntKind.bits .u8) 224 ||| BitVec.ofInt (IntKind.bits .u8) (IntKind.wrap .u8 (Int.fdiv r (2 ^ 12)))).toNat)=224+r / 4096:=by
  rw [w8m (Int.fdiv r (2 ^ 12)),Int.fdiv_eq_ediv_of_nonneg _ (by decide),or224 (by omega) (by omega)]; omega
theorem hi4 {r:Int} (h0:65536≤r) (h1:r≤1114111):IntKind.wrap .u8 ((BitVec.ofInt (IntKind.bits .u8) 240 ||| BitVec.ofInt (IntKind.bits .u8) (IntKind.wrap .u8 (Int.fdiv r (2 ^ 18)))).toNat)=240+r / 262144:=by
  rw [w8m (Int.fdiv r (2 ^ 18)),Int.fdiv_eq_ediv_of_nonneg _ (by decide),or240 (by omega) (by omega)]; omega
theorem lo0 {r:Int} (_:0≤r):IntKind.wrap .u8 ((BitVec.ofInt (IntKind.bits .u8) 128 ||| BitVec.ofInt (IntKind.bits .u8) (IntKind.wrap .u8 ((BitVec.ofInt (IntKind.bits .u8) (IntKind.wrap .u8 r) &&& BitVec.ofInt (IntKind.bits .u8) 63).toNat))).toNat)=128+r % 64:=by
  rw [w8m r,lo63 (by omega) (by omega)]; omega
theorem lo6 {r:Int} (_:0≤r):IntKind.wrap .u8 ((BitVec.ofInt (IntKind.bits .u8) 128 ||| BitVec.ofInt (IntKind.bits .u8) (IntKind.wrap .u8 ((BitVec.ofInt (IntKind.bits .u8) (IntKind.wrap .u8 (Int.fdiv r (2 ^ 6))) &&& BitVec.ofInt (IntKind.bits .u8) 63).toNat))).toNat)=128+r / 64 % 64:=by
  rw [w8m (Int.fdiv r (2 ^ 6)),Int.fdiv_eq_ediv_of_nonneg _ (by decide),lo63 (by omega) (by omega)]; omega
theorem lo12 {r:Int} (_:0≤r):IntKind.wrap .u8 ((BitVec.ofInt (IntKind.bits .u8) 128 ||| BitVec.ofInt (IntKind.bits .u8) (IntKind.wrap .u8 ((BitVec.ofInt (IntKind.bits .u8) (IntKind.wrap .u8 (Int.fdiv r (2 ^ 12))) &&& BitVec.ofInt (IntKind.bits .u8) 63).toNat))).toNat)=128+r / 4096 % 64:=by
  rw [w8m (Int.fdiv r (2 ^ 12)),Int.fdiv_eq_ediv_of_nonneg _ (by decide),lo63 (by omega) (by omega)]; omega
def encB (r:Int):ByteArray:=⟨(Lib.encodeRune r).toArray⟩
theorem J5 (r:Int):(encB r).data.toList=Lib.encodeRune r:=by simp [encB]
theorem encB_size (r:Int):1≤(encB r).size∧(encB r).size≤4:=by
  have:=Lib.encodeRuneZ_length r
  have e:(encB r).size=(Lib.encodeRuneZ r).length:=by simp [encB,ByteArray.size,Lib.encodeRune]
  omega
theorem Q3 (r:Int):u8s (Lib.encodeRune r)=(Lib.encodeRuneZ r).map (Value.int .u8):=by
  unfold u8s Lib.encodeRune
  rw [List.map_map]
  refine List.map_congr_left fun x hx=>?_
  have:=Lib.encodeRuneZ_byte r x hx
  show Value.int .u8 ((x.toNat.toUInt8.toNat:Nat):Int)=_
  rw [byteZ x this.1 this.2]; congr 1; omega
theorem own_put {v:Value} {g:Grp} {n m:Nat} {t s:ByteArray} {cs:List Value} (h:Go.Sw.Own 5 1 v g (n+m) (u8s t.data.toList++cs)) (hn:n=t.size) (hc:cs=u8s s.data.toList) (hm:m=s.size):O8 v g (t++s):=by
  subst hc; subst hn; subst hm
  exact own_text h rfl (by simp)
theorem appNon_ (v:Value) (g:Grp) (t:ByteArray) (r:Int) (hv:O8 v g t) (hr:isR r) (hna:128≤r) (hs:t.size+4≤140737488355328) (W0:World) (H:List Grp):Tri Tryz.prog 179 #[v,.int .i32 r] W0 (g::H) (fun x H'=>∃ v' g',x=v'∧O8 v' g' (t++encB r)∧H'=g'::H):=by
 obtain ⟨hr0,hr1,hr2⟩:=hr
 refine C6 (args:=[v,.int .i32 r]) (n:=78) Tryz.func179 rfl rfl (Nat.le_of_ble_eq_true rfl) ?_
 refine A1 (B7 (E':=[⟨0,[],v⟩,⟨1,[],.int .i32 r⟩]) [0] [0,1] (k:=?_))
 refine A0 (A1 ?_)
 have hw1:IntKind.wrap .u32 r=r:=w32u (by omega) (by omega)
 refine B7 (E':=[⟨0,[],v⟩,⟨1,[],.int .i32 r⟩,⟨5,[],.int .u32 r⟩]) [0,0,0] [0,1,5] rfl (Eq.trans (b:=some [⟨0,[],v⟩,⟨1,[],.int .i32 r⟩,⟨5,[],.int .u32 (IntKind.wrap .u32 r)⟩]) kr (by simp only [hw1])) (A0 ?_)
 refine B9 (A1 ?_)
 refine G_p [0,0,0] [0,1,5,11] (k:=A0 ?_)
 refine B2 (b:=decide (r≤2047)) kr (fun hc2=>?_) (fun hc2=>?_)
 ·
  simp only [decide_eq_true_eq] at hc2
  refine A1 (A2 ?_)
  refine C0 (E':=[⟨18,[],.int .u8 (IntKind.wrap .u8 ((BitVec.ofInt (IntKind.bits .u8) 192 ||| BitVec.ofInt (IntKind.bits .u8) (IntKind.wrap .u8 (Int.fdiv r (2 ^ 6)))).toNat))⟩,⟨14,[],v⟩,⟨1,[],.int .i32 r⟩]) (j:=5) [0,0,0,0,0] (k:=C4 (E':=[⟨18,[],.int .u8 (192+r / 64)⟩,⟨14,[],v⟩,⟨1,[],.int .i32 r⟩]) (by rw [hi2 (by omega) (by omega)]) ?_)
  refine C0 (E':=[⟨22,[],.int .u8 (IntKind.wrap .u8 ((BitVec.ofInt (IntKind.bits .u8) 128 ||| BitVec.ofInt (IntKind.bits .u8) (IntKind.wrap .u8 ((BitVec.ofInt (IntKind.bits .u8) (IntKind.wrap .u8 r) &&& BitVec.ofInt (IntKind.bits .u8) 63).toNat))).toNat))⟩,⟨18,[],.int .u8 (192+r / 64)⟩,⟨14,[],v⟩]) (j:=9) [0,0,0,0] (k:=C4 (E':=[⟨22,[],.int .u8 (128+r % 64)⟩,⟨18,[],.int .u8 (192+r / 64)⟩,⟨14,[],v⟩]) (by rw [lo0 (by omega)]) ?_)
  refine C9 (ch:=[]) (e:=5) (l:=[(0,.int .u8 (192+r / 64)),(1,.int .u8 (128+r % 64))]) (c:=[.int .u8 (192+r / 64),.int .u8 (128+r % 64)]) (k:=(fun b3=>?_))
  refine G0 (i:=10) (ch:=[]) (t:=22) (tx:=22) (e:=5) (inf:=Tryz.t5) (s:=v) (x:=.slice (some ⟨b3,0,none⟩) 2 2) (n:=t.size) (m:=2) (j:=1) (cs:=(u8s t.data.toList)) (news:=[.int .u8 (192+r / 64),.int .u8 (128+r % 64)]) (g:=g) (S:=(inG [(b3,.cells #[.int .u8 (192+r / 64),.int .u8 (128+r % 64)] 5 (0,0))])) rfl rfl rfl rfl kr kr kr rfl rfl (.inl ⟨5,kr⟩) (fun ⟨_,h⟩=>by cases h) (fun _=>⟨5,kr⟩) kr kr kr rfl hv (SrcOf.slice _ _ _ _ Rd.lit (fun h=>by cases h)) (F9 0 rfl) kr (by intro u hu; simp only [List.mem_cons,List.not_mem_nil,or_false] at hu; (first | (rcases hu with rfl | rfl | rfl | rfl) | (rcases hu with rfl | rfl | rfl) | (rcases hu with rfl | rfl) | subst hu) <;> rfl) (by omega) (by show (t.size+2) * 1≤140737488355328; omega) (fun v4 g5 hO6=>?_)
  obtain ⟨a7,cap8,rfl,hcap9,hrd10⟩:=hO6.shape
  refine B1 (E':=[⟨4,[],.slice a7 (t.size+2) cap8⟩]) [0] [4] (k:=A0 ?_)
  refine B5 (B4 ?_)
  refine C1 (H':=(g5::H)) (fun w h=>(h.erase 0)) (B6 [.tmp 4] [.slice a7 (t.size+2) cap8] (k:=?_))
  exact ⟨_,_,rfl,own_put hO6 rfl (by rw [J5,Q3,Lib.encodeRuneZ_two (r:=r) (by omega) (by omega)]; rfl) (by simp [encB,ByteArray.size,Lib.encodeRune,Lib.encodeRuneZ_two (r:=r) (by omega) (by omega)]),rfl⟩
 ·
  simp only [decide_eq_false_iff_not] at hc2
  refine A1 (A1 ?_)
  refine G_p [0,0,0] [0,1,5,25] (k:=A0 ?_)
  refine B2 (b:=decide (r<55296)) kr (fun hc11=>?_) (fun hc11=>?_)
  ·
   simp only [decide_eq_true_eq] at hc11
   refine A8 (A0 ?_)
   refine B2 (b:=decide (r<55296)) kr (fun hc12=>?_) (fun hc12=>?_)
   ·
    simp only [decide_eq_true_eq] at hc12
    refine A1 (A2 ?_)
    refine C0 (E':=[⟨38,[],.int .u8 (IntKind.wrap .u8 ((BitVec.ofInt (IntKind.bits .u8) 224 ||| BitVec.ofInt (IntKind.bits .u8) (IntKind.wrap .u8 (Int.fdiv r (2 ^ 12)))).toNat))⟩,⟨34,[],v⟩,⟨1,[],.int .i32 r⟩]) (j:=5) [0,0,0,0,0] (k:=C4 (E':=[⟨38,[],.int .u8 (224+r / 4096)⟩,⟨34,[],v⟩,⟨1,[],.int .i32 r⟩]) (by rw [hi3 (by omega) (by omega)]) ?_)
    refine C0 (E':=[⟨43,[],.int .u8 (IntKind.wrap .u8 ((BitVec.ofInt (IntKind.bits .u8) 128 ||| BitVec.ofInt (IntKind.bits .u8) (IntKind.wrap .u8 ((BitVec.ofInt (IntKind.bits .u8) (IntKind.wrap .u8 (Int.fdiv r (2 ^ 6))) &&& BitVec.ofInt (IntKind.bits .u8) 63).toNat))).toNat))⟩,⟨38,[],.int .u8 (224+r / 4096)⟩,⟨34,[],v⟩,⟨1,[],.int .i32 r⟩]) (j:=10) [0,0,0,0,0] (k:=C4 (E':=[⟨43,[],.int .u8 (128+r / 64 % 64)⟩,⟨38,[],.int .u8 (224+r / 4096)⟩,⟨34,[],v⟩,⟨1,[],.int .i32 r⟩]) (by rw [lo6 (by omega)]) ?_)
    refine C0 (E':=[⟨47,[],.int .u8 (IntKind.wrap .u8 ((BitVec.ofInt (IntKind.bits .u8) 128 ||| BitVec.ofInt (IntKind.bits .u8) (IntKind.wrap .u8 ((BitVec.ofInt (IntKind.bits .u8) (IntKind.wrap .u8 r) &&& BitVec.ofInt (IntKind.bits .u8) 63).toNat))).toNat))⟩,⟨43,[],.int .u8 (128+r / 64 % 64)⟩,⟨38,[],.int .u8 (224+r / 4096)⟩,⟨34,[],v⟩]) (j:=14) [0,0,0,0] (k:=C4 (E':=[⟨47,[],.int .u8 (128+r % 64)⟩,⟨43,[],.int .u8 (128+r / 64 % 64)⟩,⟨38,[],.int .u8 (224+r / 4096)⟩,⟨34,[],v⟩]) (by rw [lo0 (by omega)]) ?_)
    refine C9 (ch:=[]) (e:=5) (l:=[(0,.int .u8 (224+r / 4096)),(1,.int .u8 (128+r / 64 % 64)),(2,.int .u8 (128+r % 64))]) (c:=[.int .u8 (224+r / 4096),.int .u8 (128+r / 64 % 64),.int .u8 (128+r % 64)]) (k:=(fun b13=>?_))
    refine G0 (i:=15) (ch:=[]) (t:=22) (tx:=22) (e:=5) (inf:=Tryz.t5) (s:=v) (x:=.slice (some ⟨b13,0,none⟩) 3 3) (n:=t.size) (m:=3) (j:=1) (cs:=(u8s t.data.toList)) (news:=[.int .u8 (224+r / 4096),.int .u8 (128+r / 64 % 64),.int .u8 (128+r % 64)]) (g:=g) (S:=(inG [(b13,.cells #[.int .u8 (224+r / 4096),.int .u8 (128+r / 64 % 64),.int .u8 (128+r % 64)] 5 (0,0))])) rfl rfl rfl rfl kr kr kr rfl rfl (.inl ⟨5,kr⟩) (fun ⟨_,h⟩=>by cases h) (fun _=>⟨5,kr⟩) kr kr kr rfl hv (SrcOf.slice _ _ _ _ Rd.lit (fun h=>by cases h)) (F9 0 rfl) kr (by intro u hu; simp only [List.mem_cons,List.not_mem_nil,or_false] at hu; (first | (rcases hu with rfl | rfl | rfl | rfl) | (rcases hu with rfl | rfl | rfl) | (rcases hu with rfl | rfl) | subst hu) <;> rfl) (by omega) (by show (t.size+3) * 1≤140737488355328; omega) (fun v14 g15 hO16=>?_)
    obtain ⟨a17,cap18,rfl,hcap19,hrd20⟩:=hO16.shape
    refine B1 (E':=[⟨4,[],.slice a17 (t.size+3) cap18⟩]) [0] [4] (k:=A0 ?_)
    refine B5 (B4 ?_)
    refine C1 (H':=(g15::H)) (fun w h=>(h.erase 0)) (B6 [.tmp 4] [.slice a17 (t.size+3) cap18] (k:=?_))
    exact ⟨_,_,rfl,own_put hO16 rfl (by rw [J5,Q3,Lib.encodeRuneZ_three (r:=r) (by omega)]; rfl) (by simp [encB,ByteArray.size,Lib.encodeRune,Lib.encodeRuneZ_three (r:=r) (by omega)]),rfl⟩
   ·
    simp only [decide_eq_false_iff_not] at hc12; omega
  ·
   simp only [decide_eq_false_iff_not] at hc11
   refine G_p [0,0,0,0,0,6,0] [0,1,5,25] (k:=A0 ?_)
   refine B2 (b:=(decide (57343<r))&&(decide (r≤65535))) kr (fun hc21=>?_) (fun hc21=>?_)
   ·
    simp only [Bool.and_eq_true,decide_eq_true_eq] at hc21
    refine A1 (A2 ?_)
    refine C0 (E':=[⟨38,[],.int .u8 (IntKind.wrap .u8 ((BitVec.ofInt (IntKind.bits .u8) 224 ||| BitVec.ofInt (IntKind.bits .u8) (IntKind.wrap .u8 (Int.fdiv r (2 ^ 12)))).toNat))⟩,⟨34,[],v⟩,⟨1,[],.int .i32 r⟩]) (j:=5) [0,0,0,0,0] (k:=C4 (E':=[⟨38,[],.int .u8 (224+r / 4096)⟩,⟨34,[],v⟩,⟨1,[],.int .i32 r⟩]) (by rw [hi3 (by omega) (by omega)]) ?_)
    refine C0 (E':=[⟨43,[],.int .u8 (IntKind.wrap .u8 ((BitVec.ofInt (IntKind.bits .u8) 128 ||| BitVec.ofInt (IntKind.bits .u8) (IntKind.wrap .u8 ((BitVec.ofInt (IntKind.bits .u8) (IntKind.wrap .u8 (Int.fdiv r (2 ^ 6))) &&& BitVec.ofInt (IntKind.bits .u8) 63).toNat))).toNat))⟩,⟨38,[],.int .u8 (224+r / 4096)⟩,⟨34,[],v⟩,⟨1,[],.int .i32 r⟩]) (j:=10) [0,0,0,0,0] (k:=C4 (E':=[⟨43,[],.int .u8 (128+r / 64 % 64)⟩,⟨38,[],.int .u8 (224+r / 4096)⟩,⟨34,[],v⟩,⟨1,[],.int .i32 r⟩]) (by rw [lo6 (by omega)]) ?_)
    refine C0 (E':=[⟨47,[],.int .u8 (IntKind.wrap .u8 ((BitVec.ofInt (IntKind.bits .u8) 128 ||| BitVec.ofInt (IntKind.bits .u8) (IntKind.wrap .u8 ((BitVec.ofInt (IntKind.bits .u8) (IntKind.wrap .u8 r) &&& BitVec.ofInt (IntKind.bits .u8) 63).toNat))).toNat))⟩,⟨43,[],.int .u8 (128+r / 64 % 64)⟩,⟨38,[],.int .u8 (224+r / 4096)⟩,⟨34,[],v⟩]) (j:=14) [0,0,0,0] (k:=C4 (E':=[⟨47,[],.int .u8 (128+r % 64)⟩,⟨43,[],.int .u8 (128+r / 64 % 64)⟩,⟨38,[],.int .u8 (224+r / 4096)⟩,⟨34,[],v⟩]) (by rw [lo0 (by omega)]) ?_)
    refine C9 (ch:=[]) (e:=5) (l:=[(0,.int .u8 (224+r / 4096)),(1,.int .u8 (128+r / 64 % 64)),(2,.int .u8 (128+r % 64))]) (c:=[.int .u8 (224+r / 4096),.int .u8 (128+r / 64 % 64),.int .u8 (128+r % 64)]) (k:=(fun b22=>?_))
    refine G0 (i:=15) (ch:=[]) (t:=22) (tx:=22) (e:=5) (inf:=Tryz.t5) (s:=v) (x:=.slice (some ⟨b22,0,none⟩) 3 3) (n:=t.size) (m:=3) (j:=1) (cs:=(u8s t.data.toList)) (news:=[.int .u8 (224+r / 4096),.int .u8 (128+r / 64 % 64),.int .u8 (128+r % 64)]) (g:=g) (S:=(inG [(b22,.cells #[.int .u8 (224+r / 4096),.int .u8 (128+r / 64 % 64),.int .u8 (128+r % 64)] 5 (0,0))])) rfl rfl rfl rfl kr kr kr rfl rfl (.inl ⟨5,kr⟩) (fun ⟨_,h⟩=>by cases h) (fun _=>⟨5,kr⟩) kr kr kr rfl hv (SrcOf.slice _ _ _ _ Rd.lit (fun h=>by cases h)) (F9 0 rfl) kr (by intro u hu; simp only [List.mem_cons,List.not_mem_nil,or_false] at hu; (first | (rcases hu with rfl | rfl | rfl | rfl) | (rcases hu with rfl | rfl | rfl) | (rcases hu with rfl | rfl) | subst hu) <;> rfl) (by omega) (by show (t.size+3) * 1≤140737488355328; omega) (fun v23 g24 hO25=>?_)
    obtain ⟨a26,cap27,rfl,hcap28,hrd29⟩:=hO25.shape
    refine B1 (E':=[⟨4,[],.slice a26 (t.size+3) cap27⟩]) [0] [4] (k:=A0 ?_)
    refine B5 (B4 ?_)
    refine C1 (H':=(g24::H)) (fun w h=>(h.erase 0)) (B6 [.tmp 4] [.slice a26 (t.size+3) cap27] (k:=?_))
    exact ⟨_,_,rfl,own_put hO25 rfl (by rw [J5,Q3,Lib.encodeRuneZ_three (r:=r) (by omega)]; rfl) (by simp [encB,ByteArray.size,Lib.encodeRune,Lib.encodeRuneZ_three (r:=r) (by omega)]),rfl⟩
   ·
    simp only [Bool.and_eq_false_iff,decide_eq_false_iff_not] at hc21
    refine A1 (G_p [0,0,0,0,0,6,0] [0,1,50] (k:=?_))
    refine A0 (B2 (b:=(decide (r > 65535))&&(decide (r≤1114111))) kr (fun hc30=>?_) (fun hc30=>?_))
    ·
     simp only [Bool.and_eq_true,decide_eq_true_eq,gt_iff_lt] at hc30
     refine A1 (A2 ?_)
     refine C0 (E':=[⟨61,[],.int .u8 (IntKind.wrap .u8 ((BitVec.ofInt (IntKind.bits .u8) 240 ||| BitVec.ofInt (IntKind.bits .u8) (IntKind.wrap .u8 (Int.fdiv r (2 ^ 18)))).toNat))⟩,⟨57,[],v⟩,⟨1,[],.int .i32 r⟩]) (j:=5) [0,0,0,0,0] (k:=C4 (E':=[⟨61,[],.int .u8 (240+r / 262144)⟩,⟨57,[],v⟩,⟨1,[],.int .i32 r⟩]) (by rw [hi4 (by omega) (by omega)]) ?_)
     refine C0 (E':=[⟨66,[],.int .u8 (IntKind.wrap .u8 ((BitVec.ofInt (IntKind.bits .u8) 128 ||| BitVec.ofInt (IntKind.bits .u8) (IntKind.wrap .u8 ((BitVec.ofInt (IntKind.bits .u8) (IntKind.wrap .u8 (Int.fdiv r (2 ^ 12))) &&& BitVec.ofInt (IntKind.bits .u8) 63).toNat))).toNat))⟩,⟨61,[],.int .u8 (240+r / 262144)⟩,⟨57,[],v⟩,⟨1,[],.int .i32 r⟩]) (j:=10) [0,0,0,0,0] (k:=C4 (E':=[⟨66,[],.int .u8 (128+r / 4096 % 64)⟩,⟨61,[],.int .u8 (240+r / 262144)⟩,⟨57,[],v⟩,⟨1,[],.int .i32 r⟩]) (by rw [lo12 (by omega)]) ?_)
     refine C0 (E':=[⟨71,[],.int .u8 (IntKind.wrap .u8 ((BitVec.ofInt (IntKind.bits .u8) 128 ||| BitVec.ofInt (IntKind.bits .u8) (IntKind.wrap .u8 ((BitVec.ofInt (IntKind.bits .u8) (IntKind.wrap .u8 (Int.fdiv r (2 ^ 6))) &&& BitVec.ofInt (IntKind.bits .u8) 63).toNat))).toNat))⟩,⟨66,[],.int .u8 (128+r / 4096 % 64)⟩,⟨61,[],.int .u8 (240+r / 262144)⟩,⟨57,[],v⟩,⟨1,[],.int .i32 r⟩]) (j:=15) [0,0,0,0,0] (k:=C4 (E':=[⟨71,[],.int .u8 (128+r / 64 % 64)⟩,⟨66,[],.int .u8 (128+r / 4096 % 64)⟩,⟨61,[],.int .u8 (240+r / 262144)⟩,⟨57,[],v⟩,⟨1,[],.int .i32 r⟩]) (by rw [lo6 (by omega)]) ?_)
     refine C0 (E':=[⟨75,[],.int .u8 (IntKind.wrap .u8 ((BitVec.ofInt (IntKind.bits .u8) 128 ||| BitVec.ofInt (IntKind.bits .u8) (IntKind.wrap .u8 ((BitVec.ofInt (IntKind.bits .u8) (IntKind.wrap .u8 r) &&& BitVec.ofInt (IntKind.bits .u8) 63).toNat))).toNat))⟩,⟨71,[],.int .u8 (128+r / 64 % 64)⟩,⟨66,[],.int .u8 (128+r / 4096 % 64)⟩,⟨61,[],.int .u8 (240+r / 262144)⟩,⟨57,[],v⟩]) (j:=19) [0,0,0,0] (k:=C4 (E':=[⟨75,[],.int .u8 (128+r % 64)⟩,⟨71,[],.int .u8 (128+r / 64 % 64)⟩,⟨66,[],.int .u8 (128+r / 4096 % 64)⟩,⟨61,[],.int .u8 (240+r / 262144)⟩,⟨57,[],v⟩]) (by rw [lo0 (by omega)]) ?_)
     refine C9 (ch:=[]) (e:=5) (l:=[(0,.int .u8 (240+r / 262144)),(1,.int .u8 (128+r / 4096 % 64)),(2,.int .u8 (128+r / 64 % 64)),(3,.int .u8 (128+r % 64))]) (c:=[.int .u8 (240+r / 262144),.int .u8 (128+r / 4096 % 64),.int .u8 (128+r / 64 % 64),.int .u8 (128+r % 64)]) (k:=(fun b31=>?_))
     refine G0 (i:=20) (ch:=[]) (t:=22) (tx:=22) (e:=5) (inf:=Tryz.t5) (s:=v) (x:=.slice (some ⟨b31,0,none⟩) 4 4) (n:=t.size) (m:=4) (j:=1) (cs:=(u8s t.data.toList)) (news:=[.int .u8 (240+r / 262144),.int .u8 (128+r / 4096 % 64),.int .u8 (128+r / 64 % 64),.int .u8 (128+r % 64)]) (g:=g) (S:=(inG [(b31,.cells #[.int .u8 (240+r / 262144),.int .u8 (128+r / 4096 % 64),.int .u8 (128+r / 64 % 64),.int .u8 (128+r % 64)] 5 (0,0))])) rfl rfl rfl rfl kr kr kr rfl rfl (.inl ⟨5,kr⟩) (fun ⟨_,h⟩=>by cases h) (fun _=>⟨5,kr⟩) kr kr kr rfl hv (SrcOf.slice _ _ _ _ Rd.lit (fun h=>by cases h)) (F9 0 rfl) kr (by intro u hu; simp only [List.mem_cons,List.not_mem_nil,or_false] at hu; (first | (rcases hu with rfl | rfl | rfl | rfl) | (rcases hu with rfl | rfl | rfl) | (rcases hu with rfl | rfl) | subst hu) <;> rfl) (by omega) (by show (t.size+4) * 1≤140737488355328; omega) (fun v32 g33 hO34=>?_)
     obtain ⟨a35,cap36,rfl,hcap37,hrd38⟩:=hO34.shape
     refine B1 (E':=[⟨4,[],.slice a35 (t.size+4) cap36⟩]) [0] [4] (k:=A0 ?_)
     refine B5 (B4 ?_)
     refine C1 (H':=(g33::H)) (fun w h=>(h.erase 0)) (B6 [.tmp 4] [.slice a35 (t.size+4) cap36] (k:=?_))
     exact ⟨_,_,rfl,own_put hO34 rfl (by rw [J5,Q3,Lib.encodeRuneZ_four (r:=r) (by omega) (by omega)]; rfl) (by simp [encB,ByteArray.size,Lib.encodeRune,Lib.encodeRuneZ_four (r:=r) (by omega) (by omega)]),rfl⟩
    ·
     simp only [Bool.and_eq_false_iff,decide_eq_false_iff_not,gt_iff_lt] at hc30; omega
theorem appRune_ (v:Value) (g:Grp) (t:ByteArray) (r:Int) (hv:O8 v g t) (hr:isR r) (hs:t.size+4≤140737488355328) (W0:World) (H:List Grp):Tri Tryz.prog 163 #[v,.int .i32 r] W0 (g::H) (fun x H'=>∃ v' g',x=v'∧O8 v' g' (t++encB r)∧H'=g'::H):=by
 obtain ⟨hr0,hr1,hr2⟩:=hr
 refine C6 (args:=[v,.int .i32 r]) (n:=16) Tryz.func163 rfl rfl (Nat.le_of_ble_eq_true rfl) ?_
 refine A1 (B7 (E':=[⟨0,[],v⟩,⟨1,[],.int .i32 r⟩]) [0] [0,1] (k:=?_))
 refine A0 (A1 ?_)
 refine A1 ?_
 have hw1:IntKind.wrap .u32 r=r:=w32u (by omega) (by omega)
 refine B7 (E':=[⟨0,[],v⟩,⟨1,[],.int .i32 r⟩,⟨7,[],.bool (decide (r≤127))⟩]) [0,0,0] [0,1,7] rfl (Eq.trans (b:=some [⟨0,[],v⟩,⟨1,[],.int .i32 r⟩,⟨7,[],.bool (decide ((IntKind.wrap .u32 r)≤127))⟩]) kr (by simp only [hw1])) (A0 ?_)
 refine B2 (b:=decide (r≤127)) kr (fun hc2=>?_) (fun hc2=>?_)
 ·
  simp only [decide_eq_true_eq] at hc2
  refine A1 ?_
  have hw3:IntKind.wrap .u8 r=r:=(by rw [w8m]; omega)
  refine A2 (C0 (E':=[⟨10,[],.int .u8 r⟩,⟨8,[],v⟩]) [0,0,0] (Eq.trans (b:=some [⟨10,[],.int .u8 (IntKind.wrap .u8 r)⟩,⟨8,[],v⟩]) kr (by simp only [hw3])) (j:=3) rfl ?_)
  refine C9 (ch:=[]) (e:=5) (l:=[(0,.int .u8 r)]) (c:=[.int .u8 r]) (k:=(fun b4=>?_))
  refine G0 (i:=4) (ch:=[]) (t:=22) (tx:=22) (e:=5) (inf:=Tryz.t5) (s:=v) (x:=.slice (some ⟨b4,0,none⟩) 1 1) (n:=t.size) (m:=1) (j:=1) (cs:=(u8s t.data.toList)) (news:=[.int .u8 r]) (g:=g) (S:=(inG [(b4,.cells #[.int .u8 r] 5 (0,0))])) rfl rfl rfl rfl kr kr kr rfl rfl (.inl ⟨5,kr⟩) (fun ⟨_,h⟩=>by cases h) (fun _=>⟨5,kr⟩) kr kr kr rfl hv (SrcOf.slice _ _ _ _ Rd.lit (fun h=>by cases h)) (F9 0 rfl) kr (by intro u hu; simp only [List.mem_cons,List.not_mem_nil,or_false] at hu; (first | (rcases hu with rfl | rfl | rfl | rfl) | (rcases hu with rfl | rfl | rfl) | (rcases hu with rfl | rfl) | subst hu) <;> rfl) (by omega) (by show (t.size+1) * 1≤140737488355328; omega) (fun v5 g6 hO7=>?_)
  obtain ⟨a8,cap9,rfl,hcap10,hrd11⟩:=hO7.shape
  refine B1 (E':=[⟨4,[],.slice a8 (t.size+1) cap9⟩]) [0] [4] (k:=A0 ?_)
  refine B5 (A3 ?_)
  refine C1 (H':=(g6::H)) (fun w h=>(h.erase 0)) (B6 [.tmp 4] [.slice a8 (t.size+1) cap9] (k:=?_))
  exact ⟨_,_,rfl,own_put hO7 rfl (by rw [J5,Q3,Lib.encodeRuneZ_one (r:=r) (by omega) (by omega)]; rfl) (by simp [encB,ByteArray.size,Lib.encodeRune,Lib.encodeRuneZ_one (r:=r) (by omega) (by omega)]),rfl⟩
 ·
  simp only [decide_eq_false_iff_not] at hc2
  refine A8 (A0 ?_)
  refine A1 (A2 ?_)
  refine A4 (j:=2) [0,0] (k:=D8 Tryz.func179 (appNon_ v g t r hv ⟨hr0,hr1,hr2⟩ (by omega) (by omega) _ _) ?_)
  rintro v12 _ ⟨_,g13,rfl,hO14,rfl⟩
  refine B1 (E':=[⟨4,[],v12⟩]) [0] [4] (k:=A0 ?_)
  refine B5 (B6 [.tmp 4] [v12] (k:=?_))
  exact ⟨_,_,rfl,hO14,rfl⟩
theorem writeRune_ (b:Nat) (p:Value) (a:Option Addr) (cap:Nat) (g:Grp) (t:ByteArray) (r:Int) (hp:Bld b p) (hv:O8 (.slice a t.size cap) g t) (hr:isR r) (hs:t.size+4≤140737488355328) (W0:World) (H:List Grp):Tri Tryz.prog 136 #[pt b,.int .i32 r] W0 ([(b,.cells #[p,.slice a t.size cap] 87 (0,0))]::g::H) (fun x H'=>∃ n,x=.tuple #[.int .i64 n,.nilIface]∧∃ v' g',O8 v' g' (t++encB r)∧H'=bldG b (.pointer (some ⟨b,0,none⟩)) v'::g'::H):=by
 obtain ⟨hr0,hr1,hr2⟩:=hr
 refine C6 (args:=[pt b,.int .i32 r]) (n:=30) Tryz.func136 rfl rfl (Nat.le_of_ble_eq_true rfl) ?_
 refine A1 (B7 (E':=[⟨0,[],pt b⟩,⟨1,[],.int .i32 r⟩]) [0,0] [0,1] (k:=?_))
 refine A0 (A1 ?_)
 refine A2 (A4 (j:=1) [0] (k:=?_))
 refine D8 Tryz.func135 (copyCheck_ b (p) (.slice a t.size cap) hp _ _) ?_
 rintro r H' ⟨rfl,rfl⟩
 refine B1 (E':=[⟨0,[],pt b⟩,⟨1,[],.int .i32 r⟩]) [] [0,1] (k:=A0 ?_)
 refine A1 (A2 ?_)
 refine A4 (j:=3) [0,0,0] (k:=A5 (ch:=[]) (b:=b) (off:=1) (v:=.slice a t.size cap) (hA:=At.grp 0 0 rfl rfl) (k:=?_))
 refine B0 [0,0] [0,1,6] (k:=A0 ?_)
 refine A1 (A2 ?_)
 refine A4 (j:=4) [0,0,0,0] (k:=A5 (ch:=[]) (b:=b) (off:=1) (v:=.slice a t.size cap) (hA:=At.grp 0 0 rfl rfl) (k:=?_))
 refine A4 (j:=6) [0] (k:=J3 rfl (H':=(g::[(b,.cells #[pt b,.slice a t.size cap] 87 (0,0))]::H)) (fun w h=>(h.front (j:=1) rfl)) ?_)
 refine D8 Tryz.func163 (appRune_ (.slice a t.size cap) g t r hv ⟨hr0,hr1,hr2⟩ (by omega) _ _) ?_
 rintro v1 _ ⟨_,g2,rfl,hO3,rfl⟩
 obtain ⟨a4,cap5,rfl,-,-⟩:=hO3.shape
 refine A4 (j:=9) [0,0] (k:=E9 (ch:=[]) (b:=b) (off:=1) (v:=.slice a4 ((t++encB r).size) cap5) (j:=1) (g2::[(b,.cells #[pt b,.slice a4 ((t++encB r).size) cap5] 87 (0,0))]::H) (hoff:=Nat.le_of_ble_eq_true rfl) (hfz:=(fun _ _=>E3)) (k:=?_))
 refine B0 [] [0,6] (k:=A0 ?_)
 refine A1 (A2 ?_)
 refine A4 (j:=3) [0,0,0] (k:=A5 (ch:=[]) (b:=b) (off:=1) (v:=.slice a4 ((t++encB r).size) cap5) (hA:=At.grp 1 0 rfl rfl) (k:=?_))
 refine B0 [0,0,0,0,0] [4,5] (k:=A0 ?_)
 refine B5 (C1 (H':=([(b,.cells #[pt b,.slice a4 ((t++encB r).size) cap5] 87 (0,0))]::g2::H)) (fun w h=>(h.front (j:=1) rfl)) ?_)
 refine B6 [.tmp 4,.tmp 5] [.int .i64 (IntKind.wrap .i64 ((((t++encB r).size:Nat):Int) - ((t.size:Nat):Int))),.nilIface] (k:=?_)
 exact ⟨_,rfl,_,_,hO3,rfl⟩
theorem writeRune (b:Nat) (p v:Value) (g:Grp) (t:ByteArray) (r:Int) (hp:Bld b p) (hv:O8 v g t) (hr:isR r) (hs:t.size+4≤140737488355328) (W0:World) (H:List Grp):Tri Tryz.prog 136 #[pt b,.int .i32 r] W0 (bldG b p v::g::H) (fun _ H'=>∃ v' g',O8 v' g' (t++encB r)∧H'=bldG b (.pointer (some ⟨b,0,none⟩)) v'::g'::H):=by
  obtain ⟨a,cap,rfl,_,_⟩:=Go.Sw.Own.shape hv
  exact (writeRune_ b p a cap g t r hp hv hr hs W0 H).post fun v H' ⟨_,_,v',g',h1,h2⟩=>⟨H',⟨v',g',h1,h2⟩,fun _ h=>h⟩
theorem writeByte_ (b:Nat) (p v:Value) (g:Grp) (t:ByteArray) (c:UInt8) (hp:Bld b p) (hv:O8 v g t) (hs:t.size+1≤140737488355328) (W0:World) (H:List Grp):Tri Tryz.prog 92 #[pt b,.int .u8 (c.toNat:Int)] W0 ([(b,.cells #[p,v] 87 (0,0))]::g::H) (fun x H'=>x=.nilIface∧∃ v' g',O8 v' g' (t++⟨#[c]⟩)∧H'=bldG b (.pointer (some ⟨b,0,none⟩)) v'::g'::H):=by
 refine C6 (args:=[pt b,.int .u8 (c.toNat:Int)]) (n:=17) Tryz.func92 rfl rfl (Nat.le_of_ble_eq_true rfl) ?_
 refine A1 (G_p [0] [0,1] (k:=?_))
 refine A0 (A1 ?_)
 refine A2 (A4 (j:=1) [0] (k:=?_))
 refine D8 Tryz.func135 (copyCheck_ b (p) (v) hp _ _) ?_
 rintro r H' ⟨rfl,rfl⟩
 refine B0 [] [0,1] (k:=A0 ?_)
 refine A1 (A2 ?_)
 refine A4 (j:=4) [0,0,0,0] (k:=A5 (ch:=[]) (b:=b) (off:=1) (v:=v) (hA:=At.grp 0 0 rfl rfl) (k:=?_))
 refine A4 (j:=6) [0] (k:=C9 (ch:=[]) (e:=5) (l:=[(0,.int .u8 (c.toNat:Int))]) (c:=[.int .u8 (c.toNat:Int)]) (k:=(fun b1=>?_)))
 refine G0 (i:=7) (ch:=[]) (t:=22) (tx:=22) (e:=5) (inf:=Tryz.t5) (s:=v) (x:=.slice (some ⟨b1,0,none⟩) 1 1) (n:=t.size) (m:=1) (j:=2) (cs:=(u8s t.data.toList)) (news:=[.int .u8 (c.toNat:Int)]) (g:=g) (S:=(inG [(b1,.cells #[.int .u8 (c.toNat:Int)] 5 (0,0))])) rfl rfl rfl rfl kr kr kr rfl rfl (.inl ⟨5,kr⟩) (fun ⟨_,h⟩=>by cases h) (fun _=>⟨5,kr⟩) kr kr kr rfl hv (SrcOf.slice _ _ _ _ Rd.lit (fun h=>by cases h)) (F9 0 rfl) kr (by intro u hu; simp only [List.mem_cons,List.not_mem_nil,or_false] at hu; (first | (rcases hu with rfl | rfl | rfl | rfl) | (rcases hu with rfl | rfl | rfl) | (rcases hu with rfl | rfl) | subst hu) <;> rfl) (by omega) (by show (t.size+1) * 1≤140737488355328; omega) (fun v2 g3 hO4=>?_)
 obtain ⟨a5,cap6,rfl,hcap7,hrd8⟩:=hO4.shape
 refine A4 (j:=10) [0,0] (k:=E9 (ch:=[]) (b:=b) (off:=1) (v:=.slice a5 (t.size+1) cap6) (j:=1) ([(b1,.cells #[.int .u8 (c.toNat:Int)] 5 (0,0))]::[(b,.cells #[pt b,.slice a5 (t.size+1) cap6] 87 (0,0))]::g3::H) (hoff:=Nat.le_of_ble_eq_true rfl) (hfz:=(fun _ _=>E3)) (k:=?_))
 refine B1 (E':=[]) [] [] (k:=A0 ?_)
 refine A1 (B7 (E':=[⟨4,[],.nilIface⟩]) [0] [4] (k:=?_))
 refine A0 (B5 ?_)
 refine C1 (H':=([(b,.cells #[pt b,.slice a5 (t.size+1) cap6] 87 (0,0))]::g3::H)) (fun w h=>(h.erase 0)) (B6 [.tmp 4] [.nilIface] (k:=?_))
 exact ⟨rfl,_,_,own_put (s:=⟨#[c]⟩) hO4 rfl rfl rfl,rfl⟩
end Go.Proofs.YtppgfiklmfoaeaaGreatDoor
namespace Go.Sw
open Go.RowKit
def dcR (s:ByteArray) (i:Nat):Int:=((Utf8.decode s i).1:Int)
def dcW (s:ByteArray) (i:Nat):Nat:=(Utf8.decode s i).2
theorem dc_rng (s:ByteArray) (i:Nat):0≤dcR s i∧dcR s i≤1114111∧1≤dcW s i∧dcW s i≤4:=by
  have hb:∀ k,(s.get! k).toNat<256:=fun k=>UInt8.toNat_lt _
  unfold dcR dcW Utf8.decode
  dsimp only
  have h0:=hb (i+0); have h1:=hb (i+1); have h2:=hb (i+2); have h3:=hb (i+3)
  simp only [Utf8.runeError]
  split
  · refine ⟨by omega,by omega,by omega,by omega⟩
  split
  · split <;> refine ⟨by omega,by omega,by omega,by omega⟩
  split
  · split <;> refine ⟨by omega,by omega,by omega,by omega⟩
  split
  · split
    · rename_i hv
      simp only [Utf8.valid,Bool.and_eq_true,decide_eq_true_eq,Bool.or_eq_true] at hv
      refine ⟨by omega,by omega,by omega,by omega⟩
    · refine ⟨by omega,by omega,by omega,by omega⟩
  · refine ⟨by omega,by omega,by omega,by omega⟩
theorem GL_rangeS {P:Program} {ops:Array Oper} {i:Nat} {Q:D6} {n:Fr} {E:Env} {W0:World} {H:List Grp} {o:Oper} {ch:List (Nat × Bool)} {t:TypeId} {x:Operand} {s:ByteArray}
    (ho:ops[i]? = some o) (hop:o.op=.range t x) (hx:evO E ch x=some (.string s)) (hu:P.underlying t=some .string)
    (hch:F1 ops E o.guard=some ch) (hd:H7 n ch o.dst=true) (hsure:O5 E ch=true)
    (kk:∀ b,GL false P ops (i+1) Q n (Env.put E o.dst ch (.pointer (some ⟨b,0,none⟩))) W0 ([(b,.stringIter s 0)]::H)):GL false P ops i Q n E W0 H :=
  GL_new (f:=fun b=>.pointer (some ⟨b,0,none⟩)) ho hch hd hsure (fun r hr w=>by
    unfold execOp; simp only [hop]; rw [hr _ _ hx]
    simp only [Instr.range,Sem.run_bind,run_underlying hu,Result.andThen_ok,Sem.run_pure,run_newObj]; rfl) kk
theorem GL_nextS {P:Program} {ops:Array Oper} {i:Nat} {Q:D6} {n:Fr} {E:Env} {W0:World} {H:List Grp} {o:Oper} {ch:List (Nat × Bool)} {x:Operand} {it p j:Nat} {s:ByteArray}
    (ho:ops[i]? = some o) (hop:o.op=.next x true) (hx:evO E ch x=some (.pointer (some ⟨it,0,none⟩)))
    (hch:F1 ops E o.guard=some ch) (hd:H7 n ch o.dst=true) (hsure:O5 E ch=true)
    (hj:H[j]? = some [(it,.stringIter s p)])
    (kEnd:¬ p<s.size→GL false P ops (i+1) Q n (Env.put E o.dst ch (.tuple #[.bool false])) W0 H)
    (kMore:p<s.size→GL false P ops (i+1) Q n (Env.put E o.dst ch (.tuple #[.bool true,.int .i64 ((p:Nat):Int),.int .i32 (dcR s p)])) W0 (H.set j [(it,.stringIter s (p+dcW s p))])) :
    GL false P ops i Q n E W0 H:=by
  refine GL_eff (R:=fun v H1=>(¬ p<s.size∧v=.tuple #[.bool false]∧H1=H)∨(p<s.size∧v=.tuple #[.bool true,.int .i64 ((p:Nat):Int),.int .i32 (dcR s p)]∧H1=H.set j [(it,.stringIter s (p+dcW s p))]))
    ho hch hd hsure (fun rr hr w hs=>?_) (by
      rintro v H1 (⟨h1,rfl,rfl⟩ | ⟨h1,rfl,rfl⟩)
      · exact kEnd h1
      · exact kMore h1)
  have hi:([(it,Obj.stringIter s p)]:Grp)[0]? = some (it,.stringIter s p):=rfl
  have hblk:=hs.has _ (List.mem_flatten.2 ⟨_,List.mem_of_getElem? hj,List.mem_of_getElem? hi⟩)
  have hit:=run_getObj_iter (P:=P) hblk rfl
  have hexec:(execOp rr o).run P w=((Instr.next (.pointer (some ⟨it,0,none⟩)) true o.type).run P w).andThen fun v w'=>.ok (.value v) w':=by
    unfold execOp
    simp only [hop]
    rw [hr _ _ hx]
    simp only [Sem.run_bind,Sem.run_pure]
  by_cases hp:p<s.size
  · obtain ⟨w',hr',hw'⟩:=Wr_setObj (P:=P) hblk (o':=.stringIter s (p+dcW s p)) rfl
    refine ⟨_,w',_,.inr ⟨hp,rfl,rfl⟩,hs.wr hj hi hw',.inl ?_⟩
    rw [hexec]
    have e:(Instr.next (.pointer (some ⟨it,0,none⟩)) true o.type).run P w=.ok (.tuple #[.bool true,.int .i64 ((p:Nat):Int),.int .i32 (dcR s p)]) w':=by
      have hr2:(setObj it (.stringIter s (p+(Utf8.decode s p).2))).run P w=.ok () w':=hr'
      simp only [Instr.next,Sem.run_bind,hit,Result.andThen_ok,if_pos hp]
      cases hd:Utf8.decode s p with
      | mk c wd =>
        rw [hd] at hr2
        simp only [hr2,Result.andThen_ok,Sem.run_pure]
        unfold dcR
        rw [hd]; rfl
    rw [e]; rfl
  · refine ⟨_,w,_,.inl ⟨hp,rfl,rfl⟩,hs,.inl ?_⟩
    rw [hexec]
    simp only [Instr.next,Sem.run_bind,hit,Result.andThen_ok,if_neg hp,Sem.run_pure]
end Go.Sw
namespace Go.Proofs.YtppgfiklmfoaeaaGreatDoor
open Go.Sw Go.Sha Go.Esc
theorem bown0:O8 (.slice none 0 0) [] .empty:=by simpa [O8,u8s] using Go.Sw.Own.nil
theorem H0 (b:Nat) (p v:Value) (g:Grp) (t s:ByteArray) (hp:Bld b p) (hv:O8 v g t) (hs:t.size+s.size≤140737488355328) (W0:World) (H:List Grp):Tri Tryz.prog 90 #[pt b,.string s] W0 (bldG b p v::g::H) (fun _ H'=>∃ v' g',O8 v' g' (t++s)∧H'=bldG b (.pointer (some ⟨b,0,none⟩)) v'::g'::H) :=
  (writeString b p v g t s hp hv hs W0 H).post fun _ H' ⟨_,v',g',h1,h2⟩=>⟨H',⟨v',g',h1,h2⟩,fun _ h=>h⟩
theorem J6 (b:Nat) (p v:Value) (g:Grp) (t:ByteArray) (c:UInt8) (hp:Bld b p) (hv:O8 v g t) (hs:t.size+1≤140737488355328) (W0:World) (H:List Grp):Tri Tryz.prog 92 #[pt b,.int .u8 (c.toNat:Int)] W0 (bldG b p v::g::H) (fun _ H'=>∃ v' g',O8 v' g' (t++⟨#[c]⟩)∧H'=bldG b (.pointer (some ⟨b,0,none⟩)) v'::g'::H) :=
  (writeByte_ b p v g t c hp hv hs W0 H).post fun _ H' ⟨_,v',g',h1,h2⟩=>⟨H',⟨v',g',h1,h2⟩,fun _ h=>h⟩
theorem isR_dc (s:ByteArray) (q:Nat):isR (dcR s q):=by unfold dcR; rw [← Lib.decodeL_drop]; exact decodeL_isR _
theorem drop_ne {s:ByteArray} {q:Nat} (h:q<s.size):s.data.toList.drop q≠[]:=by
  intro h0; have:=congrArg List.length h0; rw [List.length_drop,Array.length_toList] at this
  have e:s.size=s.data.size:=rfl
  simp only [List.length_nil] at this; omega
theorem runes_at {s:ByteArray} {q:Nat} (h:q<s.size):A6 (s.data.toList.drop q)=dcR s q::A6 (s.data.toList.drop (q+dcW s q)):=by
  rw [P3 _ (drop_ne h),List.drop_drop]; unfold dcR dcW; rw [Lib.decodeL_drop]
theorem dcW_le {s:ByteArray} {q:Nat} (h:q<s.size):q+dcW s q≤s.size:=by
  have:=Lib.decodeL_le _ (drop_ne h)
  rw [Lib.decodeL_drop,List.length_drop,Array.length_toList] at this
  have e:s.size=s.data.size:=rfl
  unfold dcW; omega
theorem runes_end {s:ByteArray} {q:Nat} (h:s.size≤q):A6 (s.data.toList.drop q)=[]:=by
  rw [List.drop_eq_nil_of_le (by rw [Array.length_toList]; exact h)]; rfl
theorem sz1 (b:UInt8):(⟨#[b]⟩:ByteArray).size=1:=rfl
theorem ba_eq {o:ByteArray} {l:List UInt8} (h:o.data.toList=l):o=⟨l.toArray⟩:=by subst h; rfl
theorem D9 (a b:ByteArray):(a++b).data.toList=a.data.toList++b.data.toList:=by rw [ByteArray.data_append,Array.toList_append]
theorem F3 (a b:ByteArray):(a++b).size=a.size+b.size:=by simp
end Go.Proofs.YtppgfiklmfoaeaaGreatDoor
namespace Go.Proofs
open Go.Shelf
def Tryz.lays161_ren:Go.Shelf.Ren:=⟨fun | 161=>82 | 231=>128 | 227=>129 | 233=>130 | 235=>131 | 228=>157 | 197=>158 | 151=>159 | 260=>176 | 152=>177 | 137=>168 | 119=>192 | 224=>193 | 225=>194 | 217=>186 | 266=>205 | n=>n,fun | 9=>9 | 4=>4 | 3=>3 | 5=>5 | 117=>161 | 116=>160 | 0=>0 | 124=>164 | 105=>185 | 21=>21 | 119=>173 | 46=>37 | 139=>176 | 138=>175 | n=>n,fun | 3=>0 | 4=>1 | n=>n⟩
theorem Tryz.lays161:Go.Proofs.Lays.n161 Tryz.prog Tryz.lays161_ren:={
  mixed:=by kernel_rfl
  f119:=Tryz.func192.trans (congrArg some (by kernel_rfl))
  f137:=Tryz.func168.trans (congrArg some (by kernel_rfl))
  f151:=Tryz.func159.trans (congrArg some (by kernel_rfl))
  f152:=Tryz.func177.trans (congrArg some (by kernel_rfl))
  f161:=Tryz.func82.trans (congrArg some (by kernel_rfl))
  f197:=Tryz.func158.trans (congrArg some (by kernel_rfl))
  f217:=Tryz.func186.trans (congrArg some (by kernel_rfl))
  f224:=Tryz.func193.trans (congrArg some (by kernel_rfl))
  f225:=Tryz.func194.trans (congrArg some (by kernel_rfl))
  f227:=Tryz.func129.trans (congrArg some (by kernel_rfl))
  f228:=Tryz.func157.trans (congrArg some (by kernel_rfl))
  f231:=Tryz.func128.trans (congrArg some (by kernel_rfl))
  f233:=Tryz.func130.trans (congrArg some (by kernel_rfl))
  f235:=Tryz.func131.trans (congrArg some (by kernel_rfl))
  f260:=Tryz.func176.trans (congrArg some (by kernel_rfl))
  f266:=Tryz.func205.trans (congrArg some (by kernel_rfl))
  t0:=Tryz.underlying0
  a0:=Tryz.isAgg0
  z0:=Tryz.sizeOf0
  v0:=Tryz.zeroValue0
  t3:=Tryz.underlying3
  a3:=Tryz.isAgg3
  z3:=Tryz.sizeOf3
  v3:=Tryz.zeroValue3
  t4:=Tryz.underlying4
  a4:=Tryz.isAgg4
  z4:=Tryz.sizeOf4
  v4:=Tryz.zeroValue4
  t5:=Tryz.underlying5
  a5:=Tryz.isAgg5
  z5:=Tryz.sizeOf5
  v5:=Tryz.zeroValue5
  t9:=Tryz.underlying9
  a9:=Tryz.isAgg9
  z9:=Tryz.sizeOf9
  v9:=Tryz.zeroValue9
  t21:=Tryz.underlying21
  a21:=Tryz.isAgg21
  z21:=Tryz.sizeOf21
  v21:=Tryz.zeroValue21
  t46:=Tryz.underlying37
  a46:=Tryz.isAgg37
  z46:=Tryz.sizeOf37
  v46:=Tryz.zeroValue37
  t105:=Tryz.underlying185
  a105:=Tryz.isAgg185
  z105:=Tryz.sizeOf185
  v105:=Tryz.zeroValue185
  t116:=Tryz.underlying160
  a116:=Tryz.isAgg160
  z116:=Tryz.sizeOf160
  t117:=Tryz.underlying161
  a117:=Tryz.isAgg161
  z117:=Tryz.sizeOf161
  v117:=Tryz.zeroValue161
  t119:=Tryz.underlying173
  a119:=Tryz.isAgg173
  z119:=Tryz.sizeOf173
  t124:=Tryz.underlying164
  a124:=Tryz.isAgg164
  z124:=Tryz.sizeOf164
  v124:=Tryz.zeroValue164
  t138:=Tryz.underlying175
  a138:=Tryz.isAgg175
  z138:=Tryz.sizeOf175
  v138:=Tryz.zeroValue175
  t139:=Tryz.underlying176
  a139:=Tryz.isAgg176
  z139:=Tryz.sizeOf176
  v139:=Tryz.zeroValue176
  g3:=by kernel_rfl
  g4:=by kernel_rfl }
def Tryz.laysM279_ren:Go.Shelf.Ren:=⟨fun | 279=>232 | 316=>247 | n=>n,fun | 9=>9 | 168=>272 | 75=>120 | 210=>286 | 3=>3 | 4=>4 | 37=>22 | 0=>0 | 127=>124 | 80=>89 | 5=>5 | n=>n,fun | 15=>4 | n=>n⟩
theorem Tryz.laysM279:Go.Proofs.LaysM.n279 Tryz.prog Tryz.laysM279_ren:={
  mixed:=by kernel_rfl
  f279:=Tryz.func232.trans (congrArg some (by kernel_rfl))
  f316:=Tryz.func247.trans (congrArg some (by kernel_rfl))
  t0:=Tryz.underlying0
  a0:=Tryz.isAgg0
  z0:=Tryz.sizeOf0
  v0:=Tryz.zeroValue0
  t3:=Tryz.underlying3
  a3:=Tryz.isAgg3
  z3:=Tryz.sizeOf3
  v3:=Tryz.zeroValue3
  t4:=Tryz.underlying4
  a4:=Tryz.isAgg4
  z4:=Tryz.sizeOf4
  v4:=Tryz.zeroValue4
  t9:=Tryz.underlying9
  a9:=Tryz.isAgg9
  z9:=Tryz.sizeOf9
  v9:=Tryz.zeroValue9
  t37:=Tryz.underlying22
  a37:=Tryz.isAgg22
  z37:=Tryz.sizeOf22
  v37:=Tryz.zeroValue22
  t75:=Tryz.underlying120
  a75:=Tryz.isAgg120
  z75:=Tryz.sizeOf120
  v75:=Tryz.zeroValue120
  t127:=Tryz.underlying124
  a127:=Tryz.isAgg124
  z127:=Tryz.sizeOf124
  v127:=Tryz.zeroValue124
  t168:=Tryz.underlying272
  a168:=Tryz.isAgg272
  z168:=Tryz.sizeOf272
  v168:=Tryz.zeroValue272
  t210:=Tryz.underlying286
  a210:=Tryz.isAgg286
  z210:=Tryz.sizeOf286
  v210:=Tryz.zeroValue286
  g15:=by kernel_rfl
  t5:=Tryz.underlying5
  a5:=Tryz.isAgg5
  z5:=Tryz.sizeOf5
  v5:=Tryz.zeroValue5
  t80:=Tryz.underlying89
  a80:=Tryz.isAgg89
  z80:=Tryz.sizeOf89
  v80:=Tryz.zeroValue89
  i0:=by kernel_rfl
  i3:=by kernel_rfl
  i4:=by kernel_rfl
  i5:=by kernel_rfl
  i9:=by kernel_rfl
  i37:=by kernel_rfl
  i75:=by kernel_rfl
  i80:=by kernel_rfl
  i127:=by kernel_rfl
  i168:=by kernel_rfl
  i210:=by kernel_rfl
  m15:=by kernel_rfl }
open Go.RowKit in
theorem Tryz.strconv_syntaxError (fn s:ByteArray) (ev:Value) (w:World) (hlim:s.size≤281474976710656) (hv:w.cell? ⟨4,0,none⟩=some ev) (hev:ev=.nilIface∨∃ te pe,ev=.iface te pe) :
    Calls Tryz.prog 232 #[.string fn,.string s] w fun e w'=>∃ N,e=.returned (.pointer (some ⟨N,0,none⟩))∧w.heap.size≤N∧w'.heap[N]? = some (.cells #[.string fn,.string s,ev] 286 (0,0))∧Below w.heap.size w w':=Any.strconv_syntaxError Tryz.laysM279 fn s ev w hlim hv hev
def Tryz.lays105_ren:Go.Shelf.Ren:=⟨fun | 105=>165 | 212=>181 | 99=>77 | 165=>182 | 166=>90 | 170=>183 | 169=>53 | 263=>199 | 264=>200 | 206=>123 | 240=>135 | 241=>201 | 276=>162 | 277=>220 | n=>n,fun | 9=>9 | 3=>3 | 4=>4 | 20=>20 | 0=>0 | 46=>37 | 109=>216 | 5=>5 | 72=>87 | 76=>121 | 51=>36 | 146=>230 | 53=>194 | 148=>232 | 70=>85 | 37=>22 | 75=>120 | 127=>124 | 164=>189 | 80=>89 | n=>n,fun | n=>n⟩
theorem Tryz.lays105:Go.Proofs.Lays.n105 Tryz.prog Tryz.lays105_ren:={
  mixed:=by kernel_rfl
  f99:=Tryz.func77.trans (congrArg some (by kernel_rfl))
  f105:=Tryz.func165.trans (congrArg some (by kernel_rfl))
  f165:=Tryz.func182.trans (congrArg some (by kernel_rfl))
  f166:=Tryz.func90.trans (congrArg some (by kernel_rfl))
  f169:=Tryz.func53.trans (congrArg some (by kernel_rfl))
  f170:=Tryz.func183.trans (congrArg some (by kernel_rfl))
  f206:=Tryz.func123.trans (congrArg some (by kernel_rfl))
  f212:=Tryz.func181.trans (congrArg some (by kernel_rfl))
  f240:=Tryz.func135.trans (congrArg some (by kernel_rfl))
  f241:=Tryz.func201.trans (congrArg some (by kernel_rfl))
  f263:=Tryz.func199.trans (congrArg some (by kernel_rfl))
  f264:=Tryz.func200.trans (congrArg some (by kernel_rfl))
  f276:=Tryz.func162.trans (congrArg some (by kernel_rfl))
  f277:=Tryz.func220.trans (congrArg some (by kernel_rfl))
  t0:=Tryz.underlying0
  a0:=Tryz.isAgg0
  z0:=Tryz.sizeOf0
  v0:=Tryz.zeroValue0
  t3:=Tryz.underlying3
  a3:=Tryz.isAgg3
  z3:=Tryz.sizeOf3
  v3:=Tryz.zeroValue3
  t4:=Tryz.underlying4
  a4:=Tryz.isAgg4
  z4:=Tryz.sizeOf4
  v4:=Tryz.zeroValue4
  t5:=Tryz.underlying5
  a5:=Tryz.isAgg5
  z5:=Tryz.sizeOf5
  v5:=Tryz.zeroValue5
  t9:=Tryz.underlying9
  a9:=Tryz.isAgg9
  z9:=Tryz.sizeOf9
  v9:=Tryz.zeroValue9
  t20:=Tryz.underlying20
  a20:=Tryz.isAgg20
  z20:=Tryz.sizeOf20
  v20:=Tryz.zeroValue20
  t37:=Tryz.underlying22
  a37:=Tryz.isAgg22
  z37:=Tryz.sizeOf22
  v37:=Tryz.zeroValue22
  t46:=Tryz.underlying37
  a46:=Tryz.isAgg37
  z46:=Tryz.sizeOf37
  v46:=Tryz.zeroValue37
  t51:=Tryz.underlying36
  a51:=Tryz.isAgg36
  z51:=Tryz.sizeOf36
  v51:=Tryz.zeroValue36
  t53:=Tryz.underlying194
  a53:=Tryz.isAgg194
  z53:=Tryz.sizeOf194
  v53:=Tryz.zeroValue194
  t70:=Tryz.underlying85
  a70:=Tryz.isAgg85
  z70:=Tryz.sizeOf85
  v70:=Tryz.zeroValue85
  t72:=Tryz.underlying87
  a72:=Tryz.isAgg87
  z72:=Tryz.sizeOf87
  v72:=Tryz.zeroValue87
  t75:=Tryz.underlying120
  a75:=Tryz.isAgg120
  z75:=Tryz.sizeOf120
  v75:=Tryz.zeroValue120
  t76:=Tryz.underlying121
  a76:=Tryz.isAgg121
  z76:=Tryz.sizeOf121
  v76:=Tryz.zeroValue121
  t109:=Tryz.underlying216
  a109:=Tryz.isAgg216
  z109:=Tryz.sizeOf216
  v109:=Tryz.zeroValue216
  t127:=Tryz.underlying124
  a127:=Tryz.isAgg124
  z127:=Tryz.sizeOf124
  v127:=Tryz.zeroValue124
  t146:=Tryz.underlying230
  a146:=Tryz.isAgg230
  z146:=Tryz.sizeOf230
  v146:=Tryz.zeroValue230
  t148:=Tryz.underlying232
  a148:=Tryz.isAgg232
  z148:=Tryz.sizeOf232
  v148:=Tryz.zeroValue232
  t164:=Tryz.underlying189
  a164:=Tryz.isAgg189
  z164:=Tryz.sizeOf189
  v164:=Tryz.zeroValue189 }
theorem Tryz.Builder_Extra_105:Builder.Extra Tryz.prog Tryz.lays105_ren:={
  sizeBuilder:=by kernel_rfl
  liesBuilder:=by kernel_rfl
  t5:=Tryz.underlying5
  a5:=Tryz.isAgg5
  z5:=Tryz.sizeOf5
  v5:=Tryz.zeroValue5
  infoByte:=by kernel_rfl
  cellsByte:=by kernel_rfl
  sizeByte:=by kernel_rfl
  neB5:=by decide }
open Go.RowKit Go.Lib in
theorem Tryz.strings_Repeat (s:ByteArray) (c:Nat) (w:World) (hc:c≤9223372036854775807) (hlen:s.size * c≤140737488355328) :
    Calls Tryz.prog 165 #[.string s,.int .i64 c] w fun e w'=>e=.returned (.string ⟨(Lib.repeatL s.data.toList c).toArray⟩)∧Below w.heap.size w w':=Any.strings_Repeat Tryz.lays105 Tryz.Builder_Extra_105 s c w hc hlen
end Go.Proofs
namespace Go.Proofs.YtppgfiklmfoaeaaGreatDoor
open Go.Sw Go.Sha Go.Esc
theorem lowC:∀ n:Fin 256,(digC (n.val:Int)=if 48≤(n.val:Int)∧(n.val:Int)≤57 then (n.val:Int) - 48 else if 97≤IntKind.wrap .u8 ((BitVec.ofInt (IntKind.bits .u8) (n.val:Int) ||| BitVec.ofInt (IntKind.bits .u8) 32).toNat)∧IntKind.wrap .u8 ((BitVec.ofInt (IntKind.bits .u8) (n.val:Int) ||| BitVec.ofInt (IntKind.bits .u8) 32).toNat)≤102 then IntKind.wrap .u8 ((BitVec.ofInt (IntKind.bits .u8) (n.val:Int) ||| BitVec.ofInt (IntKind.bits .u8) 32).toNat) - 87 else -1)∧0≤IntKind.wrap .u8 ((BitVec.ofInt (IntKind.bits .u8) (n.val:Int) ||| BitVec.ofInt (IntKind.bits .u8) 32).toNat)∧IntKind.wrap .u8 ((BitVec.ofInt (IntKind.bits .u8) (n.val:Int) ||| BitVec.ofInt (IntKind.bits .u8) 32).toNat)<256:=by decide +kernel
def lowI (c:Int):Int:=IntKind.wrap .u8 ((BitVec.ofInt (IntKind.bits .u8) c ||| BitVec.ofInt (IntKind.bits .u8) 32).toNat)
theorem low_dig {c:Int} (h0:0≤c) (h1:c<256):(digC c=if 48≤c∧c≤57 then c - 48 else if 97≤lowI c∧lowI c≤102 then lowI c - 87 else -1)∧0≤lowI c∧lowI c<256:=by
  have:=lowC ⟨c.toNat,by omega⟩
  simp only [show ((c.toNat:Nat):Int)=c by omega] at this
  exact this
def dgI (c:Int):Int:=if 48≤c∧c≤57 then c - 48 else lowI c - 87
theorem dgI1 {c:Int} (h:48≤c∧c≤57):IntKind.wrap .u8 (c - 48)=dgI c:=by rw [w8m]; unfold dgI; rw [if_pos h]; omega
theorem dgI2 {c:Int} (h0:¬ (48≤c∧c≤57)) (h:97≤lowI c∧lowI c≤122):IntKind.wrap .u8 (IntKind.wrap .u8 (lowI c - 97)+10)=dgI c:=by rw [w8m,w8m]; unfold dgI; rw [if_neg h0]; omega
theorem dg_ok {c base:Int} (h:(48≤c∧c≤57)∨(97≤lowI c∧lowI c≤122)) (hc:0≤c∧c<256) (hb:10≤base∧base≤16):(dgI c<base→digB c base=dgI c∧0≤dgI c)∧(base≤dgI c→digB c base<0):=by
  have hl:=low_dig hc.1 hc.2
  have h1:=hl.1; have h2:=hl.2
  unfold dgI digB; rw [h1]
  refine ⟨fun h3=>?_,fun h3=>?_⟩ <;> (repeat' split) <;> (try split at h3) <;> omega
theorem dg_no {c base:Int} (h0:¬ (48≤c∧c≤57)) (h:¬ (97≤lowI c∧lowI c≤122)) (hc:0≤c∧c<256) (hb:10≤base):digB c base<0:=by
  have hl:=low_dig hc.1 hc.2
  have h1:=hl.1
  unfold digB; rw [h1]; (repeat' split) <;> omega
theorem byte_rng (b:UInt8):0≤(b.toNat:Int)∧(b.toNat:Int)<256:=⟨Int.natCast_nonneg _,by have:=b.toNat_lt; omega⟩
theorem size0 {s:ByteArray} (h:(s.toList==(ByteArray.mk #[]).toList)=true):s.size=0:=by
  rw [beq_iff_eq,Lib.toList_data,Lib.toList_data] at h
  have:=congrArg List.length h
  rw [Array.length_toList] at this; exact this
theorem pow16 {k:Nat} (h:k≤7):(16:Int) ^ k≤268435456:=by
  have:(16:Nat) ^ k≤16 ^ 7:=Nat.pow_le_pow_right (by decide) h
  have e:((16 ^ k:Nat):Int)=(16:Int) ^ k:=by simp
  rw [← e]; omega
theorem w64u {x:Int} (h0:0≤x) (h1:x<18446744073709551616):IntKind.wrap .u64 x=x:=by
  rw [show IntKind.wrap .u64 x=x % 18446744073709551616 from by first | rfl | simp [IntKind.wrap,IntKind.bits,IntKind.signed]]; omega
theorem numV_none {base a n:Int} {l:List UInt8} {k:Nat} (hV:numV base a l=numV base n (l.drop k)) (hk:k<l.length) (h:digB ((l.getD k 0).toNat:Int) base<0):numV base a l=none:=by
  rw [hV,J4 _ hk,M9,if_pos h]
theorem lower_ (c:Int) (W0:World) (H:List Grp):Tri Tryz.prog 230 #[.int .u8 c] W0 H (fun v H'=>v=.int .u8 (lowI c)∧H'=H):=by
 refine C6 (args:=[.int .u8 c]) (n:=5) Tryz.func230 rfl rfl (Nat.le_of_ble_eq_true rfl) ?_
 refine A1 (B7 (E':=[⟨0,[],.int .u8 c⟩]) [0] [0] (k:=?_))
 refine A0 (A1 ?_)
 refine G_p [0,0,0] [2] (k:=A0 ?_)
 refine B5 (B6 [.tmp 2] [.int .u8 (IntKind.wrap .u8 ((BitVec.ofInt (IntKind.bits .u8) c ||| BitVec.ofInt (IntKind.bits .u8) 32).toNat))] (k:=?_))
 exact ⟨rfl,rfl⟩
theorem inner16_ (s:ByteArray) (h0:0<s.size) (hs:s.size≤7) (W0:World) (H:List Grp):Tri Tryz.prog 213 #[.string s,.int .i64 16,.int .i64 32] W0 H (fun v H'=>((∃ n,numV 16 0 s.data.toList=some n∧0≤n∧n<16 ^ s.size∧v=.tuple #[.int .u64 n,.nilIface])∨(numV 16 0 s.data.toList=none∧v=.tuple #[.int .u64 0,.iface 270 (.int .i64 2)]))∧H'=H):=by
 have hlen:s.data.toList.length=s.size:=Array.length_toList
 refine C6 (args:=[.string s,.int .i64 16,.int .i64 32]) (n:=172) Tryz.func213 rfl rfl (Nat.le_of_ble_eq_true rfl) ?_
 refine A1 (G_p [0,0] [0,1,2] (k:=?_))
 refine A0 (A1 ?_)
 refine A1 (G_p [0,0] [0,1,2,19] (k:=?_))
 refine A0 (B2 (b:=s.toList==(ByteArray.mk #[]).toList) kr (fun hc1=>?_) (fun hc1=>?_))
 ·
  exact absurd (size0 hc1) (by omega)
 ·
  skip
  refine A8 (A0 ?_)
  refine A1 (G_p [0,0,0] [0,1,2,8] (k:=?_))
  refine A0 (A1 ?_)
  refine G_p [0,0] [0,1,2,8,9] (k:=A0 ?_)
  refine A1 (B9 ?_)
  refine A1 (G_p [0,0,0,0,0,2,0] [0,1,2,8,9,25] (k:=?_))
  refine A0 (E8 kr ?_)
  refine A8 (B8 ?_)
  refine A0 (A1 ?_)
  refine A1 (B7 (E':=[⟨0,[],.string s⟩,⟨1,[],.int .i64 16⟩,⟨2,[],.int .i64 32⟩,⟨8,[],.bool false⟩,⟨9,[],.string s⟩,⟨77,[],.bool false⟩]) [0,0] [0,1,2,8,9,77] (k:=?_))
  refine A0 (C2 kr ?_)
  refine A1 (G_p [0,0,0,0,0,3] [0,1,2,8,9,83] (k:=?_))
  refine A0 (C2 kr ?_)
  refine A8 (A0 ?_)
  refine A1 (G_p [0] [0,1,2,8,9] (k:=?_))
  refine A0 (A1 ?_)
  refine A1 (G_p [0] [0,1,2,8,9,85] (k:=?_))
  refine A0 (B9 ?_)
  refine A1 (G_p [0,0] [0,1,2,8,9,85,90] (k:=?_))
  refine A0 (C2 kr ?_)
  refine A1 (G_p [0,0] [0,1,2,8,9,92] (k:=?_))
  refine A0 (E8 kr ?_)
  refine B7 (E':=[⟨0,[],.string s⟩,⟨1,[],.int .i64 16⟩,⟨2,[],.int .i64 32⟩,⟨8,[],.bool false⟩,⟨9,[],.string s⟩,⟨10,[],.int .u64 1152921504606846976⟩]) [0] [0,1,2,8,9,10] (k:=B8 ?_)
  refine A0 (A1 ?_)
  refine G_p [0,0,0,0,0] [0,1,8,9,10,11] (k:=A0 ?_)
  refine A1 (G_p [0] [0,1,8,9,10,11,12] (k:=?_))
  refine A0 (A1 ?_)
  refine G_p [0] [0,1,8,9,10,11,12,13] (k:=A0 ?_)
  refine A1 (A1 ?_)
  refine A2 (A4 (j:=1) [0] (k:=?_))
  refine GL_strBytes (ch:=[]) (src:=9) (dst:=22) (e:=5) (s:=s) (k:=(fun b2 cap3 g4 hcap5 hrd6=>?_))
  refine B0 [0,0] [1,8,9,10,11,12,13,99,100,101] (k:=A0 ?_)
  refine B9 (I6 (EI:=(fun ξ:Nat × Int=>[⟨1,[],.int .i64 16⟩,⟨8,[],.bool false⟩,⟨9,[],.string s⟩,⟨10,[],.int .u64 1152921504606846976⟩,⟨11,[],.int .u64 4294967295⟩,⟨12,[],.bool false⟩,⟨13,[],.int .u64 ξ.2⟩,⟨99,[],.slice (some ⟨b2,0,none⟩) s.size cap3⟩,⟨100,[],.int .i64 ((s.size:Nat):Int)⟩,⟨101,[],.int .i64 (ξ.1:Int)⟩])) (HI:=(fun ξ:Nat × Int=>(g4::H))) (Φ:=(fun ξ:Nat × Int=>(ξ.1≤s.size)∧(0≤ξ.2)∧(ξ.2<16 ^ ξ.1)∧(numV 16 0 s.data.toList=numV 16 ξ.2 (s.data.toList.drop ξ.1)))) (μ:=(fun ξ:Nat × Int=>s.size - ξ.1)) (s0:=(0,0)) [1,8,9,10,11,12,13,99,100,101] kr rfl ⟨(by omega),(Int.le_refl _),(by decide),rfl⟩ ?_)
  rintro ⟨k,n⟩ ⟨hk,hn0,hn1,hV⟩
  dsimp only at hk hn0 hn1 hV
  have hp:=pow16 (show k≤7 by omega)
  have hcr:=byte_rng (s.data.toList.getD k 0)
  refine A1 (G_p [0] [1,8,9,10,11,12,13,99,100,101,102] (k:=?_))
  refine A0 (A1 ?_)
  refine B2 (b:=decide ((k:Int)<((s.size:Nat):Int))) kr (fun hc7=>?_) (fun hc7=>?_)
  ·
   simp only [decide_eq_true_eq] at hc7
   refine A8 (A0 ?_)
   refine A1 (B9 ?_)
   refine A1 (A2 ?_)
   refine D0 (ch:=[]) (a:=(some ⟨b2,0,none⟩)) (len:=s.size) (cap:=cap3) (kd:=.i64) (j:=(k:Int)) (e:=5) (sz:=1) (S:=(inG g4)) (cs:=(u8s s.data.toList)) (hrd:=hrd6) (hb:=(fun _=>by exact ⟨by omega,by omega,by intro h; have:=congrArg List.length h; rw [show (Go.Sw.u8s s.data.toList).length=s.size from (List.length_map _).trans hlen] at this; simp only [List.length_nil] at this; omega⟩)) (k:=I1 (ch:=[]) (a:=(some ⟨b2,0,none⟩)) (q:=(Int.toNat (k:Int)) * 1) (S:=(inG g4)) (cs:=(u8s s.data.toList)) (v:=.int .u8 ((s.data.toList.getD k 0).toNat:Int)) (hrd:=hrd6) (hS:=F9 0 rfl) (hv:=(fun _=>(by rw [Nat.mul_one,Int.toNat_natCast]; exact Go.Sha.u8s_at (by rw [hlen]; omega)))) (k:=?_))
   refine B0 [0] [1,8,9,10,11,12,13,15,99,100,101] (k:=A0 ?_)
   refine A1 (G_p [0] [1,8,9,10,11,12,13,15,99,100,101] (k:=?_))
   refine A0 (A1 ?_)
   refine B9 (A1 ?_)
   refine G_p [0,0,0,0,6,0] [1,8,9,10,11,12,13,15,99,100,101,106] (k:=A0 ?_)
   refine B2 (b:=(((s.data.toList.getD k 0).toNat:Int)==95)&&false) kr (fun hc8=>?_) (fun hc8=>?_)
   ·
    simp at hc8
   ·
    skip
    refine A1 (G_p [0,0,0,0,0,6,0] [1,8,9,10,11,12,13,15,99,100,101,112] (k:=?_))
    refine A0 (B2 (b:=(decide (48≤((s.data.toList.getD k 0).toNat:Int)))&&(decide (((s.data.toList.getD k 0).toNat:Int)≤57))) kr (fun hc9=>?_) (fun hc9=>?_))
    ·
     simp only [Bool.and_eq_true,decide_eq_true_eq] at hc9
     refine A2 (C0 (E':=[⟨120,[],.int .u8 (IntKind.wrap .u8 (((s.data.toList.getD k 0).toNat:Int) - 48))⟩,⟨1,[],.int .i64 16⟩,⟨8,[],.bool false⟩,⟨9,[],.string s⟩,⟨10,[],.int .u64 1152921504606846976⟩,⟨11,[],.int .u64 4294967295⟩,⟨12,[],.bool false⟩,⟨13,[],.int .u64 n⟩,⟨99,[],.slice (some ⟨b2,0,none⟩) s.size cap3⟩,⟨100,[],.int .i64 ((s.size:Nat):Int)⟩,⟨101,[],.int .i64 (k:Int)⟩]) (j:=2) [0,0] (k:=?_))
     refine C4 (E':=[⟨120,[],.int .u8 (dgI ((s.data.toList.getD k 0).toNat:Int))⟩,⟨1,[],.int .i64 16⟩,⟨8,[],.bool false⟩,⟨9,[],.string s⟩,⟨10,[],.int .u64 1152921504606846976⟩,⟨11,[],.int .u64 4294967295⟩,⟨12,[],.bool false⟩,⟨13,[],.int .u64 n⟩,⟨99,[],.slice (some ⟨b2,0,none⟩) s.size cap3⟩,⟨100,[],.int .i64 ((s.size:Nat):Int)⟩,⟨101,[],.int .i64 (k:Int)⟩]) (by rw [dgI1 (c:=((s.data.toList.getD k 0).toNat:Int)) (by omega)]) (B1 (E':=[⟨1,[],.int .i64 16⟩,⟨8,[],.bool false⟩,⟨9,[],.string s⟩,⟨10,[],.int .u64 1152921504606846976⟩,⟨11,[],.int .u64 4294967295⟩,⟨12,[],.bool false⟩,⟨13,[],.int .u64 n⟩,⟨16,[],.int .u8 (dgI ((s.data.toList.getD k 0).toNat:Int))⟩,⟨99,[],.slice (some ⟨b2,0,none⟩) s.size cap3⟩,⟨100,[],.int .i64 ((s.size:Nat):Int)⟩,⟨101,[],.int .i64 (k:Int)⟩]) [0] [1,8,9,10,11,12,13,16,99,100,101] (k:=?_))
     refine B8 (A0 ?_)
     refine A1 (A1 ?_)
     refine G_p [0,0,0,0] [1,8,9,10,11,12,13,16,99,100,101,137] (k:=A0 ?_)
     refine B2 (b:=decide ((dgI ((s.data.toList.getD k 0).toNat:Int)) ≥ 16)) kr (fun hc10=>?_) (fun hc10=>?_)
     ·
      simp only [ge_iff_le,decide_eq_true_eq] at hc10
      have hdg:=(dg_ok (c:=((s.data.toList.getD k 0).toNat:Int)) (base:=16) (by omega) hcr (by omega)).2 (by omega)
      refine A1 (G_p [0,0,0] [6,7] (k:=?_))
      refine A0 (B5 ?_)
      refine A3 (B4 ?_)
      refine A3 (A3 ?_)
      refine B4 (A3 ?_)
      refine C1 (H':=H) (fun w h=>(h.erase 0)) (B6 [.tmp 6,.tmp 7] [.int .u64 0,.iface 270 (.int .i64 2)] (k:=?_))
      exact ⟨.inr ⟨numV_none hV (show k<s.data.toList.length by rw [hlen]; omega) hdg,rfl⟩,rfl⟩
     ·
      simp only [ge_iff_le,decide_eq_false_iff_not] at hc10
      have hdg:=(dg_ok (c:=((s.data.toList.getD k 0).toNat:Int)) (base:=16) (by omega) hcr (by omega)).1 (by omega)
      refine A8 (A0 ?_)
      refine A1 (A1 ?_)
      refine G_p [0,0,0] [1,8,9,10,11,12,13,16,99,100,101,141] (k:=A0 ?_)
      refine B2 (b:=decide (n ≥ 1152921504606846976)) kr (fun hc11=>?_) (fun hc11=>?_)
      ·
       simp only [ge_iff_le,decide_eq_true_eq] at hc11; omega
      ·
       simp only [ge_iff_le,decide_eq_false_iff_not] at hc11
       refine A8 (A0 ?_)
       refine A1 (A2 ?_)
       refine C0 (E':=[⟨147,[],.int .u64 (IntKind.wrap .u64 (n * 16))⟩,⟨1,[],.int .i64 16⟩,⟨8,[],.bool false⟩,⟨9,[],.string s⟩,⟨10,[],.int .u64 1152921504606846976⟩,⟨11,[],.int .u64 4294967295⟩,⟨12,[],.bool false⟩,⟨13,[],.int .u64 n⟩,⟨16,[],.int .u8 (dgI ((s.data.toList.getD k 0).toNat:Int))⟩,⟨99,[],.slice (some ⟨b2,0,none⟩) s.size cap3⟩,⟨100,[],.int .i64 ((s.size:Nat):Int)⟩,⟨101,[],.int .i64 (k:Int)⟩]) (j:=4) [0,0,0,0] (k:=C4 (E':=[⟨147,[],.int .u64 (n * 16)⟩,⟨1,[],.int .i64 16⟩,⟨8,[],.bool false⟩,⟨9,[],.string s⟩,⟨10,[],.int .u64 1152921504606846976⟩,⟨11,[],.int .u64 4294967295⟩,⟨12,[],.bool false⟩,⟨13,[],.int .u64 n⟩,⟨16,[],.int .u8 (dgI ((s.data.toList.getD k 0).toNat:Int))⟩,⟨99,[],.slice (some ⟨b2,0,none⟩) s.size cap3⟩,⟨100,[],.int .i64 ((s.size:Nat):Int)⟩,⟨101,[],.int .i64 (k:Int)⟩]) (by rw [w64u (x:=n * 16) (by omega) (by omega)]) ?_)
       refine B0 [0] [1,8,9,10,11,12,13,16,99,100,101] (k:=A0 ?_)
       refine A1 ?_
       have hw12:IntKind.wrap .u64 (dgI ((s.data.toList.getD k 0).toNat:Int))=(dgI ((s.data.toList.getD k 0).toNat:Int)):=w64u (by omega) (by omega)
       refine A2 (C0 (E':=[⟨151,[],.int .u64 (IntKind.wrap .u64 ((n * 16)+(dgI ((s.data.toList.getD k 0).toNat:Int))))⟩,⟨1,[],.int .i64 16⟩,⟨8,[],.bool false⟩,⟨9,[],.string s⟩,⟨10,[],.int .u64 1152921504606846976⟩,⟨11,[],.int .u64 4294967295⟩,⟨12,[],.bool false⟩,⟨13,[],.int .u64 (n * 16)⟩,⟨99,[],.slice (some ⟨b2,0,none⟩) s.size cap3⟩,⟨100,[],.int .i64 ((s.size:Nat):Int)⟩,⟨101,[],.int .i64 (k:Int)⟩]) [0,0,0,0] (Eq.trans (b:=some [⟨151,[],.int .u64 (IntKind.wrap .u64 ((n * 16)+(IntKind.wrap .u64 (dgI ((s.data.toList.getD k 0).toNat:Int)))))⟩,⟨1,[],.int .i64 16⟩,⟨8,[],.bool false⟩,⟨9,[],.string s⟩,⟨10,[],.int .u64 1152921504606846976⟩,⟨11,[],.int .u64 4294967295⟩,⟨12,[],.bool false⟩,⟨13,[],.int .u64 (n * 16)⟩,⟨99,[],.slice (some ⟨b2,0,none⟩) s.size cap3⟩,⟨100,[],.int .i64 ((s.size:Nat):Int)⟩,⟨101,[],.int .i64 (k:Int)⟩]) kr (by simp only [hw12])) (j:=4) rfl ?_)
       refine C4 (E':=[⟨151,[],.int .u64 (n * 16+dgI ((s.data.toList.getD k 0).toNat:Int))⟩,⟨1,[],.int .i64 16⟩,⟨8,[],.bool false⟩,⟨9,[],.string s⟩,⟨10,[],.int .u64 1152921504606846976⟩,⟨11,[],.int .u64 4294967295⟩,⟨12,[],.bool false⟩,⟨13,[],.int .u64 (n * 16)⟩,⟨99,[],.slice (some ⟨b2,0,none⟩) s.size cap3⟩,⟨100,[],.int .i64 ((s.size:Nat):Int)⟩,⟨101,[],.int .i64 (k:Int)⟩]) (by rw [w64u (x:=n * 16+dgI ((s.data.toList.getD k 0).toNat:Int)) (by omega) (by omega)]) (B0 [0] [1,8,9,10,11,12,13,17,99,100,101] (k:=?_))
       refine A0 (A1 ?_)
       refine A1 (G_p [0,0,0,0,0,0,0,5] [1,8,9,10,11,12,17,99,100,101,159] (k:=?_))
       refine A0 (B2 (b:=(decide ((n * 16+dgI ((s.data.toList.getD k 0).toNat:Int))<(n * 16)))||(decide ((n * 16+dgI ((s.data.toList.getD k 0).toNat:Int)) > 4294967295))) kr (fun hc13=>?_) (fun hc13=>?_))
       ·
        simp only [gt_iff_lt,Bool.or_eq_true,decide_eq_true_eq] at hc13; omega
       ·
        simp only [gt_iff_lt,Bool.or_eq_false_iff,decide_eq_false_iff_not] at hc13
        refine A8 (A0 ?_)
        refine B7 (E':=[⟨1,[],.int .i64 16⟩,⟨8,[],.bool false⟩,⟨9,[],.string s⟩,⟨10,[],.int .u64 1152921504606846976⟩,⟨11,[],.int .u64 4294967295⟩,⟨12,[],.bool false⟩,⟨13,[],.int .u64 (n * 16+dgI ((s.data.toList.getD k 0).toNat:Int))⟩,⟨99,[],.slice (some ⟨b2,0,none⟩) s.size cap3⟩,⟨100,[],.int .i64 ((s.size:Nat):Int)⟩,⟨101,[],.int .i64 (k:Int)⟩]) [0,0] [1,8,9,10,11,12,13,99,100,101] (k:=B8 ?_)
        refine A0 (A2 ?_)
        refine A4 (j:=1) [0] (k:=D5 163 ((k:Int)+1) (by omega) (by omega) kr ?_)
        refine B0 [0] [1,8,9,10,11,12,13,99,100,101] (k:=E6 (s':=(k+1,(n * 16+dgI ((s.data.toList.getD k 0).toNat:Int)))) [1,8,9,10,11,12,13,99,100,101] kr rfl ⟨(by dsimp only; omega),(by dsimp only; omega),(by dsimp only; rw [Int.pow_succ]; omega),(by dsimp only; rw [hV,J4 _ (show k<s.data.toList.length by rw [hlen]; omega),M9,hdg.1,if_neg (by omega),Int.mul_comm])⟩ (by dsimp only; omega))
    ·
     simp only [Bool.and_eq_false_iff,decide_eq_false_iff_not] at hc9
     refine A1 (A2 ?_)
     refine A4 (j:=1) [0] (k:=H4 Tryz.func230 (lower_ ((s.data.toList.getD k 0).toNat:Int) _ _) ?_)
     refine A4 (j:=5) [0,0,0] (k:=F7 (ch:=[(125,true)]) (f:=230) (fst:=#[]) (caps:=#[]) (vs:=[.int .u8 ((s.data.toList.getD k 0).toNat:Int)]) (v:=.int .u8 (lowI ((s.data.toList.getD k 0).toNat:Int))) (hf:=Tryz.func230) (hc:=(fun hc=>lower_ ((s.data.toList.getD k 0).toNat:Int) _ _)) (k:=?_))
     refine B1 (E':=[⟨1,[],.int .i64 16⟩,⟨8,[],.bool false⟩,⟨9,[],.string s⟩,⟨10,[],.int .u64 1152921504606846976⟩,⟨11,[],.int .u64 4294967295⟩,⟨12,[],.bool false⟩,⟨13,[],.int .u64 n⟩,⟨15,[],.int .u8 ((s.data.toList.getD k 0).toNat:Int)⟩,⟨99,[],.slice (some ⟨b2,0,none⟩) s.size cap3⟩,⟨100,[],.int .i64 ((s.size:Nat):Int)⟩,⟨101,[],.int .i64 (k:Int)⟩,⟨121,[],.bool ((decide (97≤(lowI ((s.data.toList.getD k 0).toNat:Int))))&&(decide ((lowI ((s.data.toList.getD k 0).toNat:Int))≤122)))⟩]) [0,6,0] [1,8,9,10,11,12,13,15,99,100,101,121] (k:=A0 ?_)
     refine B2 (b:=(decide (97≤(lowI ((s.data.toList.getD k 0).toNat:Int))))&&(decide ((lowI ((s.data.toList.getD k 0).toNat:Int))≤122))) kr (fun hc15=>?_) (fun hc15=>?_)
     ·
      simp only [Bool.and_eq_true,decide_eq_true_eq] at hc15
      refine A2 (A4 (j:=1) [0] (k:=?_))
      refine H4 Tryz.func230 (lower_ ((s.data.toList.getD k 0).toNat:Int) _ _) (C0 (E':=[⟨133,[],.int .u8 (IntKind.wrap .u8 ((IntKind.wrap .u8 ((lowI ((s.data.toList.getD k 0).toNat:Int)) - 97))+10))⟩,⟨1,[],.int .i64 16⟩,⟨8,[],.bool false⟩,⟨9,[],.string s⟩,⟨10,[],.int .u64 1152921504606846976⟩,⟨11,[],.int .u64 4294967295⟩,⟨12,[],.bool false⟩,⟨13,[],.int .u64 n⟩,⟨99,[],.slice (some ⟨b2,0,none⟩) s.size cap3⟩,⟨100,[],.int .i64 ((s.size:Nat):Int)⟩,⟨101,[],.int .i64 (k:Int)⟩]) (j:=4) [0,0] (k:=?_))
      refine C4 (E':=[⟨133,[],.int .u8 (dgI ((s.data.toList.getD k 0).toNat:Int))⟩,⟨1,[],.int .i64 16⟩,⟨8,[],.bool false⟩,⟨9,[],.string s⟩,⟨10,[],.int .u64 1152921504606846976⟩,⟨11,[],.int .u64 4294967295⟩,⟨12,[],.bool false⟩,⟨13,[],.int .u64 n⟩,⟨99,[],.slice (some ⟨b2,0,none⟩) s.size cap3⟩,⟨100,[],.int .i64 ((s.size:Nat):Int)⟩,⟨101,[],.int .i64 (k:Int)⟩]) (by rw [dgI2 (c:=((s.data.toList.getD k 0).toNat:Int)) (by omega) (by omega)]) (B0 [0] [1,8,9,10,11,12,13,16,99,100,101] (k:=?_))
      refine B8 (A0 ?_)
      refine A1 (A1 ?_)
      refine G_p [0,0,0,0] [1,8,9,10,11,12,13,16,99,100,101,137] (k:=A0 ?_)
      refine B2 (b:=decide ((dgI ((s.data.toList.getD k 0).toNat:Int)) ≥ 16)) kr (fun hc16=>?_) (fun hc16=>?_)
      ·
       simp only [ge_iff_le,decide_eq_true_eq] at hc16
       have hdg:=(dg_ok (c:=((s.data.toList.getD k 0).toNat:Int)) (base:=16) (by omega) hcr (by omega)).2 (by omega)
       refine A1 (G_p [0,0,0] [6,7] (k:=?_))
       refine A0 (B5 ?_)
       refine A3 (B4 ?_)
       refine A3 (A3 ?_)
       refine B4 (A3 ?_)
       refine C1 (H':=H) (fun w h=>(h.erase 0)) (B6 [.tmp 6,.tmp 7] [.int .u64 0,.iface 270 (.int .i64 2)] (k:=?_))
       exact ⟨.inr ⟨numV_none hV (show k<s.data.toList.length by rw [hlen]; omega) hdg,rfl⟩,rfl⟩
      ·
       simp only [ge_iff_le,decide_eq_false_iff_not] at hc16
       have hdg:=(dg_ok (c:=((s.data.toList.getD k 0).toNat:Int)) (base:=16) (by omega) hcr (by omega)).1 (by omega)
       refine A8 (A0 ?_)
       refine A1 (A1 ?_)
       refine G_p [0,0,0] [1,8,9,10,11,12,13,16,99,100,101,141] (k:=A0 ?_)
       refine B2 (b:=decide (n ≥ 1152921504606846976)) kr (fun hc17=>?_) (fun hc17=>?_)
       ·
        simp only [ge_iff_le,decide_eq_true_eq] at hc17; omega
       ·
        simp only [ge_iff_le,decide_eq_false_iff_not] at hc17
        refine A8 (A0 ?_)
        refine A1 (A2 ?_)
        refine C0 (E':=[⟨147,[],.int .u64 (IntKind.wrap .u64 (n * 16))⟩,⟨1,[],.int .i64 16⟩,⟨8,[],.bool false⟩,⟨9,[],.string s⟩,⟨10,[],.int .u64 1152921504606846976⟩,⟨11,[],.int .u64 4294967295⟩,⟨12,[],.bool false⟩,⟨13,[],.int .u64 n⟩,⟨16,[],.int .u8 (dgI ((s.data.toList.getD k 0).toNat:Int))⟩,⟨99,[],.slice (some ⟨b2,0,none⟩) s.size cap3⟩,⟨100,[],.int .i64 ((s.size:Nat):Int)⟩,⟨101,[],.int .i64 (k:Int)⟩]) (j:=4) [0,0,0,0] (k:=C4 (E':=[⟨147,[],.int .u64 (n * 16)⟩,⟨1,[],.int .i64 16⟩,⟨8,[],.bool false⟩,⟨9,[],.string s⟩,⟨10,[],.int .u64 1152921504606846976⟩,⟨11,[],.int .u64 4294967295⟩,⟨12,[],.bool false⟩,⟨13,[],.int .u64 n⟩,⟨16,[],.int .u8 (dgI ((s.data.toList.getD k 0).toNat:Int))⟩,⟨99,[],.slice (some ⟨b2,0,none⟩) s.size cap3⟩,⟨100,[],.int .i64 ((s.size:Nat):Int)⟩,⟨101,[],.int .i64 (k:Int)⟩]) (by rw [w64u (x:=n * 16) (by omega) (by omega)]) ?_)
        refine B0 [0] [1,8,9,10,11,12,13,16,99,100,101] (k:=A0 ?_)
        refine A1 ?_
        have hw18:IntKind.wrap .u64 (dgI ((s.data.toList.getD k 0).toNat:Int))=(dgI ((s.data.toList.getD k 0).toNat:Int)):=w64u (by omega) (by omega)
        refine A2 (C0 (E':=[⟨151,[],.int .u64 (IntKind.wrap .u64 ((n * 16)+(dgI ((s.data.toList.getD k 0).toNat:Int))))⟩,⟨1,[],.int .i64 16⟩,⟨8,[],.bool false⟩,⟨9,[],.string s⟩,⟨10,[],.int .u64 1152921504606846976⟩,⟨11,[],.int .u64 4294967295⟩,⟨12,[],.bool false⟩,⟨13,[],.int .u64 (n * 16)⟩,⟨99,[],.slice (some ⟨b2,0,none⟩) s.size cap3⟩,⟨100,[],.int .i64 ((s.size:Nat):Int)⟩,⟨101,[],.int .i64 (k:Int)⟩]) [0,0,0,0] (Eq.trans (b:=some [⟨151,[],.int .u64 (IntKind.wrap .u64 ((n * 16)+(IntKind.wrap .u64 (dgI ((s.data.toList.getD k 0).toNat:Int)))))⟩,⟨1,[],.int .i64 16⟩,⟨8,[],.bool false⟩,⟨9,[],.string s⟩,⟨10,[],.int .u64 1152921504606846976⟩,⟨11,[],.int .u64 4294967295⟩,⟨12,[],.bool false⟩,⟨13,[],.int .u64 (n * 16)⟩,⟨99,[],.slice (some ⟨b2,0,none⟩) s.size cap3⟩,⟨100,[],.int .i64 ((s.size:Nat):Int)⟩,⟨101,[],.int .i64 (k:Int)⟩]) kr (by simp only [hw18])) (j:=4) rfl ?_)
        refine C4 (E':=[⟨151,[],.int .u64 (n * 16+dgI ((s.data.toList.getD k 0).toNat:Int))⟩,⟨1,[],.int .i64 16⟩,⟨8,[],.bool false⟩,⟨9,[],.string s⟩,⟨10,[],.int .u64 1152921504606846976⟩,⟨11,[],.int .u64 4294967295⟩,⟨12,[],.bool false⟩,⟨13,[],.int .u64 (n * 16)⟩,⟨99,[],.slice (some ⟨b2,0,none⟩) s.size cap3⟩,⟨100,[],.int .i64 ((s.size:Nat):Int)⟩,⟨101,[],.int .i64 (k:Int)⟩]) (by rw [w64u (x:=n * 16+dgI ((s.data.toList.getD k 0).toNat:Int)) (by omega) (by omega)]) (B0 [0] [1,8,9,10,11,12,13,17,99,100,101] (k:=?_))
        refine A0 (A1 ?_)
        refine A1 (B7 (E':=[⟨1,[],.int .i64 16⟩,⟨8,[],.bool false⟩,⟨9,[],.string s⟩,⟨10,[],.int .u64 1152921504606846976⟩,⟨11,[],.int .u64 4294967295⟩,⟨12,[],.bool false⟩,⟨17,[],.int .u64 (n * 16+dgI ((s.data.toList.getD k 0).toNat:Int))⟩,⟨99,[],.slice (some ⟨b2,0,none⟩) s.size cap3⟩,⟨100,[],.int .i64 ((s.size:Nat):Int)⟩,⟨101,[],.int .i64 (k:Int)⟩,⟨159,[],.bool ((decide ((n * 16+dgI ((s.data.toList.getD k 0).toNat:Int))<(n * 16)))||(decide ((n * 16+dgI ((s.data.toList.getD k 0).toNat:Int)) > 4294967295)))⟩]) [0,0,0,0,0,0,0,5] [1,8,9,10,11,12,17,99,100,101,159] (k:=?_))
        refine A0 (B2 (b:=(decide ((n * 16+dgI ((s.data.toList.getD k 0).toNat:Int))<(n * 16)))||(decide ((n * 16+dgI ((s.data.toList.getD k 0).toNat:Int)) > 4294967295))) kr (fun hc19=>?_) (fun hc19=>?_))
        ·
         simp only [gt_iff_lt,Bool.or_eq_true,decide_eq_true_eq] at hc19; omega
        ·
         simp only [gt_iff_lt,Bool.or_eq_false_iff,decide_eq_false_iff_not] at hc19
         refine A8 (A0 ?_)
         refine G_p [0,0] [1,8,9,10,11,12,13,99,100,101] (k:=B8 ?_)
         refine A0 (A2 ?_)
         refine A4 (j:=1) [0] (k:=D5 163 ((k:Int)+1) (by omega) (by omega) kr ?_)
         refine B0 [0] [1,8,9,10,11,12,13,99,100,101] (k:=E6 (s':=(k+1,(n * 16+dgI ((s.data.toList.getD k 0).toNat:Int)))) [1,8,9,10,11,12,13,99,100,101] kr rfl ⟨(by dsimp only; omega),(by dsimp only; omega),(by dsimp only; rw [Int.pow_succ]; omega),(by dsimp only; rw [hV,J4 _ (show k<s.data.toList.length by rw [hlen]; omega),M9,hdg.1,if_neg (by omega),Int.mul_comm])⟩ (by dsimp only; omega))
     ·
      simp only [Bool.and_eq_false_iff,decide_eq_false_iff_not] at hc15
      refine A1 (G_p [0,0,0] [6,7] (k:=?_))
      refine A0 (B5 ?_)
      refine B4 (A3 ?_)
      refine B4 (A3 ?_)
      refine A3 (B4 ?_)
      refine A3 (C1 (H':=H) (fun w h=>(h.erase 0)) ?_)
      refine B6 [.tmp 6,.tmp 7] [.int .u64 0,.iface 270 (.int .i64 2)] (k:=?_)
      exact ⟨.inr ⟨numV_none hV (show k<s.data.toList.length by rw [hlen]; omega) (dg_no (by omega) (by omega) hcr (by decide)),rfl⟩,rfl⟩
  ·
   simp only [decide_eq_false_iff_not] at hc7
   refine G3 (A9 ?_)
   refine A9 (C5 ?_)
   refine A0 (A1 ?_)
   refine A1 (G_p [0,0,1,1,1,3] [13,169] (k:=?_))
   refine A0 (C2 kr ?_)
   refine A8 (A0 ?_)
   refine A1 (G_p [0,0,0] [6,7] (k:=?_))
   refine A0 (B5 ?_)
   refine C1 (H':=H) (fun w h=>(h.erase 0)) (B6 [.tmp 6,.tmp 7] [.int .u64 n,.nilIface] (k:=?_))
   exact ⟨.inl ⟨n,by rw [hV,List.drop_eq_nil_of_le (by rw [hlen]; omega),numV_nil],hn0,by rw [show s.size=k by omega]; exact hn1,rfl⟩,rfl⟩
end Go.Proofs.YtppgfiklmfoaeaaGreatDoor
namespace Go.Sw
def isIfT (P:Program) (t:TypeId):Bool:=match P.underlying t with | some (.interface _)=>true | _=>false
theorem isIfT_ms {P:Program} {t:TypeId} (h:isIfT P t=true):∃ ms,P.underlying t=some (.interface ms):=by
  unfold isIfT at h; split at h
  · rename_i ms he; exact ⟨ms,he⟩
  · cases h
def isIntT (P:Program) (t:TypeId):Bool:=match P.underlying t with | some (.int _)=>true | _=>false
theorem isIntT_k {P:Program} {t:TypeId} (h:isIntT P t=true):∃ k,P.underlying t=some (.int k):=by
  unfold isIntT at h; split at h
  · rename_i k he; exact ⟨k,he⟩
  · cases h
theorem run_ifNil {P:Program} (w:World) {t:TypeId} {ms:Array (String × TypeId)} {v:Value} {e ne:Bool} (ht:P.underlying t=some (.interface ms)) (hv:(v=.nilIface∧e=true)∨((∃ a b,v=.iface a b)∧e=false)) :
    (binOp (if ne then .neq else .eql) t v .nilIface).run P w=.ok (.bool (ne ^^ e)) w:=by
  have h:∀ d:Nat,(Op.equalIn (d+1) t v .nilIface).run P w=.ok e w:=fun d=>by
    rcases hv with ⟨rfl,rfl⟩ | ⟨⟨a,b,rfl⟩,rfl⟩ <;> simp [Op.equalIn,run_underlying ht]
  cases ne
  · show (binOp .eql t v .nilIface).run P w=_
    rcases hv with ⟨rfl,rfl⟩ | ⟨⟨a,b,rfl⟩,rfl⟩ <;> (simp only [binOp]; simp [Op.equal,Op.maxDepth,h 9999])
  · show (binOp .neq t v .nilIface).run P w=_
    rcases hv with ⟨rfl,rfl⟩ | ⟨⟨a,b,rfl⟩,rfl⟩ <;> (simp only [binOp]; simp [Op.equal,Op.maxDepth,h 9999])
theorem GL_ifNil {d:Bool} {P:Program} {ops:Array Oper} {i:Nat} {Q:D6} {n:Fr} {E:Env} {W0:World} {H:List Grp} {o:Oper} {ch:List (Nat × Bool)} {t t2:TypeId} {x:Operand} {v:Value} {e:Bool} (ne:Bool)
    (ho:ops[i]? = some o:=by exact rfl) (hop:o.op=.binOp (if ne then .neq else .eql) t x (.const .nilIface) t2:=by exact rfl) (hx:evO E ch x=some v:=by kernel_rfl) (ht:isIfT P t=true:=by kernel_rfl) (hv:(v=.nilIface∧e=true)∨((∃ a b,v=.iface a b)∧e=false))
    (hch:F1 ops E o.guard=some ch:=by kernel_rfl) (hd:H7 n ch o.dst=true:=by kernel_rfl) (hk:I0 E ch=true:=by kernel_rfl)
    (k:GL d P ops (i+1) Q n (Env.put E o.dst ch (.bool (ne ^^ e))) W0 H):GL d P ops i Q n E W0 H:=by
  refine G5 ho hch hd hk (fun r hr _ w hsat=>?_) k
  unfold execOp
  simp only [hop]
  rw [hr _ _ hx,hr (.const .nilIface) .nilIface rfl]
  obtain ⟨ms,ht⟩:=isIfT_ms ht
  have:=run_ifNil (P:=P) w (ne:=ne) ht hv
  have hg:(eqGuard (if ne then .neq else .eql) t x (.const .nilIface) v .nilIface).run P w=.ok () w:=by
    rcases hv with ⟨rfl,rfl⟩ | ⟨⟨a,b,rfl⟩,rfl⟩ <;> cases ne <;> cases x <;> rfl
  simp only [Sem.run_bind,hg,this,Result.andThen_ok]
  exact ⟨rfl,rfl⟩
theorem run_ifInt {P:Program} (w:World) {t tx:TypeId} {ms:Array (String × TypeId)} {k q:IntKind} (a b:Int)
    (ht:P.underlying t=some (.interface ms)) (hc:(P.info? tx).map (·.comparable)=some true) (hx:P.underlying tx=some (.int q)) :
    (binOp .eql t (.iface tx (.int k a)) (.iface tx (.int k b))).run P w=.ok (.bool (a==b)) w:=by
  cases hi:P.info? tx with
  | none=>simp [hi] at hc
  | some i =>
    have hcc:i.comparable=true:=by simpa [hi] using hc
    have h:∀ d:Nat,(Op.equalIn (d+2) t (.iface tx (.int k a)) (.iface tx (.int k b))).run P w=.ok (a==b) w:=fun d=>by
      simp [Op.equalIn,run_underlying ht,run_underlying hx,typeInfo,hi,hcc]
    simp only [binOp]
    simp [Op.equal,Op.maxDepth,h 9998]
theorem GL_ifInt {d:Bool} {P:Program} {ops:Array Oper} {i:Nat} {Q:D6} {n:Fr} {E:Env} {W0:World} {H:List Grp} {o:Oper} {ch:List (Nat × Bool)} {t t2 tx:TypeId} {x y:Operand} {kd:IntKind} {a b:Int}
    (ho:ops[i]? = some o) (hop:o.op=.binOp .eql t x y t2) (hx:evO E ch x=some (.iface tx (.int kd a))) (hy:evO E ch y=some (.iface tx (.int kd b))) (ht:isIfT P t=true) (hc:(P.info? tx).map (·.comparable)=some true) (hq:isIntT P tx=true)
    (hch:F1 ops E o.guard=some ch) (hd:H7 n ch o.dst=true) (hk:I0 E ch=true)
    (k:GL d P ops (i+1) Q n (Env.put E o.dst ch (.bool (a==b))) W0 H):GL d P ops i Q n E W0 H:=by
  refine G5 ho hch hd hk (fun r hr _ w hsat=>?_) k
  unfold execOp
  simp only [hop]
  rw [hr _ _ hx,hr _ _ hy]
  obtain ⟨ms,ht⟩:=isIfT_ms ht
  obtain ⟨q,hq⟩:=isIntT_k hq
  have:=run_ifInt (P:=P) w a b ht hc hq (k:=kd)
  have hg:(eqGuard .eql t x y (.iface tx (.int kd a)) (.iface tx (.int kd b))).run P w=.ok () w:=rfl
  simp only [Sem.run_bind,hg,this,Result.andThen_ok]
  exact ⟨rfl,rfl⟩
end Go.Sw
namespace Go.Esc
open Go.Lib Go.Sw
theorem eqB (s t:ByteArray):(s.toList==t.toList)=true ↔ s.data.toList=t.data.toList:=by rw [beq_iff_eq,Lib.toList_data,Lib.toList_data]
theorem eqBf (s t:ByteArray):(s.toList==t.toList)=false ↔ ¬ s.data.toList=t.data.toList:=by rw [← eqB,Bool.not_eq_true]
def G4 (s t:ByteArray):Bool:=decide ((s.size:Int) ≥ (t.size:Int))&&((s.extract 0 t.size).toList==t.toList)
theorem ext_list (s:ByteArray) (a b:Nat):(s.extract a b).data.toList=(s.data.toList.drop a).take (b - a):=by
  rw [ByteArray.data_extract,Array.toList_extract,List.extract_eq_take_drop]
theorem L9 (s:ByteArray) (a:Nat):(s.extract a s.size).data.toList=s.data.toList.drop a:=by
  rw [ext_list,List.take_of_length_le]
  rw [List.length_drop,Array.length_toList]; exact Nat.le_refl _
theorem ext_take (s:ByteArray) (b:Nat):(s.extract 0 b).data.toList=s.data.toList.take b:=by rw [ext_list,List.drop_zero,Nat.sub_zero]
theorem E0 (s:ByteArray):s.data.toList.length=s.size:=Array.length_toList
theorem L2 (s t:ByteArray):G4 s t=true ↔ s.data.toList.take t.size=t.data.toList:=by
  unfold G4
  rw [Bool.and_eq_true,decide_eq_true_eq,eqB,ext_take]
  refine ⟨fun h=>h.2,fun h=>⟨?_,h⟩⟩
  have:=congrArg List.length h
  rw [List.length_take,E0,E0] at this
  omega
theorem K6 (s t:ByteArray):G4 s t=false ↔ ¬ s.data.toList.take t.size=t.data.toList:=by rw [← L2,Bool.not_eq_true]
theorem J2 (s:ByteArray) (k:Nat):A7 s (k:Int)=((s.data.toList.getD k 0).toNat:Int):=by unfold A7; rw [Int.toNat_natCast,List.getD_eq_getElem?_getD]
end Go.Esc
namespace Go.Proofs.YtppgfiklmfoaeaaGreatDoor
open Go.Sw Go.Sha Go.Esc Go.RowKit
theorem Tri_ex {P:Program} {f:FuncId} {args:Array Value} {W0:World} {H:List Grp} {K:Value→Prop}
    (h:∀ w,Sat W0 H w→Calls P f args w fun e w'=>(∃ v,e=.returned v∧K v)∧Below w.heap.size w w'):Tri P f args W0 H (fun u H'=>K u∧H'=H) :=
  fun w hs=>(h w hs).mono fun e w' ⟨⟨v,he,hk⟩,hb⟩=>⟨v,H,he,⟨hk,rfl⟩,by
    have hlt:∀ p,p∈H.flatten→p.1<w.heap.size:=fun p hp=>by
      have:=hs.has p hp
      rcases Nat.lt_or_ge p.1 w.heap.size with h' | h'
      · exact h'
      · simp [Array.getElem?_eq_none h'] at this
    exact ⟨hs.below.trans (hb.mono hs.below.size),hs.nodup,fun p hp=>by rw [hb.block _ (hlt p hp)]; exact hs.has p hp,hs.high⟩⟩
structure F2 (W0:World):Prop where
  err:∃ ev,4<W0.heap.size∧W0.cell? ⟨4,0,none⟩=some ev∧(ev=.nilIface∨∃ te pe,ev=.iface te pe)
  tz:∃ c e fz,7<W0.heap.size∧W0.heap[7]? = some (.cells c e fz)∧c[15]? = some (.int .u8 4)
  utf:Lib.Utf8Tabs 0 1 W0
theorem cell_base {W0:World} {H:List Grp} {w:World} (hs:Sat W0 H w) {b off:Nat} {v:Value} (hb:b<W0.heap.size) (h:W0.cell? ⟨b,off,none⟩=some v):w.cell? ⟨b,off,none⟩=some v:=by
  rw [← h]; unfold World.cell?; simp only [hs.below.block b hb]
theorem synErr (fn s:ByteArray) (hs:s.size≤281474976710656) (W0:World) (H:List Grp) (hW:F2 W0):Tri Tryz.prog 232 #[.string fn,.string s] W0 H (fun v H'=>(∃ N,v=pt N)∧H'=H) :=
  Tri_ex (fun w hw=>by
    obtain ⟨ev,h1,h2,h3⟩:=hW.err
    exact (Tryz.strconv_syntaxError fn s ev w hs (cell_base hw h1 h2) h3).mono fun e w' ⟨N,h1,_,_,h4⟩=>⟨⟨_,h1,N,rfl⟩,h4⟩)
theorem toErr_ (fn s:ByteArray) (hs:s.size≤1000000000000) (b c:Int) (W0:World) (H:List Grp) (hW:F2 W0):Tri Tryz.prog 214 #[.string fn,.string s,.int .i64 b,.int .i64 c,.iface 270 (.int .i64 2)] W0 H (fun v H'=>(∃ N,v=.iface 272 (pt N))∧H'=H):=by
 refine C6 (args:=[.string fn,.string s,.int .i64 b,.int .i64 c,.iface 270 (.int .i64 2)]) (n:=43) Tryz.func214 rfl rfl (Nat.le_of_ble_eq_true rfl) ?_
 refine A1 (G_p [0] [0,1,2,3,4] (k:=?_))
 refine A0 (A1 ?_)
 refine A1 (G_p [0] [0,1,2,3,4,11] (k:=?_))
 refine A0 (B9 ?_)
 refine A1 (A2 ?_)
 refine A4 (j:=1) [0] (k:=GL_ifInt (i:=1) (ch:=[]) (tx:=270) (kd:=.i64) (a:=2) (b:=2) rfl rfl kr kr kr kr kr kr kr kr ?_)
 refine B0 [0] [0,1,2,3,4,11,12] (k:=A0 ?_)
 refine E8 kr (A1 ?_)
 refine A2 (A4 (j:=2) [0,0] (k:=?_))
 refine D8 Tryz.func232 (synErr fn s (by omega) _ _ hW) ?_
 rintro _ _ ⟨⟨N,rfl⟩,rfl⟩
 refine B1 (E':=[⟨10,[],.iface 272 (pt N)⟩]) [0,0] [10] (k:=A0 ?_)
 refine B5 (B4 ?_)
 refine A3 (B6 [.tmp 10] [.iface 272 (pt N)] (k:=?_))
 exact ⟨⟨N,rfl⟩,rfl⟩
theorem parse16_ (s:ByteArray) (h0:0<s.size) (hs:s.size≤7) (W0:World) (H:List Grp) (hW:F2 W0):Tri Tryz.prog 191 #[.string s,.int .i64 16,.int .i64 32] W0 H (fun v H'=>((∃ n,numV 16 0 s.data.toList=some n∧0≤n∧n<16 ^ s.size∧v=.tuple #[.int .u64 n,.nilIface])∨(numV 16 0 s.data.toList=none∧∃ N,v=.tuple #[.int .u64 0,.iface 272 (pt N)]))∧H'=H):=by
 refine C6 (args:=[.string s,.int .i64 16,.int .i64 32]) (n:=26) Tryz.func191 rfl rfl (Nat.le_of_ble_eq_true rfl) ?_
 refine A1 (G_p [0,0] [0,1,2] (k:=?_))
 refine A0 (A1 ?_)
 refine A2 (A4 (j:=3) [0,0,0] (k:=?_))
 refine D8 Tryz.func213 (inner16_ s h0 hs _ _) ?_
 rintro _ _ ⟨⟨n,hV,hn0,hn1,rfl⟩ | ⟨hV,rfl⟩,rfl⟩
 ·
  refine B0 [0,0,0,0,0] [0,1,2,8,9] (k:=A0 ?_)
  refine A1 (A1 ?_)
  refine A2 (A4 (j:=1) [0] (k:=?_))
  refine GL_ifNil (ch:=[]) (v:=.nilIface) (e:=true) true (hv:=.inl ⟨rfl,rfl⟩) (k:=B0 [] [0,1,2,8,9,18] (k:=?_))
  refine A0 (C2 kr ?_)
  refine A8 (A0 ?_)
  refine A1 (G_p [0,0,0] [6,7] (k:=?_))
  refine A0 (B5 ?_)
  refine B6 [.tmp 6,.tmp 7] [.int .u64 n,.nilIface] (k:=?_)
  exact ⟨.inl ⟨n,hV,hn0,hn1,rfl⟩,rfl⟩
 ·
  refine B0 [0,0,0,0,0] [0,1,2,8,9] (k:=A0 ?_)
  refine A1 (A1 ?_)
  refine A2 (A4 (j:=1) [0] (k:=?_))
  refine GL_ifNil (ch:=[]) (v:=.iface 270 (.int .i64 2)) (e:=false) true (hv:=.inr ⟨⟨_,_,rfl⟩,rfl⟩) (k:=B0 [] [0,1,2,8,9,18] (k:=?_))
  refine A0 (E8 kr ?_)
  refine A1 (A2 ?_)
  refine A4 (j:=5) [0,0,0,0,0] (k:=D8 Tryz.func214 (toErr_ (ByteArray.mk #[80,97,114,115,101,85,105,110,116]) s (by omega) 16 32 _ _ hW) ?_)
  rintro _ _ ⟨⟨N,rfl⟩,rfl⟩
  refine B0 [0,0] [6,7] (k:=A0 ?_)
  refine B5 (A3 ?_)
  refine B6 [.tmp 6,.tmp 7] [.int .u64 0,.iface 272 (pt N)] (k:=?_)
  exact ⟨.inr ⟨hV,N,rfl⟩,rfl⟩
theorem idx0_ (s:ByteArray) (c:Int) (W0:World) (H:List Grp):Tri Tryz.prog 186 #[.string s,.int .u8 c] W0 H (fun v H'=>v=.int .i64 (bIdx s c)∧H'=H):=by
 refine C6 (args:=[.string s,.int .u8 c]) (n:=8) Tryz.func186 rfl rfl (Nat.le_of_ble_eq_true rfl) ?_
 refine A1 (G_p [0] [0,1] (k:=?_))
 refine A0 (A1 ?_)
 refine A2 (A4 (j:=2) [0,0] (k:=?_))
 refine GL_extern (i:=2) (ch:=[]) (f:=205) (vs:=[.string s,.int .u8 c]) (v:=.int .i64 (bIdx s c)) (e:=Extern.BytealgIndexByte.indexByte) rfl rfl rfl kr kr Tryz.func205 kr rfl kr kr kr kr kr (fun w=>run_indexByte_string s c w) (B1 (E':=[⟨4,[],.int .i64 (bIdx s c)⟩]) [0] [4] (k:=?_))
 refine A0 (B5 ?_)
 refine B6 [.tmp 4] [.int .i64 (bIdx s c)] (k:=?_)
 exact ⟨rfl,rfl⟩
theorem idx_ (s:ByteArray) (c:Int) (W0:World) (H:List Grp):Tri Tryz.prog 168 #[.string s,.int .u8 c] W0 H (fun v H'=>v=.int .i64 (bIdx s c)∧H'=H):=by
 refine C6 (args:=[.string s,.int .u8 c]) (n:=8) Tryz.func168 rfl rfl (Nat.le_of_ble_eq_true rfl) ?_
 refine A1 (G_p [0] [0,1] (k:=?_))
 refine A0 (A1 ?_)
 refine A2 (A4 (j:=2) [0,0] (k:=?_))
 refine H4 Tryz.func186 (idx0_ s c _ _) (B1 (E':=[⟨4,[],.int .i64 (bIdx s c)⟩]) [0] [4] (k:=?_))
 refine A0 (B5 ?_)
 refine B6 [.tmp 4] [.int .i64 (bIdx s c)] (k:=?_)
 exact ⟨rfl,rfl⟩
end Go.Proofs.YtppgfiklmfoaeaaGreatDoor
namespace Go.Proofs.YtppgfiklmfoaeaaGreatDoor
open Go.Sw Go.Esc Go.RowKit
theorem cell_lt {w:World} {b off:Nat} {v:Value} (h:w.cell? ⟨b,off,none⟩=some v):b<w.heap.size:=by
  rcases Nat.lt_or_ge b w.heap.size with h' | h'
  · exact h'
  · unfold World.cell? at h
    simp only [Array.getElem?_eq_none h'] at h
    cases h
theorem tabs_sat {W0:World} {H:List Grp} {w:World} {g3 g4:Nat} (h:Lib.Utf8Tabs g3 g4 W0) (hs:Sat W0 H w):Lib.Utf8Tabs g3 g4 w:=by
  have c:∀ {b off:Nat} {v:Value},W0.cell? ⟨b,off,none⟩=some v→w.cell? ⟨b,off,none⟩=some v:=fun h=>cell_base hs (cell_lt h) h
  exact ⟨fun q hq=>c (h.1 q hq),fun i hi=>⟨c (h.2 i hi).1,c (h.2 i hi).2⟩⟩
theorem validStr (s:ByteArray) (hs:s.size≤1000000000000) (W0:World) (H:List Grp) (hW:F2 W0):Tri Tryz.prog 97 #[.string s] W0 H (fun v H'=>v=.bool (D2 s.data.toList)∧H'=H):=by
  rw [validP_D]
  exact Tri_below (fun w hw=>Any.utf8_ValidString Tryz.laysValid s w (by omega) (tabs_sat hW.utf hw))
end Go.Proofs.YtppgfiklmfoaeaaGreatDoor
namespace Go.Proofs.YtppgfiklmfoaeaaGreatDoor
open Go Go.ChangeShapes Go.WideShapes Go.ChangeAt Go.RowKit Go.Sw Go.Lib Go.Shelf Go.Proofs
theorem frozen_below {W W':World} (h:Below W.heap.size W W') {a:Addr} (ha:a.block<W.heap.size):W'.frozen? a=W.frozen? a:=by
  unfold World.frozen?
  rw [h.block _ ha]
theorem post_below {H:Type} {enc:TypeId × Value→H} {P:Program} {f:Func} {s:ChangeSpec} {apart fresh handsOn again:Bool} {W W':World} {args:Array Value} {v:Value} {ds gs:List (DataW H)} {before pa pv:List MemPlace}
    (hW:DataW.Whole enc P f.params.toList s.vars apart W args.toList ds gs before)
    (hres:∀ (b:Nat) (sp:Nat→Bool) (hd:Bool),DataW.TrodAll enc P W' b sp hd f.resultTypes.toList (v.resultList f.resultTypes.size) (s.fn H (ds++gs)).results [])
    (hargs:∀ sp:Nat→Bool,(∀ p∈before,sp p.block=true)→DataW.TrodAll enc P W' 0 sp true f.params.toList args.toList (s.fn H (ds++gs)).args pa)
    (hvars:∀ sp:Nat→Bool,(∀ p∈before,sp p.block=true)→DataW.TrodVars enc P W' sp s.vars (s.fn H (ds++gs)).vars pv)
    (hps:before=pa++pv) (hb:Below W.heap.size W W')
    (hok:∀ (j:Nat) (t:TypeId) (r:Value),f.resultTypes[j]? = some t→(v.resultList f.resultTypes.size)[j]? = some r→Value.okWide P W' .any 0 t r) :
    s.post enc P f apart fresh handsOn again W args v W':=by
  have hold:∀ p∈before,(fun b=>decide (b<W.heap.size)) p.block=true:=fun p hp=>by simpa using hW.lt p hp
  have hlt:=hW.lt
  refine ⟨ds,gs,before,[],pa,pv,hW,hres _ _ _,hargs _ hold,hvars _ hold,hb.frame _,fun _=>?_⟩
  obtain ⟨_,_,_,_,_,hz,hn⟩:=hW
  refine ⟨hok,_,_,([]++pa)++pv,⟨[]++pa,pv,trodAll_append (hargs _ (fun _ _=>rfl)) (hres _ _ _),hvars _ (fun _ _=>rfl),rfl,?_,?_⟩,?_⟩
  · intro b off hp
    have hp':MemPlace.cell b off∈before:=by rw [hps]; simpa using hp
    rw [frozen_below hb (hlt _ hp')]
    exact hz b off hp'
  · intro ha
    have:=hn ha
    rw [hps] at this
    simpa using this
  · intro p hp _
    rw [hps]
    simpa using hp
theorem N1 {P:Program} {x:String × DataW Unit} {r:List (String × DataW Unit)} {W:World} (h:laidMet P (x::r) W):laidMet P r W:=by
  obtain ⟨ps,⟨g,t,cs,fuel,p,q,_,_,_,_,h5,h6⟩,hn,hc⟩:=h
  subst h6
  exact ⟨q,h5,(List.nodup_append.1 hn).2.1,fun b off hm=>hc b off (List.mem_append_right _ hm)⟩
theorem sat_nil (W:World):Sat W [] W:=⟨Below.refl _ _,by simp,by simp,by simp⟩
theorem eStar : "*" ++ "errors.errorString" = "*errors.errorString" := by decide
theorem eRow (u : TypeId) (h : Tryz.prog.typeName? 3 u = some "*errors.errorString") : u = 292 :=
  typeName_ptr_named (nm := "errors.errorString") (by rw [eStar]; kernel_rfl) (by kernel_rfl) (by decide) u (by rw [eStar]; exact h)
theorem eGlob : Tryz.prog.globalNamed "strconv.ErrSyntax" = some 4 := by kernel_rfl
theorem eU8:U8Extra Tryz.prog Tryz.laysValid_ren:={ n3:=by kernel_rfl,n4:=by kernel_rfl,y3:=by kernel_rfl,y4:=by kernel_rfl,c5:=by kernel_rfl,c119:=by kernel_rfl,c138:=by kernel_rfl }
def de64:List Int:=[0,1,56,2,57,49,28,3,61,58,42,50,38,29,17,4,62,47,59,36,45,43,51,22,53,39,33,30,24,18,12,5,63,55,48,27,60,41,37,16,46,35,44,21,52,32,23,11,54,26,40,15,34,20,31,10,25,14,19,9,13,8,7,6]
theorem eTz : Tryz.prog.globalNamed "math/bits.deBruijn64tab" = some 7 := by kernel_rfl
theorem base_of {W : World} (h : laidMet Tryz.prog [("math/bits.deBruijn32tab", Rows.laid_math_bits_deBruijn32tab), ("math/bits.deBruijn64tab", Rows.laid_math_bits_deBruijn64tab), ("internal/strconv.uint64pow10", Rows.laid_internal_strconv_uint64pow10), ("unicode/utf8.acceptRanges", Rows.laid_unicode_utf8_acceptRanges), ("strconv.ErrRange", Rows.laid_strconv_ErrRange), ("strconv.ErrSyntax", Rows.laid_strconv_ErrSyntax), ("unicode/utf8.first", Rows.laid_unicode_utf8_first)] W) : F2 W := by
  have h2:=N1 h
  have h6:=N1 (N1 (N1 (N1 h2)))
  refine ⟨?_,?_,?_⟩
  · obtain ⟨a0,s0,hv0,-,-,-⟩:=laid_sentinel h6 eGlob (ti:=120) (tp:=292) (te:=294) (ts:=9) (by kernel_rfl) Tryz.underlying120 eRow Tryz.underlying292 Tryz.underlying294 rfl rfl Tryz.underlying9 (by kernel_rfl) (by kernel_rfl)
    have hc:W.cell? ⟨4,0,none⟩=some (.iface 292 (.pointer (some a0))):=by
      have h0:=World.var?_cell eGlob hv0 0; simpa using h0
    exact ⟨_,cell_lt hc,hc,.inr ⟨_,_,rfl⟩⟩
  · have hT : Lib.TabIs Tryz.prog W "math/bits.deBruijn64tab" .u8 de64 := by
      rw [show Rows.laid_math_bits_deBruijn64tab=Lib.tabData .u8 de64 from by kernel_rfl] at h2
      exact Lib.tabIs_of_head (t:=289) (e:=5) (n:=64) eTz (by kernel_rfl) (by kernel_rfl) (by kernel_rfl) (by kernel_rfl) (by kernel_rfl) h2
    unfold Lib.TabIs World.var? at hT
    rw [eTz] at hT
    simp only [Option.bind_some] at hT
    cases hb:W.heap[7]? with
    | none=>rw [hb] at hT; cases hT
    | some ob =>
      rw [hb] at hT
      cases ob with
      | cells c e fz =>
        have hlt:7<W.heap.size:=(Array.getElem?_eq_some_iff.1 hb).1
        simp only [Option.some.injEq] at hT
        subst hT
        exact ⟨_,_,_,hlt,rfl,by rfl⟩
      | _=>cases hT
  · have h3 := laidMet.reads h (n := "unicode/utf8.first") (d := Rows.laid_unicode_utf8_first) (by simp)
    have h4 := laidMet.reads h (n := "unicode/utf8.acceptRanges") (d := Rows.laid_unicode_utf8_acceptRanges) (by simp)
    rw [show Rows.laid_unicode_utf8_first=Lib.firstData from by kernel_rfl] at h3
    rw [show Rows.laid_unicode_utf8_acceptRanges=Lib.acceptData from by kernel_rfl] at h4
    exact utf8Tabs_of_readsT (U8Types.of196 Tryz.laysValid) eU8 h3 h4
end Go.Proofs.YtppgfiklmfoaeaaGreatDoor
namespace Go.Esc
open Go.Lib Go.Sw
theorem numV_rng {base:Int} (hb:10≤base∧base≤16):∀ (l:List UInt8) (a n:Int),0≤a→numV base a l=some n→0≤n∧n<(a+1) * 16 ^ l.length
  | [],a,n,ha,h=>by
    rw [numV_nil] at h; injection h with h; subst h
    simp only [List.length_nil,Int.pow_zero]; omega
  | c::t,a,n,ha,h=>by
    rw [M9] at h
    split at h
    · cases h
    · rename_i hd
      have hr:=digB_rng (c.toNat:Int) base (by omega)
      have h1:0≤base * a:=Int.mul_nonneg (by omega) ha
      have h2:base * a≤16 * a:=Int.mul_le_mul_of_nonneg_right (by omega) ha
      obtain ⟨h3,h4⟩:=numV_rng hb t _ n (by omega) h
      refine ⟨h3,Int.lt_of_lt_of_le h4 ?_⟩
      rw [List.length_cons,Int.pow_succ,Int.mul_comm (16 ^ t.length) 16,← Int.mul_assoc]
      exact Int.mul_le_mul_of_nonneg_right (by omega) (Int.pow_nonneg (by decide))
theorem unitM_rng (l:List UInt8):-1≤G9 l∧G9 l≤65535:=by
  unfold G9
  split
  · exact ⟨by decide,by decide⟩
  · cases h:numV 16 0 ((l.drop 2).take 4) with
    | none=>exact ⟨by decide,by decide⟩
    | some n =>
      obtain ⟨h1,h2⟩:=numV_rng (by decide) _ _ _ (Int.le_refl 0) h
      have h3:(16:Int) ^ ((l.drop 2).take 4).length≤16 ^ 4:=by
        have:(16:Nat) ^ ((l.drop 2).take 4).length≤16 ^ 4:=Nat.pow_le_pow_right (by decide) (by rw [List.length_take]; omega)
        have e:∀ k:Nat,((16 ^ k:Nat):Int)=(16:Int) ^ k:=fun k=>by simp
        rw [← e,← e]; exact Int.ofNat_le.2 this
      show -1≤n∧n≤65535
      have h4:(16:Int) ^ 4=65536:=by decide
      rw [h4] at h3
      omega
theorem unitM_len {l:List UInt8} (h:0≤G9 l):6≤l.length:=by
  unfold G9 at h
  split at h
  · exact absurd h (by decide)
  · rename_i hn
    rcases Nat.lt_or_ge l.length 6 with h6 | h6
    · exact absurd (.inl h6) hn
    · exact h6
theorem oneEsc_rng (c:UInt8):-1≤O9 c∧O9 c≤92:=by unfold O9; (repeat' split) <;> omega
theorem escM_pos {l:List UInt8} (h:0≤(G2 l).1):2≤(G2 l).2∧(G2 l).2≤l.length∧isR (G2 l).1:=by
  have hu:=unitM_rng l
  have hv:=unitM_rng (l.drop 6)
  have ho:=oneEsc_rng (l.getD 1 0)
  unfold G2 at h ⊢
  by_cases c1:l.length<2
  · rw [if_pos c1] at h; exact absurd h (by decide)
  rw [if_neg c1] at h ⊢
  by_cases c2:0≤O9 (l.getD 1 0)
  · rw [if_pos c2]; unfold isR; exact ⟨Nat.le_refl _,by omega,by dsimp only; omega,by dsimp only; omega,by dsimp only; omega⟩
  rw [if_neg c2] at h ⊢
  by_cases c3:55296≤G9 l∧G9 l<56320
  · rw [if_pos c3] at h ⊢
    by_cases c4:G9 (l.drop 6)<56320∨57343<G9 (l.drop 6)
    · rw [if_pos c4] at h; exact absurd h (by decide)
    · rw [if_neg c4]
      have h6:=unitM_len (l:=l.drop 6) (by omega)
      rw [List.length_drop] at h6
      unfold isR
      exact ⟨by dsimp only; omega,by dsimp only; omega,by dsimp only; omega,by dsimp only; omega,by dsimp only; omega⟩
  rw [if_neg c3] at h ⊢
  by_cases c5:56320≤G9 l∧G9 l<57344
  · rw [if_pos c5] at h; exact absurd h (by decide)
  rw [if_neg c5] at h ⊢
  have h6:=unitM_len (l:=l) h
  unfold isR
  exact ⟨by dsimp only; omega,by dsimp only; omega,by dsimp only; omega,by dsimp only; omega,by dsimp only; omega⟩
theorem ujF_nil:∀ n,ujF n []=some []
  | 0=>rfl
  | _+1=>rfl
theorem ujF_fuel:∀ (n m:Nat) (l:List UInt8),l.length≤n→l.length≤m→ujF n l=ujF m l
  | _,_,[],_,_=>by rw [ujF_nil,ujF_nil]
  | 0,_,_::_,h,_=>by simp at h
  | _+1,0,_::_,_,h=>by simp at h
  | n+1,m+1,c::t,hn,hm=>by
    simp only [List.length_cons] at hn hm
    simp only [ujF]
    rw [ujF_fuel n m t (by omega) (by omega)]
    by_cases hp:(G2 (c::t)).1<0
    · rw [if_pos hp,if_pos hp]
    · have:=escM_pos (l:=c::t) (by omega)
      rw [if_neg hp,if_neg hp,ujF_fuel n m ((c::t).drop (G2 (c::t)).2) (by rw [List.length_drop,List.length_cons]; omega) (by rw [List.length_drop,List.length_cons]; omega)]
theorem ujL_nil:ujL []=some []:=rfl
theorem Q2 (c:UInt8) (t:List UInt8):ujL (c::t)=if c<32∨c=34 then none else if c≠92 then (ujL t).map (c::·) else if (G2 (c::t)).1<0 then none else (ujL ((c::t).drop (G2 (c::t)).2)).map (encodeRune (G2 (c::t)).1++·):=by
  show ujF (t.length+1) (c::t)=_
  simp only [ujF]
  by_cases hp:(G2 (c::t)).1<0
  · rw [if_pos hp,if_pos hp]; rfl
  · have:=escM_pos (l:=c::t) (by omega)
    rw [if_neg hp,if_neg hp,ujF_fuel t.length ((c::t).drop (G2 (c::t)).2).length _ (by rw [List.length_drop,List.length_cons]; omega) (Nat.le_refl _)]; rfl
def unjM (l:List UInt8):Option (List UInt8) :=
  if l.length<2∨l.getD 0 0≠34∨l.getD (l.length - 1) 0≠34∨D2 l=false then none else ujL ((l.drop 1).take (l.length - 2))
def unjV:Option (List UInt8)→Value
  | some t=>.tuple #[.string (bk t),.int .i64 0]
  | none=>.tuple #[.string (ByteArray.mk #[]),.int .i64 20]
theorem drop0 {s:ByteArray} {b:UInt8} (h:0<s.size) (hb:b=s.data.toList.getD 0 0):s.data.toList=b::s.data.toList.drop 1:=by
  have:=J4 s.data.toList (k:=0) (by rw [E0]; exact h)
  rw [List.drop_zero] at this; rw [hb]; exact this
theorem ujA {s:ByteArray} {b:UInt8} (h:0<s.size) (hb:b=s.data.toList.getD 0 0) (hc:(b.toNat:Int)<32∨(b.toNat:Int)=34):ujL s.data.toList=none:=by
  rw [drop0 h hb,Q2,if_pos]
  rcases hc with hc | hc
  · exact .inl (UInt8.lt_iff_toNat_lt.2 (by show b.toNat<32; omega))
  · exact .inr (UInt8.toNat_inj.1 (by show b.toNat=34; omega))
theorem uj_no {b:UInt8} (hc:¬ ((b.toNat:Int)<32∨(b.toNat:Int)=34)):¬ (b<32∨b=34):=by
  rintro (h | h)
  · have:=UInt8.lt_iff_toNat_lt.1 h; exact hc (.inl (by have:b.toNat<32:=this; omega))
  · subst h; exact hc (.inr rfl)
theorem ujB {s:ByteArray} {b:UInt8} (h:0<s.size) (hb:b=s.data.toList.getD 0 0) (hc:¬ ((b.toNat:Int)<32∨(b.toNat:Int)=34)) (h2:(b.toNat:Int)≠92):ujL s.data.toList=(ujL (s.extract 1 s.size).data.toList).map (b::·):=by
  rw [L9]
  conv=>lhs; rw [drop0 h hb]
  rw [Q2,if_neg (uj_no hc),if_pos (by rintro rfl; exact h2 rfl)]
theorem ujC {s:ByteArray} {b:UInt8} (h:0<s.size) (hb:b=s.data.toList.getD 0 0) (h2:(b.toNat:Int)=92) :
    ((G2 s.data.toList).1<0→ujL s.data.toList=none)∧(¬ (G2 s.data.toList).1<0→ujL s.data.toList=(ujL (s.extract (G2 s.data.toList).2 s.size).data.toList).map (encodeRune (G2 s.data.toList).1++·)):=by
  have hb92:b=92:=UInt8.toNat_inj.1 (by show b.toNat=92; omega)
  have e:=drop0 h hb
  rw [L9]
  generalize s.data.toList=l at e ⊢
  subst hb92
  have hn:¬ ((92:UInt8)<32∨(92:UInt8)=34):=by decide
  refine ⟨fun hr=>?_,fun hr=>?_⟩
  · rw [e] at hr ⊢
    rw [Q2,if_neg hn,if_neg (by decide),if_pos hr]
  · rw [e] at hr ⊢
    rw [Q2,if_neg hn,if_neg (by decide),if_neg hr]
theorem map_app {o:Option (List UInt8)} {a b c:List UInt8} (h:c=a++b):(o.map (b++·)).map (a++·)=o.map (c++·):=by subst h; cases o <;> simp
theorem map_one {o:Option (List UInt8)} {a c:List UInt8} {b:UInt8} (h:c=a++[b]):(o.map (b::·)).map (a++·)=o.map (c++·):=by subst h; cases o <;> simp
theorem takeTwo {s:ByteArray} (h:2≤s.size):s.data.toList.take 2=[s.data.toList.getD 0 0,s.data.toList.getD 1 0]:=by
  have h1:=J4 s.data.toList (k:=0) (by rw [E0]; omega)
  have h2:=J4 s.data.toList (k:=1) (by rw [E0]; omega)
  rw [List.drop_zero] at h1
  conv=>lhs; rw [h1,h2]
  rfl
theorem byte0 (s:ByteArray):A7 s 0=((s.data.toList.getD 0 0).toNat:Int):=J2 s 0
theorem byte1 (s:ByteArray):A7 s 1=((s.data.toList.getD 1 0).toNat:Int):=J2 s 1
theorem unit_no {s:ByteArray} (h:(s.size:Int)<6∨A7 s 0≠92∨A7 s 1≠117):G9 s.data.toList=-1:=by
  unfold G9
  rw [if_pos]
  rw [E0]
  by_cases h6:s.size<6
  · exact .inl h6
  · refine .inr ?_
    rw [takeTwo (by omega)]
    intro he
    injection he with h1 h2; injection h2 with h2 _
    rw [byte0,byte1,h1,h2] at h
    rcases h with h | h | h
    · omega
    · exact h rfl
    · exact h rfl
theorem unit_yes {s:ByteArray} (h6:¬ (s.size:Int)<6) (h0:A7 s 0=92) (h1:A7 s 1=117):G9 s.data.toList=(numV 16 0 (s.extract 2 6).data.toList).getD (-1):=by
  unfold G9
  rw [if_neg,ext_list]
  rw [E0]
  rintro (h | h)
  · omega
  · apply h
    rw [takeTwo (by omega),show s.data.toList.getD 0 0=92 from UInt8.toNat_inj.1 (by rw [byte0] at h0; show _=92; omega),show s.data.toList.getD 1 0=117 from UInt8.toNat_inj.1 (by rw [byte1] at h1; show _=117; omega)]
theorem one8:∀ n:Fin 256,bIdx (ByteArray.mk #[34,92,47,98,102,110,114,116]) (n.val:Int)<8∧(0≤bIdx (ByteArray.mk #[34,92,47,98,102,110,114,116]) (n.val:Int)→A7 (ByteArray.mk #[34,92,47,8,12,10,13,9]) (bIdx (ByteArray.mk #[34,92,47,98,102,110,114,116]) (n.val:Int))=O9 (UInt8.ofNat n.val)∧0≤O9 (UInt8.ofNat n.val))∧(¬ 0≤bIdx (ByteArray.mk #[34,92,47,98,102,110,114,116]) (n.val:Int)→O9 (UInt8.ofNat n.val)=-1):=by decide +kernel
theorem one_at (b:UInt8):bIdx (ByteArray.mk #[34,92,47,98,102,110,114,116]) (b.toNat:Int)<8∧(0≤bIdx (ByteArray.mk #[34,92,47,98,102,110,114,116]) (b.toNat:Int)→A7 (ByteArray.mk #[34,92,47,8,12,10,13,9]) (bIdx (ByteArray.mk #[34,92,47,98,102,110,114,116]) (b.toNat:Int))=O9 b∧0≤O9 b)∧(¬ 0≤bIdx (ByteArray.mk #[34,92,47,98,102,110,114,116]) (b.toNat:Int)→O9 b=-1):=by
  have:=one8 ⟨b.toNat,b.toNat_lt⟩
  simpa using this
theorem byteL {s:ByteArray} (h:2≤s.size):A7 s ((s.size:Int) - 1)=((s.data.toList.getD (s.data.toList.length - 1) 0).toNat:Int):=by
  rw [show (s.size:Int) - 1=((s.size - 1:Nat):Int) by omega,J2,E0]
theorem unj_no {s:ByteArray} (h:(((s.size:Int)<2∨¬ A7 s 0=34)∨¬ A7 s ((s.size:Int) - 1)=34)∨D2 s.data.toList=false):unjM s.data.toList=none:=by
  unfold unjM
  rw [if_pos]
  rcases Nat.lt_or_ge s.size 2 with h2 | h2
  · left; rw [E0]; exact h2
  rw [byte0,byteL h2] at h
  rcases h with ((h | h) | h) | h
  · omega
  · exact .inr (.inl fun he=>h (by rw [he]; rfl))
  · exact .inr (.inr (.inl fun he=>h (by rw [he]; rfl)))
  · exact .inr (.inr (.inr h))
theorem unj_yes {s:ByteArray} (h2:¬ (s.size:Int)<2) (h0:A7 s 0=34) (hl:A7 s ((s.size:Int) - 1)=34) (hv:D2 s.data.toList=true):unjM s.data.toList=(ujL (s.extract 1 (Int.toNat ((s.size:Int) - 1))).data.toList).map (ByteArray.empty.data.toList++·):=by
  have h2':2≤s.size:=by omega
  rw [byte0] at h0; rw [byteL h2'] at hl
  unfold unjM
  rw [if_neg,ext_list,show Int.toNat ((s.size:Int) - 1) - 1=s.data.toList.length - 2 by rw [E0]; omega]
  · cases ujL ((s.data.toList.drop 1).take (s.data.toList.length - 2)) <;> rfl
  · rintro (h | h | h | h)
    · rw [E0] at h; omega
    · exact h (UInt8.toNat_inj.1 (by show _=34; omega))
    · exact h (UInt8.toNat_inj.1 (by show _=34; omega))
    · rw [hv] at h; cases h
end Go.Esc
