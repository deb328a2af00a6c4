/- The digest's small functions: rotations, tables, the eight bytes of a number. No condition but sizes. (and what it stands on) -/
import Derived.Test.YtlaoeiaaeifidaaGreatZ2
import Derived.ChangeSlices
import Derived.Carry
import Derived.ChangeArms
import Derived.Laws.CopyRow
import Derived.Lib.AppendZeros
import Derived.Lib.Builder
import Derived.Lib.UnsafeStr
namespace Go.Vf
open Go.Sw
inductive All2 {α β:Type} (R:α→β→Prop):List α→List β→Prop
  | nil:All2 R [] []
  | cons {a:α} {b:β} {l:List α} {m:List β} (h:R a b) (t:All2 R l m):All2 R (a::l) (b::m)
theorem All2.len {α β:Type} {R:α→β→Prop} {l:List α} {m:List β} (h:All2 R l m):l.length=m.length:=by
  induction h with
  | nil=>rfl
  | cons _ _ ih=>simp [ih]
theorem All2.imp {α β:Type} {R R':α→β→Prop} {l:List α} {m:List β} (h:All2 R l m) (hi:∀ a b,R a b→R' a b):All2 R' l m:=by
  induction h with
  | nil=>exact .nil
  | cons h _ ih=>exact .cons (hi _ _ h) ih
theorem All2.app {α β:Type} {R:α→β→Prop} {l l':List α} {m m':List β} (h:All2 R l m) (h':All2 R l' m'):All2 R (l++l') (m++m'):=by
  induction h with
  | nil=>exact h'
  | cons h _ ih=>exact .cons h ih
theorem All2.take {α β:Type} {R:α→β→Prop} {l:List α} {m:List β} (h:All2 R l m):∀ n:Nat,All2 R (l.take n) (m.take n):=by
  induction h with
  | nil=>intro n; simp; exact .nil
  | cons h _ ih =>
    intro n
    cases n with
    | zero=>exact .nil
    | succ n=>exact .cons h (ih n)
theorem All2.get {α β:Type} {R:α→β→Prop} {l:List α} {m:List β} (h:All2 R l m) (da:α) (db:β):∀ i:Nat,i<l.length→R (l.getD i da) (m.getD i db):=by
  induction h with
  | nil=>intro i h; simp at h
  | cons h _ ih =>
    intro i hi
    cases i with
    | zero=>exact h
    | succ i=>exact ih i (by simpa using hi)
theorem All2.set {α β:Type} {R:α→β→Prop} {l:List α} {m:List β} (h:All2 R l m) {a:α} {b:β} (hab:R a b):∀ i:Nat,All2 R (l.set i a) (m.set i b):=by
  induction h with
  | nil=>intro i; exact .nil
  | cons h t ih =>
    intro i
    cases i with
    | zero=>exact .cons hab t
    | succ i=>exact .cons h (ih i)
theorem nodup_of_map {α β:Type} {f:α→β} {l:List α} (h:(l.map f).Nodup):l.Nodup:=List.Pairwise.of_map f (fun _ _ h e=>h (congrArg f e)) h
theorem lookN_none {l:List Nm} {p:ByteArray}:E6 l p=none ↔ ∀ n∈l,(p==n.1)=false:=by
  induction l with
  | nil=>simp [E6]
  | cons n l ih =>
    rw [E6]
    cases h:p==n.1
    · simp only [Bool.false_eq_true,if_false,ih]
      exact ⟨fun h2 x hx=>by rcases List.mem_cons.1 hx with rfl | hx; exact h; exact h2 x hx,fun h2 x hx=>h2 x (List.mem_cons_of_mem _ hx)⟩
    · simp only [if_true,reduceCtorEq,false_iff]
      intro h2; rw [h2 n List.mem_cons_self] at h; cases h
theorem T6 {l:List Nm} {p:ByteArray} {k:Int} (h:E6 l p=some k):(p,k)∈l:=by
  induction l with
  | nil=>cases h
  | cons n l ih =>
    rw [E6] at h
    split at h
    · rename_i hk
      injection h with h; subst h
      rw [baEq] at hk; subst hk
      exact List.mem_cons_self
    · exact List.mem_cons_of_mem _ (ih h)
theorem lookN_of {l:List Nm} {p:ByteArray} {k:Int} (hn:(l.map Prod.fst).Nodup) (h:(p,k)∈l):E6 l p=some k:=by
  induction l with
  | nil=>cases h
  | cons n l ih =>
    rw [List.map_cons,List.nodup_cons] at hn
    rw [E6]
    rcases List.mem_cons.1 h with rfl | h
    · rw [if_pos (baEq.2 rfl)]
    · rw [if_neg,ih hn.2 h]
      intro hk
      rw [baEq] at hk
      exact hn.1 (List.mem_map.2 ⟨(p,k),h,hk⟩)
theorem lookN_app {l r:List Nm} {p:ByteArray}:E6 (l++r) p=(E6 l p).or (E6 r p):=by
  induction l with
  | nil=>simp [E6]
  | cons n l ih =>
    rw [List.cons_append,E6,E6]
    split
    · simp
    · exact ih
theorem lookN_filter {l:List Nm} {p q:ByteArray}:E6 (l.filter fun n=>!(q==n.1)) p=if p==q then none else E6 l p:=by
  induction l with
  | nil=>simp [E6]
  | cons n l ih =>
    rw [List.filter_cons]
    cases hq:q==n.1
    · simp only [Bool.not_false,if_true]
      rw [E6,E6,ih]
      cases hp:p==n.1
      · simp
      · simp only [if_true]
        rw [baEq] at hp; subst hp
        rw [if_neg]
        intro h; rw [baEq] at h; rw [baNe] at hq; exact hq h.symm
    · simp only [Bool.not_true,Bool.false_eq_true,if_false]
      rw [ih,E6]
      rw [baEq] at hq; subst hq
      cases hp:p==n.1 <;> simp
theorem lookN_with {l:List Nm} {x:Nm} {p:ByteArray}:E6 (N2 l x) p=if p==x.1 then (if 0≤x.2 then some x.2 else none) else E6 l p:=by
  unfold N2
  rw [lookN_app,lookN_filter]
  cases h:p==x.1
  · simp only [Bool.false_eq_true,if_false]
    split
    · rw [E6,h]; simp [E6]
    · simp [E6]
  · simp only [if_true,Option.none_or]
    split
    · rw [E6,h]; simp
    · simp [E6]
theorem nodup_with {l:List Nm} {x:Nm} (h:(l.map Prod.fst).Nodup):((N2 l x).map Prod.fst).Nodup:=by
  unfold N2
  rw [List.map_append,List.nodup_append]
  refine ⟨h.sublist (List.Sublist.map _ List.filter_sublist),?_,?_⟩
  · split <;> simp
  · intro a ha b hb
    split at hb
    · simp only [List.map_cons,List.map_nil,List.mem_singleton] at hb
      obtain ⟨n,hn,rfl⟩:=List.mem_map.1 ha
      have:=(List.mem_filter.1 hn).2
      subst hb
      intro he
      rw [he] at this
      simp at this
    · cases hb
theorem mem_with {l:List Nm} {x y:Nm} (h:y∈N2 l x):y∈l∨(y=x∧0≤x.2):=by
  unfold N2 at h
  rcases List.mem_append.1 h with h | h
  · exact .inl (List.mem_filter.1 h).1
  · split at h
    · rename_i hx; exact .inr ⟨List.mem_singleton.1 h,hx⟩
    · cases h
theorem lookN_apply {c:List Nm}:∀ {l:List Nm} {p:ByteArray},(c.map Prod.fst).Nodup→E6 (J6 l c) p=match E6 c p with | none=>E6 l p | some k=>if 0≤k then some k else none:=by
  induction c with
  | nil=>intro l p _; rfl
  | cons x c ih =>
    intro l p hn
    rw [List.map_cons,List.nodup_cons] at hn
    show E6 (J6 (N2 l x) c) p=_
    rw [ih hn.2,lookN_with,E6]
    cases h:p==x.1
    · simp
    · simp only [if_true]
      have:E6 c p=none:=lookN_none.2 fun n hm=>by
        rw [baEq] at h; subst h
        rw [baNe]; intro he
        exact hn.1 (List.mem_map.2 ⟨n,hm,he.symm⟩)
      rw [this]
theorem nodup_apply {c:List Nm}:∀ {l:List Nm},(l.map Prod.fst).Nodup→((J6 l c).map Prod.fst).Nodup:=by
  induction c with
  | nil=>intro l h; exact h
  | cons x c ih=>intro l h; exact ih (nodup_with h)
theorem mem_apply {c:List Nm}:∀ {l:List Nm} {y:Nm},y∈J6 l c→y∈l∨(y∈c∧0≤y.2):=by
  induction c with
  | nil=>intro l y h; exact .inl h
  | cons x c ih =>
    intro l y h
    rcases ih (l:=N2 l x) h with h | h
    · rcases mem_with h with h | ⟨rfl,h⟩
      · exact .inl h
      · exact .inr ⟨List.mem_cons_self,h⟩
    · exact .inr ⟨List.mem_cons_of_mem _ h.1,h.2⟩
theorem mget_mem {m:SM} {p:ByteArray} {v:Value} (h:S4 m p=some v):∃ c,(p,v,c)∈m:=by
  obtain ⟨pre,c,post,rfl,_⟩:=mget_split h
  exact ⟨c,List.mem_append_right _ List.mem_cons_self⟩
theorem mget_of {m:SM} {p:ByteArray} {v:Value} {c:Nat} (hn:(m.map Prod.fst).Nodup) (h:(p,v,c)∈m):S4 m p=some v:=by
  induction m with
  | nil=>cases h
  | cons n m ih =>
    rw [List.map_cons,List.nodup_cons] at hn
    rw [N6]
    rcases List.mem_cons.1 h with rfl | h
    · rw [if_pos (baEq.2 rfl)]
    · rw [if_neg,ih hn.2 h]
      intro hk
      rw [baEq] at hk
      exact hn.1 (List.mem_map.2 ⟨(p,v,c),h,hk⟩)
theorem _root_.Go.Sw.MapOk.nodup {m:SM} {c:Nat} (h:MapOk m c):(m.map Prod.fst).Nodup:=pw_keys.1 h.keys
theorem mget_perm {m m':SM} (h:m.Perm m') (hn:(m.map Prod.fst).Nodup) (p:ByteArray):S4 m p=S4 m' p:=by
  have hn':(m'.map Prod.fst).Nodup:=(h.map _).nodup_iff.1 hn
  cases h1:S4 m p with
  | none =>
    refine (mget_none.2 fun e he=>?_).symm
    exact mget_none.1 h1 e (h.mem_iff.2 he)
  | some v =>
    obtain ⟨c,hm⟩:=mget_mem h1
    exact (mget_of hn' (h.mem_iff.1 hm)).symm
theorem mget_put {m:SM} {c:Nat} {k p:ByteArray} {v:Value}:S4 (I3 m c k v) p=if p==k then some v else S4 m p:=by
  induction m with
  | nil =>
    rw [I3,N6]
  | cons e m ih =>
    rw [I3]
    cases hk:k==e.1
    · simp only [Bool.false_eq_true,if_false]
      rw [N6,N6,ih]
      cases hp:p==e.1
      · simp
      · simp only [if_true]
        rw [baEq] at hp; subst hp
        rw [if_neg]
        intro h; rw [baEq] at h; rw [baNe] at hk; exact hk h.symm
    · simp only [if_true]
      rw [N6,N6]
      rw [baEq] at hk; subst hk
      cases hp:p==e.1 <;> simp
theorem mget_del {m:SM} {k p:ByteArray} (hn:(m.map Prod.fst).Nodup):S4 (mdel m k) p=if p==k then none else S4 m p:=by
  induction m with
  | nil=>rw [mdel]; split <;> rfl
  | cons e m ih =>
    rw [List.map_cons,List.nodup_cons] at hn
    rw [mdel]
    cases hk:k==e.1
    · simp only [Bool.false_eq_true,if_false]
      rw [N6,N6,ih hn.2]
      cases hp:p==e.1
      · simp
      · simp only [if_true]
        rw [baEq] at hp; subst hp
        rw [if_neg]
        intro h; rw [baEq] at h; rw [baNe] at hk; exact hk h.symm
    · simp only [if_true]
      rw [N6]
      rw [baEq] at hk; subst hk
      cases hp:p==e.1
      · simp
      · simp only [if_true]
        rw [baEq] at hp; subst hp
        exact mget_none.2 fun x hx=>by
          rw [baNe]; intro he
          exact hn.1 (List.mem_map.2 ⟨x,hx,he.symm⟩)
def nilV:Value→Bool
  | .pointer none=>true
  | _=>false
theorem mget_st {s:SM × Nat} {e:ByteArray × Value × Nat} {p:ByteArray} (hn:(s.1.map Prod.fst).Nodup):S4 (stS s e).1 p=if p==e.1 then (if nilV e.2.1 then none else some e.2.1) else S4 s.1 p:=by
  unfold stS
  split
  · rename_i h
    rw [mget_del hn,h]; rfl
  · rename_i v h
    rw [mget_put]
    have:nilV e.2.1=false:=by
      cases hv:nilV e.2.1
      · rfl
      · exfalso
        unfold nilV at hv
        split at hv
        · rename_i h2; exact h h2
        · cases hv
    rw [this]; rfl
theorem mget_fold {dn:SM}:∀ {s:SM × Nat} {p:ByteArray},MapOk s.1 s.2→(dn.map Prod.fst).Nodup→S4 (F9 s dn).1 p=match S4 dn p with | none=>S4 s.1 p | some v=>if nilV v then none else some v:=by
  induction dn with
  | nil=>intro s p _ _; rfl
  | cons e dn ih =>
    intro s p hs hn
    rw [List.map_cons,List.nodup_cons] at hn
    show S4 (F9 (stS s e) dn).1 p=_
    rw [ih (hs.st e) hn.2,mget_st hs.nodup,N6]
    cases h:p==e.1
    · simp
    · simp only [if_true]
      have:S4 dn p=none:=mget_none.2 fun n hm=>by
        rw [baEq] at h; subst h
        rw [baNe]; intro he
        exact hn.1 (List.mem_map.2 ⟨n,hm,he.symm⟩)
      rw [this]
def ptrV (q:Nat):Value:=.pointer (some ⟨q,0,none⟩)
def ptrOf (ps:List Nat) (k:Int):Value:=ptrV (ps.getD k.toNat 0)
def chV (ps:List Nat) (k:Int):Value:=if 0≤k then ptrOf ps k else .pointer none
theorem chV_nil (ps:List Nat) (k:Int):nilV (chV ps k)=!decide (0≤k):=by
  unfold chV
  split
  · rename_i h; simp [ptrOf,ptrV,nilV,h]
  · rename_i h; simp [nilV,h]
structure NamesR (ps:List Nat) (nm:SM) (names:List Nm):Prop where
  look:∀ p,S4 nm p=(E6 names p).map (ptrOf ps)
  keys:(names.map Prod.fst).Nodup
  lt:∀ x∈names,0≤x.2∧x.2.toNat<ps.length
structure ChangeR (ps:List Nat) (x:SM) (l:List Nm):Prop where
  look:∀ p,S4 x p=(E6 l p).map (chV ps)
  keys:(l.map Prod.fst).Nodup
  lt:∀ y∈l,0≤y.2→y.2.toNat<ps.length
theorem ptrOf_mono {ps:List Nat} {q:Nat} {k:Int} (h:k.toNat<ps.length):ptrOf (ps++[q]) k=ptrOf ps k:=by
  unfold ptrOf
  rw [List.getD_eq_getElem?_getD,List.getD_eq_getElem?_getD,List.getElem?_append_left h]
theorem NamesR.mono {ps:List Nat} {nm:SM} {names:List Nm} (h:NamesR ps nm names) (q:Nat):NamesR (ps++[q]) nm names:=by
  refine ⟨fun p=>?_,h.keys,fun x hx=>⟨(h.lt x hx).1,by have:=(h.lt x hx).2; simp; omega⟩⟩
  rw [h.look p]
  cases hl:E6 names p with
  | none=>rfl
  | some k=>simp only [Option.map_some]; rw [ptrOf_mono (h.lt _ (T6 hl)).2]
theorem ChangeR.mono {ps:List Nat} {x:SM} {l:List Nm} (h:ChangeR ps x l) (q:Nat):ChangeR (ps++[q]) x l:=by
  refine ⟨fun p=>?_,h.keys,fun y hy h0=>by have:=h.lt y hy h0; simp; omega⟩
  rw [h.look p]
  cases hl:E6 l p with
  | none=>rfl
  | some k =>
    simp only [Option.map_some]
    unfold chV
    split
    · rename_i h0; rw [ptrOf_mono (h.lt _ (T6 hl) h0)]
    · rfl
theorem names_apply {ps:List Nat} {nm x dn:SM} {nc xc:Nat} {names l:List Nm} (h:NamesR ps nm names) (hn:MapOk nm nc) (hx:MapOk x xc) (hc:ChangeR ps x l) (hd:dn.Perm x) :
    NamesR ps (F9 (nm,nc) dn).1 (J6 names l):=by
  have hdn:(dn.map Prod.fst).Nodup:=(hd.map _).nodup_iff.2 hx.nodup
  refine ⟨fun p=>?_,nodup_apply h.keys,fun y hy=>?_⟩
  · rw [mget_fold hn hdn,mget_perm hd hdn,hc.look,lookN_apply hc.keys]
    cases hl:E6 l p with
    | none=>exact h.look p
    | some k =>
      simp only [Option.map_some]
      rw [chV_nil]
      by_cases h0:0≤k
      · simp [h0,chV]
      · simp [h0]
  · rcases mem_apply hy with hy | ⟨hy,h0⟩
    · exact h.lt y hy
    · exact ⟨h0,hc.lt y hy h0⟩
theorem names_made {ps:List Nat}:∀ {xs:List SM} {ls:List (List Nm)} {nm nm':SM} {nc nc':Nat} {names:List Nm},NamesR ps nm names→MapOk nm nc→All2 (fun x l=>(∃ c,MapOk x c)∧ChangeR ps x l) xs ls →
    MadeOf xs (nm,nc) (nm',nc')→NamesR ps nm' (ls.foldl J6 names)
  | [],[],_,_,_,_,_,h,_,.nil,hm=>by
    injection (show (_,_)=(_,_) from hm) with e1 e2
    subst e1; exact h
  | x::xs,l::ls,nm,nm',nc,nc',names,h,hn,.cons ⟨⟨c,hx⟩,hc⟩ hr,⟨dn,hd,hm⟩=>by
    exact names_made (ls:=ls) (nc:=(F9 (nm,nc) dn).2) (names_apply h hn hx hc hd) (MapOk.fold (s:=(nm,nc)) hn dn) hr hm
theorem names_perm {ps:List Nat} {nm:SM} {nc:Nat} {names:List Nm} (h:NamesR ps nm names) (hn:MapOk nm nc):(nm.map fun e=>(e.1,e.2.1)).Perm (names.map fun x=>(x.1,ptrOf ps x.2)):=by
  have n1:((nm.map fun e=>(e.1,e.2.1)).map Prod.fst).Nodup:=by rw [List.map_map]; exact hn.nodup
  have n2:((names.map fun x=>(x.1,ptrOf ps x.2)).map Prod.fst).Nodup:=by rw [List.map_map]; exact h.keys
  refine (List.perm_ext_iff_of_nodup (nodup_of_map n1) (nodup_of_map n2)).2 fun a=>?_
  obtain ⟨p,v⟩:=a
  constructor
  · intro ha
    obtain ⟨⟨k,u,c⟩,he,h2⟩:=List.mem_map.1 ha
    injection h2 with e1 e2
    simp only at e1 e2
    subst e1 e2
    have:=mget_of hn.nodup he
    rw [h.look] at this
    cases hl:E6 names k with
    | none=>rw [hl] at this; cases this
    | some i =>
      rw [hl] at this
      injection this with this
      exact List.mem_map.2 ⟨(k,i),T6 hl,by rw [← this]⟩
  · intro ha
    obtain ⟨⟨k,i⟩,he,h2⟩:=List.mem_map.1 ha
    injection h2 with e1 e2
    simp only at e1 e2
    subst e1 e2
    have hl:=lookN_of h.keys he
    have:=h.look k
    rw [hl] at this
    obtain ⟨c,hm⟩:=mget_mem this
    exact List.mem_map.2 ⟨_,hm,rfl⟩
end Go.Vf
namespace Go.Vf
open Go.Sw Go.RowKit Go.Proofs Go.Proofs.YtlaoeiaaeifidaaGreat
def Sh (a:Option Addr) (n cap:Nat):Prop:=(a=none∧n=0∧cap=0)∨(∃ ad,a=some ad∧n=0)∨∃ k off,a=some ⟨k,off,none⟩
theorem T7 {W0:World} {A B:List Grp} {w:World} (h:Sat W0 (A++B) w):Sat W0 (A++[]::B) w:=h.flat (by rw [List.flatten_append,List.flatten_append,List.flatten_cons,List.nil_append])
theorem vCloneO (a:Option Addr) (n cap:Nat) (S:Nat→Obj→Prop) (l:List UInt8) (hsh:Sh a n cap) (hrd:Rd S a (u8s l)) (hl:l.length=n) (hn:n≤1000000000) (W0:World) (H:List Grp) (hS:∀ y o,S y o→At W0 H y o) :
    Tri Tryz.prog 36 #[.slice a n cap] W0 H (fun v H'=>∃ g,Go.Sw.Own 5 1 v g n (u8s l)∧H'=g::H):=by
  have h0:n=0→l=[]:=fun h=>List.eq_nil_of_length_eq_zero (by omega)
  rcases hsh with ⟨rfl,rfl,rfl⟩ | ⟨ad,rfl,rfl⟩ | ⟨k,off,rfl⟩
  · rw [h0 rfl]
    refine Tri.post (vCloneNil W0 H) fun v H1 ⟨hv,hH⟩=>⟨_,⟨[],by rw [hv]; exact Go.Sw.Own.nil,rfl⟩,fun w hw=>?_⟩
    rw [hH] at hw
    exact T7 (A:=[]) hw
  · rw [h0 rfl]
    exact vCloneE ad cap W0 H
  · exact vClone k off n cap S l hrd hl hn W0 H hS
end Go.Vf
namespace Go.Proofs.YtlaoeiaaeifidaaGreat
open Go.Sw Go.Lib Go.Vf Go.RowKit
set_option maxHeartbeats 1000000 in
theorem vWriteAny (d nb kb cb nc cc:Nat) (room calls:Int) (bv:Value) (bg:Grp) (ps:List Value) (m:Nat) (fails once:Bool) (nm cm:SM) (path:ByteArray) (szf:Value→Nat) (hpath:path.size≤9223372036854775807) (hca:-9223372036854775808≤calls∧calls≤9223372036854775807) (hn:MapOk nm nc) (hs:sumN szf nm≤1000000000000) (hw:∀ v,S4 nm path=some v→szf v≤1000000000000) (hO:Go.Sw.Own 74 1 bv bg m ps) (hm:m≤1000000) (rows:List RW) (hR:RowsOk cm rows) (hl:∀ r∈rows,r.qs.length≤1000000) (ao:Option Addr) (n cap:Nat) (S:Nat→Obj→Prop) (l:List UInt8) (hsh:Sh ao n cap) (hrd:Rd S ao (u8s l)) (hl1:l.length=n) (hn1:n≤1000000000) (W0:World) (H:List Grp) (hg:S4 nm path=none∨∃ p a c kv,S4 nm path=some (.pointer (some ⟨p,0,none⟩))∧At W0 (G8 rows++H) p (.cells #[.slice a (szf (.pointer (some ⟨p,0,none⟩))) c,kv] 76 (0,0))) (hS:∀ y o,S y o→At W0 (G8 rows++H) y o) (hB:∀ e∈nm,∃ p a c kv,e.2.1=.pointer (some ⟨p,0,none⟩)∧At W0 (G8 rows++H) p (.cells #[.slice a (szf e.2.1) c,kv] 76 (0,0))):Tri Tryz.prog 9 #[pt d,.string path,.slice ao n cap] W0 ([(d,.cells #[.int .i64 room,bv,.map (some nb),.map (some kb),.map (some cb),.bool fails,.bool once,.int .i64 calls] 72 (0,0))]::[(nb,.map (B2 nm) nc)]::[(cb,.map (B2 cm) cc)]::bg::(G8 rows++H)) (fun v H'=>((B6 fails once calls (A3 path)).1≠0∧v=.int .i64 (B6 fails once calls (A3 path)).1∧H'=([(d,.cells #[.int .i64 room,bv,.map (some nb),.map (some kb),.map (some cb),.bool ((B6 fails once calls (A3 path)).2.1),.bool once,.int .i64 ((B6 fails once calls (A3 path)).2.2)] 72 (0,0))]::[(nb,.map (B2 nm) nc)]::[(cb,.map (B2 cm) cc)]::bg::(G8 rows++H)))∨((B6 fails once calls (A3 path)).1=0∧((sumN szf nm:Nat):Int) - (((match S4 nm path with | none=>0 | some v=>szf v):Nat):Int)+(n:Int) > room∧v=.int .i64 61∧H'=([(d,.cells #[.int .i64 room,bv,.map (some nb),.map (some kb),.map (some cb),.bool ((B6 fails once calls (A3 path)).2.1),.bool once,.int .i64 ((B6 fails once calls (A3 path)).2.2)] 72 (0,0))]::[(nb,.map (B2 nm) nc)]::[(cb,.map (B2 cm) cc)]::bg::(G8 rows++H)))∨((B6 fails once calls (A3 path)).1=0∧¬ ((sumN szf nm:Nat):Int) - (((match S4 nm path with | none=>0 | some v=>szf v):Nat):Int)+(n:Int) > room∧v=.int .i64 0∧∃ p q a1 c1 a2 c2 x rows1 g1 bg2,Go.Sw.Own 5 1 (.slice a1 n c1) g1 n (u8s l)∧Go.Sw.Own 74 1 (.slice a2 (m+1) c2) bg2 (m+1) (ps++[.pointer (some ⟨p,0,none⟩)])∧RowsOk (I3 cm cc (D2 path) x) rows1∧RowsAdd rows (D2 path) q rows1∧H'=[(d,.cells #[.int .i64 room,.slice a2 (m+1) c2,.map (some nb),.map (some kb),.map (some cb),.bool (B6 fails once calls (A3 path)).2.1,.bool once,.int .i64 (B6 fails once calls (A3 path)).2.2] 72 (0,0))]::[(nb,.map (B2 (F9 (nm,nc) [(path,.pointer (some ⟨p,0,none⟩),0)]).1) (F9 (nm,nc) [(path,.pointer (some ⟨p,0,none⟩),0)]).2)]::[(cb,.map (B2 (I3 cm cc (D2 path) x)) (if J7 cm (D2 path) then cc else cc+1))]::[(q,.map (B2 [(path,.pointer (some ⟨p,0,none⟩),0)]) 1)]::bg2::[(p,.cells #[.slice a1 n c1,.slice none 0 0] 76 (0,0))]::g1::(G8 rows1++H))):=by
 refine C8 (args:=[pt d,.string path,.slice ao n cap]) (n:=65) Tryz.func9 rfl rfl (Nat.le_of_ble_eq_true rfl) ?_
 refine A1 (G_p [0] [0,1,2] (k:=?_))
 refine A0 (A1 ?_)
 refine A1 (A2 ?_)
 refine A7 (j:=2) [0,0] (k:=F6 (vs:=[.string path]) Tryz.func34 (T2 _ hpath _ _) ?_)
 refine G2 Tryz.func33 (vCall d nb kb cb room calls bv fails once (A3 path) hca _ _) ?_
 rintro v H' ⟨rfl,rfl⟩
 refine C4 [0] [0,1,2,7] (k:=A0 ?_)
 refine A1 (G_p [0,0] [0,1,2,7,16] (k:=?_))
 refine A0 (C6 (b:=((B6 fails once calls (A3 path)).1) != 0) kr (fun hc1=>?_) (fun hc1=>?_))
 ·
  have hce:(B6 fails once calls (A3 path)).1≠0:=by simpa using hc1
  refine A1 (G_p [0,0] [6] (k:=?_))
  refine A0 (C3 ?_)
  refine B3 (C1 [.tmp 6] [.int .i64 ((B6 fails once calls (A3 path)).1)] (k:=?_))
  exact .inl ⟨hce,rfl,rfl⟩
 ·
  have hce:(B6 fails once calls (A3 path)).1=0:=by simpa using hc1
  refine B5 (A0 ?_)
  refine A1 (G_p [0] [0,1,2,8] (k:=?_))
  refine A0 (A1 ?_)
  refine A1 (A2 ?_)
  refine A7 (j:=3) [0,0,0] (k:=A5 (ch:=[]) (b:=d) (off:=2) (v:=.map (some nb)) (hA:=At.grp 0 0 rfl rfl) (k:=?_))
  refine A7 (j:=5) [0] (k:=?_)
  rcases hg with hg | ⟨p0,a0,c0,kv0,hg,hat0⟩
  ·
   refine L0 (ch:=[]) (kt:=9) (et:=74) (r:=nb) (c:=nc) (m:=nm) (k:=path) (z:=.pointer none) (ov:=none) (hA:=At.grp 1 0 rfl rfl) (hg:=(fun _=>hg)) (kk:=C4 [0] [0,1,2,8,9] (k:=?_))
   refine A0 (A1 ?_)
   refine B4 (E':=[⟨0,[],pt d⟩,⟨1,[],.string path⟩,⟨2,[],.slice ao n cap⟩,⟨8,[],.int .i64 0⟩,⟨9,[],.pointer none⟩,⟨25,[],.bool false⟩]) [0,0] [0,1,2,8,9,25] (k:=A0 ?_)
   refine I2 kr (B5 ?_)
   refine A0 (A1 ?_)
   refine A1 (D7 ([(d,.cells #[.int .i64 room,bv,.map (some nb),.map (some kb),.map (some cb),.bool ((B6 fails once calls (A3 path)).2.1),.bool once,.int .i64 ((B6 fails once calls (A3 path)).2.2)] 72 (0,0))]::[(nb,.map (B2 nm) nc)]::[(cb,.map (B2 cm) cc)]::bg::(G8 rows++H)) kr ?_)
   refine D0 (fuel:=9) [(0,0),(2,0),(4,0)] (fun w h=>h) (k:=R9 (v:=.int .i64 ((n:Nat):Int)) 5 (hL:=(fun w h=>h)) (k:=?_))
   refine D0 (fuel:=7) [(7,0)] (fun w h=>h) (k:=G0 (ad:=⟨d,0,none⟩) 8 (hL:=(fun w h=>h)) (k:=?_))
   refine D0 (fuel:=5) [(9,0)] (fun w h=>h) (k:=A9 10 (hL:=(fun w h=>h)) (hy:=A5 (i:=10) (ch:=[]) (b:=d) (off:=0) (v:=.int .i64 room) (hA:=At.grp 0 0 rfl rfl) (k:=B1 kr rfl)) (k:=?_))
   refine B9 1 (k:=G2 Tryz.func35 (vUsed d nb kb cb nc room ((B6 fails once calls (A3 path)).2.2) bv ((B6 fails once calls (A3 path)).2.1) once nm szf hn hs _ _ (fun e he=>let ⟨p,a,c,kv,h1,h2⟩:=hB e he; ⟨p,a,c,kv,h1,(At.cons (At.cons h2))⟩)) ?_)
   rintro v H' ⟨rfl,rfl⟩
   refine A6 kr (fun w h=>h) (D0 (fuel:=2) [(3,0)] (fun w h=>h) (k:=?_))
   refine O7 34 (((sumN szf nm:Nat):Int) - 0) (by omega) (by omega) kr (D0 (fuel:=1) [(6,0)] (fun w h=>h) (k:=?_))
   refine O7 37 ((((sumN szf nm:Nat):Int) - 0)+((n:Nat):Int)) (by omega) (by omega) kr (D0 (fuel:=0) [(11,0)] (fun w h=>h) (k:=?_))
   refine D8 (E':=[⟨0,[],pt d⟩,⟨1,[],.string path⟩,⟨2,[],.slice ao n cap⟩,⟨42,[],.bool (decide (((((sumN szf nm:Nat):Int) - 0)+((n:Nat):Int)) > room))⟩]) [0,1,2,42] (k:=A0 ?_)
   refine C6 (b:=decide (((((sumN szf nm:Nat):Int) - 0)+((n:Nat):Int)) > room)) kr (fun hc4=>?_) (fun hc4=>?_)
   ·
    have hro:=of_decide_eq_true hc4
    refine A1 (B4 (E':=[⟨6,[],.int .i64 61⟩]) [0] [6] (k:=?_))
    refine A0 (C3 ?_)
    refine B3 (C1 [.tmp 6] [.int .i64 61] (k:=?_))
    exact .inr (.inl ⟨hce,by (simp only [hg]; exact hro),rfl,rfl⟩)
   ·
    have hro:=of_decide_eq_false hc4
    refine B5 (A0 ?_)
    refine A1 (A2 ?_)
    refine A7 (j:=1) [0] (k:=G2 Tryz.func36 (vCloneO ao n cap S l hsh hrd hl1 hn1 _ _ (fun y o h=>(At.cons (At.cons (At.cons (At.cons (hS y o h))))))) ?_)
    rintro v7 _ ⟨g5,hO6,rfl⟩
    obtain ⟨a8,cap9,rfl,hcap10,hrd11⟩:=hO6.shape
    refine A7 (j:=3) [0] (k:=R3 (ch:=[]) (v:=.agg #[.slice a8 n cap9,.slice none 0 0]) (k:=(fun b12=>?_)))
    refine C4 [0] [0,1,10] (k:=A0 ?_)
    refine A1 (A2 ?_)
    refine A7 (j:=4) [0,0,0,0] (k:=A5 (ch:=[]) (b:=d) (off:=1) (v:=bv) (hA:=At.grp 2 0 rfl rfl) (k:=?_))
    refine A7 (j:=6) [0] (k:=C2 (ch:=[]) (e:=74) (l:=[(0,pt b12)]) (c:=[pt b12]) (k:=(fun b13=>?_)))
    refine E9 (i:=7) (ch:=[]) (t:=70) (tx:=70) (e:=74) (inf:=Tryz.t74) (s:=bv) (x:=.slice (some ⟨b13,0,none⟩) 1 1) (n:=m) (m:=1) (j:=6) (cs:=ps) (news:=[pt b12]) (g:=bg) (S:=(inG [(b13,.cells #[pt b12] 74 (0,0))])) rfl rfl rfl rfl kr kr kr rfl rfl (.inl ⟨74,kr⟩) (fun ⟨_,h⟩=>by cases h) (fun _=>⟨74,kr⟩) kr kr kr rfl hO (SrcOf.slice _ _ _ _ Rd.lit (fun h=>by cases h)) (C9 0 rfl) kr (by intro u hu; rcases List.mem_singleton.1 hu with rfl; rfl) (by omega) (by show (m+1) * 8≤140737488355328; omega) (fun v14 g15 hO16=>?_)
    obtain ⟨a17,cap18,rfl,hcap19,hrd20⟩:=hO16.shape
    refine A7 (j:=10) [0,0] (k:=G4 (ch:=[]) (b:=d) (off:=1) (v:=.slice a17 (m+1) cap18) (j:=3) ([(b13,.cells #[pt b12] 74 (0,0))]::[(b12,.cells #[.slice a8 n cap9,.slice none 0 0] 76 (0,0))]::g5::[(d,.cells #[.int .i64 room,.slice a17 (m+1) cap18,.map (some nb),.map (some kb),.map (some cb),.bool ((B6 fails once calls (A3 path)).2.1),.bool once,.int .i64 ((B6 fails once calls (A3 path)).2.2)] 72 (0,0))]::[(nb,.map (B2 nm) nc)]::[(cb,.map (B2 cm) cc)]::g15::(G8 rows++H)) (hoff:=Nat.le_of_ble_eq_true rfl) (hfz:=(fun _ _=>F0)) (k:=?_))
    refine C4 [] [0,1,10] (k:=A0 ?_)
    refine A1 (A2 ?_)
    refine A7 (j:=2) [0,0] (k:=F6 (vs:=[.string path]) Tryz.func38 (Q1 _ hpath _ _) ?_)
    refine R2 (ch:=[]) (k:=(fun b21=>?_))
    refine A7 (j:=6) [0,0] (k:=J8 (ch:=[]) (kt:=9) (et:=74) (r:=b21) (c:=0) (j:=0) (q:=0) (m:=[]) (k:=path) (v:=pt b12) (H':=([(b21,.map (B2 ([(path,pt b12,0)])) 1)]::[(b13,.cells #[pt b12] 74 (0,0))]::[(b12,.cells #[.slice a8 n cap9,.slice none 0 0] 76 (0,0))]::g5::[(d,.cells #[.int .i64 room,.slice a17 (m+1) cap18,.map (some nb),.map (some kb),.map (some cb),.bool ((B6 fails once calls (A3 path)).2.1),.bool once,.int .i64 ((B6 fails once calls (A3 path)).2.2)] 72 (0,0))]::[(nb,.map (B2 nm) nc)]::[(cb,.map (B2 cm) cc)]::g15::(G8 rows++H))) (hop:=.inr rfl) (kk:=?_))
    refine A7 (j:=8) [0] (k:=I5 rfl (H':=([(d,.cells #[.int .i64 room,.slice a17 (m+1) cap18,.map (some nb),.map (some kb),.map (some cb),.bool ((B6 fails once calls (A3 path)).2.1),.bool once,.int .i64 ((B6 fails once calls (A3 path)).2.2)] 72 (0,0))]::[(nb,.map (B2 nm) nc)]::[(cb,.map (B2 cm) cc)]::[(b21,.map (B2 ([(path,pt b12,0)])) 1)]::[(b13,.cells #[pt b12] 74 (0,0))]::[(b12,.cells #[.slice a8 n cap9,.slice none 0 0] 76 (0,0))]::g5::g15::(G8 rows++H))) (fun w h=>(((h.front (j:=6) rfl).front (j:=6) rfl).front (j:=6) rfl)) ?_)
    refine G2 (vs:=[pt d,.string (D2 path),.map (some b21)]) Tryz.func37 (vName d nb kb cb b21 nc cc 1 room ((B6 fails once calls (A3 path)).2.2) (.slice a17 (m+1) cap18) ((B6 fails once calls (A3 path)).2.1) once nm cm ([(path,pt b12,0)]) (D2 path) hn (A0b _ _) (hv1 _ _) rows hR hl [[(b21,.map (B2 ([(path,pt b12,0)])) 1)],[(b13,.cells #[pt b12] 74 (0,0))],[(b12,.cells #[.slice a8 n cap9,.slice none 0 0] 76 (0,0))],g5,g15] _ H (At.grp 0 0 rfl rfl)) ?_
    rintro v H' ⟨dn22,x23,rows24,hdn25,rfl,hR26,hA27,rfl⟩
    refine D3 (E':=[]) [] [] (k:=A0 ?_)
    refine A1 (B4 (E':=[⟨6,[],.int .i64 0⟩]) [0] [6] (k:=?_))
    refine A0 (C3 ?_)
    refine E0 (H':=([(d,.cells #[.int .i64 room,.slice a17 (m+1) cap18,.map (some nb),.map (some kb),.map (some cb),.bool ((B6 fails once calls (A3 path)).2.1),.bool once,.int .i64 ((B6 fails once calls (A3 path)).2.2)] 72 (0,0))]::[(nb,.map (B2 ((F9 (nm,nc) dn22).1)) ((F9 (nm,nc) dn22).2))]::[(cb,.map (B2 (I3 cm cc (D2 path) x23)) (if J7 cm (D2 path) then cc else cc+1))]::[(b21,.map (B2 ([(path,pt b12,0)])) 1)]::g15::[(b12,.cells #[.slice a8 n cap9,.slice none 0 0] 76 (0,0))]::g5::(G8 rows24++H))) (fun w h=>((((((((h.front (j:=6) rfl).front (j:=6) rfl).front (j:=7) rfl).front (j:=6) rfl).front (j:=6) rfl).front (j:=6) rfl).front (j:=6) rfl).erase 7)) (C1 [.tmp 6] [.int .i64 0] (k:=?_))
    have hdn1:=List.perm_singleton.1 hdn25
    subst hdn1
    exact .inr (.inr ⟨hce,by (simp only [hg]; exact hro),rfl,_,_,_,_,_,_,x23,rows24,g5,_,hO6,hO16,hR26,hA27,rfl⟩)
  ·
   have hw0:=hw _ hg
   refine L0 (ch:=[]) (kt:=9) (et:=74) (r:=nb) (c:=nc) (m:=nm) (k:=path) (z:=.pointer none) (ov:=(some (pt p0))) (hA:=At.grp 1 0 rfl rfl) (hg:=(fun _=>hg)) (kk:=C4 [0] [0,1,2,8,9] (k:=?_))
   refine A0 (A1 ?_)
   refine B4 (E':=[⟨0,[],pt d⟩,⟨1,[],.string path⟩,⟨2,[],.slice ao n cap⟩,⟨8,[],.int .i64 0⟩,⟨9,[],pt p0⟩,⟨25,[],.bool true⟩]) [0,0] [0,1,2,8,9,25] (k:=A0 ?_)
   refine I1 kr (A2 ?_)
   refine A7 (j:=3) [0,0,0] (k:=A5 (ch:=[]) (b:=p0) (off:=0) (v:=.slice a0 (szf (.pointer (some ⟨p0,0,none⟩))) c0) (hA:=At.cons (At.cons (At.cons (At.cons hat0)))) (k:=?_))
   refine C4 [0,0] [0,1,2,8] (k:=A0 ?_)
   refine A1 (A1 ?_)
   refine D7 ([(d,.cells #[.int .i64 room,bv,.map (some nb),.map (some kb),.map (some cb),.bool ((B6 fails once calls (A3 path)).2.1),.bool once,.int .i64 ((B6 fails once calls (A3 path)).2.2)] 72 (0,0))]::[(nb,.map (B2 nm) nc)]::[(cb,.map (B2 cm) cc)]::bg::(G8 rows++H)) kr (D0 (fuel:=9) [(0,0),(2,0),(4,0)] (fun w h=>h) (k:=?_))
   refine R9 (v:=.int .i64 ((n:Nat):Int)) 5 (hL:=(fun w h=>h)) (k:=D0 (fuel:=7) [(7,0)] (fun w h=>h) (k:=?_))
   refine G0 (ad:=⟨d,0,none⟩) 8 (hL:=(fun w h=>h)) (k:=D0 (fuel:=5) [(9,0)] (fun w h=>h) (k:=?_))
   refine A9 10 (hL:=(fun w h=>h)) (hy:=A5 (i:=10) (ch:=[]) (b:=d) (off:=0) (v:=.int .i64 room) (hA:=At.grp 0 0 rfl rfl) (k:=B1 kr rfl)) (k:=B9 1 (k:=?_))
   refine G2 Tryz.func35 (vUsed d nb kb cb nc room ((B6 fails once calls (A3 path)).2.2) bv ((B6 fails once calls (A3 path)).2.1) once nm szf hn hs _ _ (fun e he=>let ⟨p,a,c,kv,h1,h2⟩:=hB e he; ⟨p,a,c,kv,h1,(At.cons (At.cons h2))⟩)) ?_
   rintro v H' ⟨rfl,rfl⟩
   refine A6 kr (fun w h=>h) (D0 (fuel:=2) [(3,0)] (fun w h=>h) (k:=?_))
   refine O7 34 (((sumN szf nm:Nat):Int) - (((szf (.pointer (some ⟨p0,0,none⟩))):Nat):Int)) (by omega) (by omega) kr (D0 (fuel:=1) [(6,0)] (fun w h=>h) (k:=?_))
   refine O7 37 ((((sumN szf nm:Nat):Int) - (((szf (.pointer (some ⟨p0,0,none⟩))):Nat):Int))+((n:Nat):Int)) (by omega) (by omega) kr (D0 (fuel:=0) [(11,0)] (fun w h=>h) (k:=?_))
   refine D8 (E':=[⟨0,[],pt d⟩,⟨1,[],.string path⟩,⟨2,[],.slice ao n cap⟩,⟨42,[],.bool (decide (((((sumN szf nm:Nat):Int) - (((szf (.pointer (some ⟨p0,0,none⟩))):Nat):Int))+((n:Nat):Int)) > room))⟩]) [0,1,2,42] (k:=A0 ?_)
   refine C6 (b:=decide (((((sumN szf nm:Nat):Int) - (((szf (.pointer (some ⟨p0,0,none⟩))):Nat):Int))+((n:Nat):Int)) > room)) kr (fun hc30=>?_) (fun hc30=>?_)
   ·
    have hro:=of_decide_eq_true hc30
    refine A1 (B4 (E':=[⟨6,[],.int .i64 61⟩]) [0] [6] (k:=?_))
    refine A0 (C3 ?_)
    refine B3 (C1 [.tmp 6] [.int .i64 61] (k:=?_))
    exact .inr (.inl ⟨hce,by (simp only [hg]; exact hro),rfl,rfl⟩)
   ·
    have hro:=of_decide_eq_false hc30
    refine B5 (A0 ?_)
    refine A1 (A2 ?_)
    refine A7 (j:=1) [0] (k:=G2 Tryz.func36 (vCloneO ao n cap S l hsh hrd hl1 hn1 _ _ (fun y o h=>(At.cons (At.cons (At.cons (At.cons (hS y o h))))))) ?_)
    rintro v33 _ ⟨g31,hO32,rfl⟩
    obtain ⟨a34,cap35,rfl,hcap36,hrd37⟩:=hO32.shape
    refine A7 (j:=3) [0] (k:=R3 (ch:=[]) (v:=.agg #[.slice a34 n cap35,.slice none 0 0]) (k:=(fun b38=>?_)))
    refine C4 [0] [0,1,10] (k:=A0 ?_)
    refine A1 (A2 ?_)
    refine A7 (j:=4) [0,0,0,0] (k:=A5 (ch:=[]) (b:=d) (off:=1) (v:=bv) (hA:=At.grp 2 0 rfl rfl) (k:=?_))
    refine A7 (j:=6) [0] (k:=C2 (ch:=[]) (e:=74) (l:=[(0,pt b38)]) (c:=[pt b38]) (k:=(fun b39=>?_)))
    refine E9 (i:=7) (ch:=[]) (t:=70) (tx:=70) (e:=74) (inf:=Tryz.t74) (s:=bv) (x:=.slice (some ⟨b39,0,none⟩) 1 1) (n:=m) (m:=1) (j:=6) (cs:=ps) (news:=[pt b38]) (g:=bg) (S:=(inG [(b39,.cells #[pt b38] 74 (0,0))])) rfl rfl rfl rfl kr kr kr rfl rfl (.inl ⟨74,kr⟩) (fun ⟨_,h⟩=>by cases h) (fun _=>⟨74,kr⟩) kr kr kr rfl hO (SrcOf.slice _ _ _ _ Rd.lit (fun h=>by cases h)) (C9 0 rfl) kr (by intro u hu; rcases List.mem_singleton.1 hu with rfl; rfl) (by omega) (by show (m+1) * 8≤140737488355328; omega) (fun v40 g41 hO42=>?_)
    obtain ⟨a43,cap44,rfl,hcap45,hrd46⟩:=hO42.shape
    refine A7 (j:=10) [0,0] (k:=G4 (ch:=[]) (b:=d) (off:=1) (v:=.slice a43 (m+1) cap44) (j:=3) ([(b39,.cells #[pt b38] 74 (0,0))]::[(b38,.cells #[.slice a34 n cap35,.slice none 0 0] 76 (0,0))]::g31::[(d,.cells #[.int .i64 room,.slice a43 (m+1) cap44,.map (some nb),.map (some kb),.map (some cb),.bool ((B6 fails once calls (A3 path)).2.1),.bool once,.int .i64 ((B6 fails once calls (A3 path)).2.2)] 72 (0,0))]::[(nb,.map (B2 nm) nc)]::[(cb,.map (B2 cm) cc)]::g41::(G8 rows++H)) (hoff:=Nat.le_of_ble_eq_true rfl) (hfz:=(fun _ _=>F0)) (k:=?_))
    refine C4 [] [0,1,10] (k:=A0 ?_)
    refine A1 (A2 ?_)
    refine A7 (j:=2) [0,0] (k:=F6 (vs:=[.string path]) Tryz.func38 (Q1 _ hpath _ _) ?_)
    refine R2 (ch:=[]) (k:=(fun b47=>?_))
    refine A7 (j:=6) [0,0] (k:=J8 (ch:=[]) (kt:=9) (et:=74) (r:=b47) (c:=0) (j:=0) (q:=0) (m:=[]) (k:=path) (v:=pt b38) (H':=([(b47,.map (B2 ([(path,pt b38,0)])) 1)]::[(b39,.cells #[pt b38] 74 (0,0))]::[(b38,.cells #[.slice a34 n cap35,.slice none 0 0] 76 (0,0))]::g31::[(d,.cells #[.int .i64 room,.slice a43 (m+1) cap44,.map (some nb),.map (some kb),.map (some cb),.bool ((B6 fails once calls (A3 path)).2.1),.bool once,.int .i64 ((B6 fails once calls (A3 path)).2.2)] 72 (0,0))]::[(nb,.map (B2 nm) nc)]::[(cb,.map (B2 cm) cc)]::g41::(G8 rows++H))) (hop:=.inr rfl) (kk:=?_))
    refine A7 (j:=8) [0] (k:=I5 rfl (H':=([(d,.cells #[.int .i64 room,.slice a43 (m+1) cap44,.map (some nb),.map (some kb),.map (some cb),.bool ((B6 fails once calls (A3 path)).2.1),.bool once,.int .i64 ((B6 fails once calls (A3 path)).2.2)] 72 (0,0))]::[(nb,.map (B2 nm) nc)]::[(cb,.map (B2 cm) cc)]::[(b47,.map (B2 ([(path,pt b38,0)])) 1)]::[(b39,.cells #[pt b38] 74 (0,0))]::[(b38,.cells #[.slice a34 n cap35,.slice none 0 0] 76 (0,0))]::g31::g41::(G8 rows++H))) (fun w h=>(((h.front (j:=6) rfl).front (j:=6) rfl).front (j:=6) rfl)) ?_)
    refine G2 (vs:=[pt d,.string (D2 path),.map (some b47)]) Tryz.func37 (vName d nb kb cb b47 nc cc 1 room ((B6 fails once calls (A3 path)).2.2) (.slice a43 (m+1) cap44) ((B6 fails once calls (A3 path)).2.1) once nm cm ([(path,pt b38,0)]) (D2 path) hn (A0b _ _) (hv1 _ _) rows hR hl [[(b47,.map (B2 ([(path,pt b38,0)])) 1)],[(b39,.cells #[pt b38] 74 (0,0))],[(b38,.cells #[.slice a34 n cap35,.slice none 0 0] 76 (0,0))],g31,g41] _ H (At.grp 0 0 rfl rfl)) ?_
    rintro v H' ⟨dn48,x49,rows50,hdn51,rfl,hR52,hA53,rfl⟩
    refine D3 (E':=[]) [] [] (k:=A0 ?_)
    refine A1 (B4 (E':=[⟨6,[],.int .i64 0⟩]) [0] [6] (k:=?_))
    refine A0 (C3 ?_)
    refine E0 (H':=([(d,.cells #[.int .i64 room,.slice a43 (m+1) cap44,.map (some nb),.map (some kb),.map (some cb),.bool ((B6 fails once calls (A3 path)).2.1),.bool once,.int .i64 ((B6 fails once calls (A3 path)).2.2)] 72 (0,0))]::[(nb,.map (B2 ((F9 (nm,nc) dn48).1)) ((F9 (nm,nc) dn48).2))]::[(cb,.map (B2 (I3 cm cc (D2 path) x49)) (if J7 cm (D2 path) then cc else cc+1))]::[(b47,.map (B2 ([(path,pt b38,0)])) 1)]::g41::[(b38,.cells #[.slice a34 n cap35,.slice none 0 0] 76 (0,0))]::g31::(G8 rows50++H))) (fun w h=>((((((((h.front (j:=6) rfl).front (j:=6) rfl).front (j:=7) rfl).front (j:=6) rfl).front (j:=6) rfl).front (j:=6) rfl).front (j:=6) rfl).erase 7)) (C1 [.tmp 6] [.int .i64 0] (k:=?_))
    have hdn1:=List.perm_singleton.1 hdn51
    subst hdn1
    exact .inr (.inr ⟨hce,by (simp only [hg]; exact hro),rfl,_,_,_,_,_,_,x49,rows50,g31,_,hO32,hO42,hR52,hA53,rfl⟩)
end Go.Proofs.YtlaoeiaaeifidaaGreat
namespace Go.Proofs.YtlaoeiaaeifidaaGreat
open Go.Sw Go.Lib Go.Vf Go.RowKit
def RenC (path to:ByteArray) (p:Nat) (m:SM) (c:Nat):Prop :=
  (m=I3 [(to,.pointer (some ⟨p,0,none⟩),0)] 1 path (.pointer none)∧c=if J7 [(to,.pointer (some ⟨p,0,none⟩),0)] path then 1 else 1+1) ∨
  (m=I3 [(path,.pointer none,0)] 1 to (.pointer (some ⟨p,0,none⟩))∧c=if J7 [(path,.pointer none,0)] to then 1 else 1+1)
theorem hvput {m:SM} {c:Nat} {k:ByteArray} {v:Value} {Q:Value→Prop} (h:∀ e∈m,Q e.2.1) (hv:Q v):∀ e∈I3 m c k v,Q e.2.1:=by
  induction m with
  | nil=>intro e he; rw [I3,List.mem_singleton] at he; subst he; exact hv
  | cons x m ih =>
    intro e he
    rw [I3] at he
    split at he
    · rcases List.mem_cons.1 he with rfl | he
      · exact hv
      · exact h e (List.mem_cons_of_mem _ he)
    · rcases List.mem_cons.1 he with rfl | he
      · exact h _ List.mem_cons_self
      · exact ih (fun y hy=>h y (List.mem_cons_of_mem _ hy)) e he
theorem vRenameNo (d nb kb cb nc cc:Nat) (room calls:Int) (bv:Value) (fails once:Bool) (nm cm:SM) (path to:ByteArray) (hpath:path.size≤9223372036854775807) (hto:to.size≤9223372036854775807) (hca:-9223372036854775808≤calls∧calls≤9223372036854775807) (hn:MapOk nm nc) (rows:List RW) (hR:RowsOk cm rows) (hl:∀ r∈rows,r.qs.length≤1000000) (hg:S4 nm path=none) (W0:World) (H:List Grp):Tri Tryz.prog 56 #[pt d,.string path,.string to] W0 ([(d,.cells #[.int .i64 room,bv,.map (some nb),.map (some kb),.map (some cb),.bool fails,.bool once,.int .i64 calls] 72 (0,0))]::[(nb,.map (B2 nm) nc)]::[(cb,.map (B2 cm) cc)]::(G8 rows++H)) (fun v H'=>((B6 fails once calls ((A3 path&&A3 to)&&((D2 path).toList==(D2 to).toList))).1≠0∧v=.int .i64 (B6 fails once calls ((A3 path&&A3 to)&&((D2 path).toList==(D2 to).toList))).1∧H'=([(d,.cells #[.int .i64 room,bv,.map (some nb),.map (some kb),.map (some cb),.bool ((B6 fails once calls ((A3 path&&A3 to)&&((D2 path).toList==(D2 to).toList))).2.1),.bool once,.int .i64 ((B6 fails once calls ((A3 path&&A3 to)&&((D2 path).toList==(D2 to).toList))).2.2)] 72 (0,0))]::[(nb,.map (B2 nm) nc)]::[(cb,.map (B2 cm) cc)]::(G8 rows++H)))∨((B6 fails once calls ((A3 path&&A3 to)&&((D2 path).toList==(D2 to).toList))).1=0∧v=.int .i64 60∧H'=([(d,.cells #[.int .i64 room,bv,.map (some nb),.map (some kb),.map (some cb),.bool ((B6 fails once calls ((A3 path&&A3 to)&&((D2 path).toList==(D2 to).toList))).2.1),.bool once,.int .i64 ((B6 fails once calls ((A3 path&&A3 to)&&((D2 path).toList==(D2 to).toList))).2.2)] 72 (0,0))]::[(nb,.map (B2 nm) nc)]::[(cb,.map (B2 cm) cc)]::(G8 rows++H)))):=by
 refine C8 (args:=[pt d,.string path,.string to]) (n:=47) Tryz.func56 rfl rfl (Nat.le_of_ble_eq_true rfl) ?_
 refine A1 (G_p [0] [0,1,2] (k:=?_))
 refine A0 (A1 ?_)
 refine A1 (A2 ?_)
 refine A7 (j:=2) [0,0] (k:=F6 (vs:=[.string path]) Tryz.func34 (T2 _ hpath _ _) ?_)
 refine A7 (j:=5) [0,0] (k:=J9 (ch:=[(12,true)]) (f:=34) (fst:=#[]) (caps:=#[]) (vs:=[.string to]) (v:=.bool (A3 to)) (hf:=Tryz.func34) (hc:=(fun hc=>T2 _ hto _ _)) (k:=?_))
 refine A7 (j:=9) [6,0,0] (k:=J9 (ch:=[(16,true)]) (f:=38) (fst:=#[]) (caps:=#[]) (vs:=[.string path]) (v:=.string (D2 path)) (hf:=Tryz.func38) (hc:=(fun hc=>Q1 _ hpath _ _)) (k:=?_))
 refine A7 (j:=11) [0] (k:=J9 (ch:=[(16,true)]) (f:=38) (fst:=#[]) (caps:=#[]) (vs:=[.string to]) (v:=.string (D2 to)) (hf:=Tryz.func38) (hc:=(fun hc=>Q1 _ hto _ _)) (k:=?_))
 refine A7 (j:=14) [0,6] (k:=G2 Tryz.func33 (vCall d nb kb cb room calls bv fails once (((A3 path)&&(A3 to))&&((D2 path).toList==(D2 to).toList)) hca _ _) ?_)
 rintro v H' ⟨rfl,rfl⟩
 refine C4 [0] [0,1,2,7] (k:=A0 ?_)
 refine A1 (G_p [0,0] [0,1,2,7,25] (k:=?_))
 refine A0 (C6 (b:=((B6 fails once calls (((A3 path)&&(A3 to))&&((D2 path).toList==(D2 to).toList))).1) != 0) kr (fun hc1=>?_) (fun hc1=>?_))
 ·
  have hce:(B6 fails once calls ((A3 path&&A3 to)&&((D2 path).toList==(D2 to).toList))).1≠0:=by simpa using hc1
  refine A1 (G_p [0,0] [6] (k:=?_))
  refine A0 (C3 ?_)
  refine B3 (C1 [.tmp 6] [.int .i64 ((B6 fails once calls (((A3 path)&&(A3 to))&&((D2 path).toList==(D2 to).toList))).1)] (k:=?_))
  exact .inl ⟨hce,rfl,rfl⟩
 ·
  have hce:(B6 fails once calls ((A3 path&&A3 to)&&((D2 path).toList==(D2 to).toList))).1=0:=by simpa using hc1
  refine B5 (A0 ?_)
  refine A1 (A2 ?_)
  refine A7 (j:=3) [0,0,0] (k:=A5 (ch:=[]) (b:=d) (off:=2) (v:=.map (some nb)) (hA:=At.grp 0 0 rfl rfl) (k:=?_))
  refine A7 (j:=5) [0] (k:=L0 (ch:=[]) (kt:=9) (et:=74) (r:=nb) (c:=nc) (m:=nm) (k:=path) (z:=.pointer none) (ov:=none) (hA:=At.grp 1 0 rfl rfl) (hg:=(fun _=>hg)) (kk:=?_))
  refine C4 [0] [0,1,2,8] (k:=A0 ?_)
  refine A1 (A1 ?_)
  refine G_p [0,0] [0,1,2,8,34] (k:=A0 ?_)
  refine I1 kr (A1 ?_)
  refine B4 (E':=[⟨6,[],.int .i64 60⟩]) [0] [6] (k:=A0 ?_)
  refine C3 (B3 ?_)
  refine C1 [.tmp 6] [.int .i64 60] (k:=?_)
  exact .inr ⟨hce,rfl,rfl⟩
theorem vRename (d nb kb cb nc cc:Nat) (room calls:Int) (bv:Value) (fails once:Bool) (nm cm:SM) (path to:ByteArray) (hpath:path.size≤9223372036854775807) (hto:to.size≤9223372036854775807) (hca:-9223372036854775808≤calls∧calls≤9223372036854775807) (hn:MapOk nm nc) (rows:List RW) (hR:RowsOk cm rows) (hl:∀ r∈rows,r.qs.length≤1000000) (p:Nat) (hg:S4 nm path=some (.pointer (some ⟨p,0,none⟩))) (W0:World) (H:List Grp):Tri Tryz.prog 56 #[pt d,.string path,.string to] W0 ([(d,.cells #[.int .i64 room,bv,.map (some nb),.map (some kb),.map (some cb),.bool fails,.bool once,.int .i64 calls] 72 (0,0))]::[(nb,.map (B2 nm) nc)]::[(cb,.map (B2 cm) cc)]::(G8 rows++H)) (fun v H'=>((B6 fails once calls ((A3 path&&A3 to)&&((D2 path).toList==(D2 to).toList))).1≠0∧v=.int .i64 (B6 fails once calls ((A3 path&&A3 to)&&((D2 path).toList==(D2 to).toList))).1∧H'=([(d,.cells #[.int .i64 room,bv,.map (some nb),.map (some kb),.map (some cb),.bool ((B6 fails once calls ((A3 path&&A3 to)&&((D2 path).toList==(D2 to).toList))).2.1),.bool once,.int .i64 ((B6 fails once calls ((A3 path&&A3 to)&&((D2 path).toList==(D2 to).toList))).2.2)] 72 (0,0))]::[(nb,.map (B2 nm) nc)]::[(cb,.map (B2 cm) cc)]::(G8 rows++H)))∨((B6 fails once calls ((A3 path&&A3 to)&&((D2 path).toList==(D2 to).toList))).1=0∧(((!(path.toList==to.toList))=false∧v=.int .i64 0∧H'=([(d,.cells #[.int .i64 room,bv,.map (some nb),.map (some kb),.map (some cb),.bool ((B6 fails once calls ((A3 path&&A3 to)&&((D2 path).toList==(D2 to).toList))).2.1),.bool once,.int .i64 ((B6 fails once calls ((A3 path&&A3 to)&&((D2 path).toList==(D2 to).toList))).2.2)] 72 (0,0))]::[(nb,.map (B2 nm) nc)]::[(cb,.map (B2 cm) cc)]::(G8 rows++H)))∨((!(path.toList==to.toList))=true∧v=.int .i64 0∧∃ dn xm xc q x rows1,RenC path to p xm xc∧dn.Perm xm∧RowsOk (I3 cm cc (D2 to) x) rows1∧RowsAdd rows (D2 to) q rows1∧H'=([(d,.cells #[.int .i64 room,bv,.map (some nb),.map (some kb),.map (some cb),.bool ((B6 fails once calls ((A3 path&&A3 to)&&((D2 path).toList==(D2 to).toList))).2.1),.bool once,.int .i64 ((B6 fails once calls ((A3 path&&A3 to)&&((D2 path).toList==(D2 to).toList))).2.2)] 72 (0,0))] ::[(nb,.map (B2 (F9 (nm,nc) dn).1) (F9 (nm,nc) dn).2)]::[(cb,.map (B2 (I3 cm cc (D2 to) x)) (if J7 cm (D2 to) then cc else cc+1))]::[(q,.map (B2 xm) xc)]::(G8 rows1++H)))))):=by
 refine C8 (args:=[pt d,.string path,.string to]) (n:=47) Tryz.func56 rfl rfl (Nat.le_of_ble_eq_true rfl) ?_
 refine A1 (G_p [0] [0,1,2] (k:=?_))
 refine A0 (A1 ?_)
 refine A1 (A2 ?_)
 refine A7 (j:=2) [0,0] (k:=F6 (vs:=[.string path]) Tryz.func34 (T2 _ hpath _ _) ?_)
 refine A7 (j:=5) [0,0] (k:=J9 (ch:=[(12,true)]) (f:=34) (fst:=#[]) (caps:=#[]) (vs:=[.string to]) (v:=.bool (A3 to)) (hf:=Tryz.func34) (hc:=(fun hc=>T2 _ hto _ _)) (k:=?_))
 refine A7 (j:=9) [6,0,0] (k:=J9 (ch:=[(16,true)]) (f:=38) (fst:=#[]) (caps:=#[]) (vs:=[.string path]) (v:=.string (D2 path)) (hf:=Tryz.func38) (hc:=(fun hc=>Q1 _ hpath _ _)) (k:=?_))
 refine A7 (j:=11) [0] (k:=J9 (ch:=[(16,true)]) (f:=38) (fst:=#[]) (caps:=#[]) (vs:=[.string to]) (v:=.string (D2 to)) (hf:=Tryz.func38) (hc:=(fun hc=>Q1 _ hto _ _)) (k:=?_))
 refine A7 (j:=14) [0,6] (k:=G2 Tryz.func33 (vCall d nb kb cb room calls bv fails once (((A3 path)&&(A3 to))&&((D2 path).toList==(D2 to).toList)) hca _ _) ?_)
 rintro v H' ⟨rfl,rfl⟩
 refine C4 [0] [0,1,2,7] (k:=A0 ?_)
 refine A1 (G_p [0,0] [0,1,2,7,25] (k:=?_))
 refine A0 (C6 (b:=((B6 fails once calls (((A3 path)&&(A3 to))&&((D2 path).toList==(D2 to).toList))).1) != 0) kr (fun hc1=>?_) (fun hc1=>?_))
 ·
  have hce:(B6 fails once calls ((A3 path&&A3 to)&&((D2 path).toList==(D2 to).toList))).1≠0:=by simpa using hc1
  refine A1 (G_p [0,0] [6] (k:=?_))
  refine A0 (C3 ?_)
  refine B3 (C1 [.tmp 6] [.int .i64 ((B6 fails once calls (((A3 path)&&(A3 to))&&((D2 path).toList==(D2 to).toList))).1)] (k:=?_))
  exact .inl ⟨hce,rfl,rfl⟩
 ·
  have hce:(B6 fails once calls ((A3 path&&A3 to)&&((D2 path).toList==(D2 to).toList))).1=0:=by simpa using hc1
  refine B5 (A0 ?_)
  refine A1 (A2 ?_)
  refine A7 (j:=3) [0,0,0] (k:=A5 (ch:=[]) (b:=d) (off:=2) (v:=.map (some nb)) (hA:=At.grp 0 0 rfl rfl) (k:=?_))
  refine A7 (j:=5) [0] (k:=L0 (ch:=[]) (kt:=9) (et:=74) (r:=nb) (c:=nc) (m:=nm) (k:=path) (z:=.pointer none) (ov:=(some (pt p))) (hA:=At.grp 1 0 rfl rfl) (hg:=(fun _=>hg)) (kk:=?_))
  refine C4 [0] [0,1,2,8] (k:=A0 ?_)
  refine A1 (A1 ?_)
  refine G_p [0,0] [0,1,2,8,34] (k:=A0 ?_)
  refine I2 kr (B5 ?_)
  refine A0 (A1 ?_)
  refine A1 (B4 (E':=[⟨0,[],pt d⟩,⟨1,[],.string path⟩,⟨2,[],.string to⟩,⟨8,[],pt p⟩,⟨37,[],.bool (!(path.toList==to.toList))⟩]) [0,0,0] [0,1,2,8,37] (k:=?_))
  refine A0 (C6 (b:=!(path.toList==to.toList)) kr (fun hc2=>?_) (fun hc2=>?_))
  ·
   have hsm:=hc2
   refine D7 H kr (D0 (fuel:=6) [(0,0),(1,0),(4,0),(5,0),(7,0)] (fun w h=>(Sat.dropApp (((h.erase 2).erase 1).erase 0))) (k:=?_))
   refine O0 2 3 (k:=?_) (k':=?_)
   ·
    refine F6 (vs:=[.string to]) Tryz.func38 (Q1 _ hto _ _) (A6 kr (fun w h=>(Sat.dropApp (((h.erase 2).erase 1).erase 0))) ?_)
    refine B9 3 (k:=R2 (ch:=[]) (k:=(fun b3=>?_)))
    refine A6 kr (fun w h=>(Sat.dropApp ((((h.erase 3).erase 2).erase 1).erase 0))) (O0 6 8 (k:=?_) (k':=?_))
    ·
     refine J8 (ch:=[]) (kt:=9) (et:=74) (r:=b3) (c:=0) (j:=0) (q:=0) (m:=[]) (k:=to) (v:=pt p) (H':=([(b3,.map (B2 ([(to,pt p,0)])) 1)]::[(d,.cells #[.int .i64 room,bv,.map (some nb),.map (some kb),.map (some cb),.bool ((B6 fails once calls (((A3 path)&&(A3 to))&&((D2 path).toList==(D2 to).toList))).2.1),.bool once,.int .i64 ((B6 fails once calls (((A3 path)&&(A3 to))&&((D2 path).toList==(D2 to).toList))).2.2)] 72 (0,0))]::[(nb,.map (B2 nm) nc)]::[(cb,.map (B2 cm) cc)]::(G8 rows++H))) (hop:=.inr rfl) (kk:=A6 kr (fun w h=>(Sat.dropApp ((((h.erase 3).erase 2).erase 1).erase 0))) ?_)
     refine B9 8 (k:=J8 (ch:=[]) (kt:=9) (et:=74) (r:=b3) (c:=1) (j:=0) (q:=0) (m:=[(to,pt p,0)]) (k:=path) (v:=.pointer none) (H':=([(b3,.map (B2 (I3 ([(to,pt p,0)]) 1 path (.pointer none))) (if J7 ([(to,pt p,0)]) path then 1 else 1+1))]::[(d,.cells #[.int .i64 room,bv,.map (some nb),.map (some kb),.map (some cb),.bool ((B6 fails once calls (((A3 path)&&(A3 to))&&((D2 path).toList==(D2 to).toList))).2.1),.bool once,.int .i64 ((B6 fails once calls (((A3 path)&&(A3 to))&&((D2 path).toList==(D2 to).toList))).2.2)] 72 (0,0))]::[(nb,.map (B2 nm) nc)]::[(cb,.map (B2 cm) cc)]::(G8 rows++H))) (hop:=.inr rfl) (kk:=?_))
     refine A6 kr (fun w h=>(Sat.dropApp ((((h.erase 3).erase 2).erase 1).erase 0))) (D0 (fuel:=1) [(9,0)] (fun w h=>(Sat.dropApp ((((h.erase 3).erase 2).erase 1).erase 0))) (k:=?_))
     refine B9 10 (k:=I5 rfl (H':=([(d,.cells #[.int .i64 room,bv,.map (some nb),.map (some kb),.map (some cb),.bool ((B6 fails once calls (((A3 path)&&(A3 to))&&((D2 path).toList==(D2 to).toList))).2.1),.bool once,.int .i64 ((B6 fails once calls (((A3 path)&&(A3 to))&&((D2 path).toList==(D2 to).toList))).2.2)] 72 (0,0))]::[(nb,.map (B2 nm) nc)]::[(cb,.map (B2 cm) cc)]::[(b3,.map (B2 (I3 ([(to,pt p,0)]) 1 path (.pointer none))) (if J7 ([(to,pt p,0)]) path then 1 else 1+1))]::(G8 rows++H))) (fun w h=>(((h.front (j:=3) rfl).front (j:=3) rfl).front (j:=3) rfl)) ?_)
     refine G2 (vs:=[pt d,.string (D2 to),.map (some b3)]) Tryz.func37 (vName d nb kb cb b3 nc cc (if J7 ([(to,pt p,0)]) path then 1 else 1+1) room ((B6 fails once calls (((A3 path)&&(A3 to))&&((D2 path).toList==(D2 to).toList))).2.2) bv ((B6 fails once calls (((A3 path)&&(A3 to))&&((D2 path).toList==(D2 to).toList))).2.1) once nm cm (I3 ([(to,pt p,0)]) 1 path (.pointer none)) (D2 to) hn (MapOk.put (A0b _ _) _ _) (hvput (Q:=fun v=>v=.pointer none∨∃ p,v=.pointer (some ⟨p,0,none⟩)) (hv1 _ _) (.inl rfl)) rows hR hl [[(b3,.map (B2 (I3 ([(to,pt p,0)]) 1 path (.pointer none))) (if J7 ([(to,pt p,0)]) path then 1 else 1+1))]] _ H (At.grp 0 0 rfl rfl)) ?_
     rintro v H' ⟨dn4,x5,rows6,hdn7,rfl,hR8,hA9,rfl⟩
     refine A6 kr (fun w h=>(Sat.dropApp ((((h.erase 3).erase 2).erase 1).erase 0))) (D8 (E':=[]) [] (k:=?_))
     refine A0 (A1 ?_)
     refine B4 (E':=[⟨6,[],.int .i64 0⟩]) [0] [6] (k:=A0 ?_)
     refine C3 (C1 [.tmp 6] [.int .i64 0] (k:=?_))
     exact .inr ⟨hce,.inr ⟨hsm,rfl,_,_,_,_,x5,rows6,.inl ⟨rfl,rfl⟩,hdn7,hR8,hA9,rfl⟩⟩
    ·
     refine J8 (ch:=[]) (kt:=9) (et:=74) (r:=b3) (c:=0) (j:=0) (q:=0) (m:=[]) (k:=path) (v:=.pointer none) (H':=([(b3,.map (B2 ([(path,.pointer none,0)])) 1)]::[(d,.cells #[.int .i64 room,bv,.map (some nb),.map (some kb),.map (some cb),.bool ((B6 fails once calls (((A3 path)&&(A3 to))&&((D2 path).toList==(D2 to).toList))).2.1),.bool once,.int .i64 ((B6 fails once calls (((A3 path)&&(A3 to))&&((D2 path).toList==(D2 to).toList))).2.2)] 72 (0,0))]::[(nb,.map (B2 nm) nc)]::[(cb,.map (B2 cm) cc)]::(G8 rows++H))) (hop:=.inr rfl) (kk:=A6 kr (fun w h=>(Sat.dropApp ((((h.erase 3).erase 2).erase 1).erase 0))) ?_)
     refine B9 6 (k:=J8 (ch:=[]) (kt:=9) (et:=74) (r:=b3) (c:=1) (j:=0) (q:=0) (m:=[(path,.pointer none,0)]) (k:=to) (v:=pt p) (H':=([(b3,.map (B2 (I3 ([(path,.pointer none,0)]) 1 to (pt p))) (if J7 ([(path,.pointer none,0)]) to then 1 else 1+1))]::[(d,.cells #[.int .i64 room,bv,.map (some nb),.map (some kb),.map (some cb),.bool ((B6 fails once calls (((A3 path)&&(A3 to))&&((D2 path).toList==(D2 to).toList))).2.1),.bool once,.int .i64 ((B6 fails once calls (((A3 path)&&(A3 to))&&((D2 path).toList==(D2 to).toList))).2.2)] 72 (0,0))]::[(nb,.map (B2 nm) nc)]::[(cb,.map (B2 cm) cc)]::(G8 rows++H))) (hop:=.inr rfl) (kk:=?_))
     refine A6 kr (fun w h=>(Sat.dropApp ((((h.erase 3).erase 2).erase 1).erase 0))) (D0 (fuel:=1) [(9,0)] (fun w h=>(Sat.dropApp ((((h.erase 3).erase 2).erase 1).erase 0))) (k:=?_))
     refine B9 10 (k:=I5 rfl (H':=([(d,.cells #[.int .i64 room,bv,.map (some nb),.map (some kb),.map (some cb),.bool ((B6 fails once calls (((A3 path)&&(A3 to))&&((D2 path).toList==(D2 to).toList))).2.1),.bool once,.int .i64 ((B6 fails once calls (((A3 path)&&(A3 to))&&((D2 path).toList==(D2 to).toList))).2.2)] 72 (0,0))]::[(nb,.map (B2 nm) nc)]::[(cb,.map (B2 cm) cc)]::[(b3,.map (B2 (I3 ([(path,.pointer none,0)]) 1 to (pt p))) (if J7 ([(path,.pointer none,0)]) to then 1 else 1+1))]::(G8 rows++H))) (fun w h=>(((h.front (j:=3) rfl).front (j:=3) rfl).front (j:=3) rfl)) ?_)
     refine G2 (vs:=[pt d,.string (D2 to),.map (some b3)]) Tryz.func37 (vName d nb kb cb b3 nc cc (if J7 ([(path,.pointer none,0)]) to then 1 else 1+1) room ((B6 fails once calls (((A3 path)&&(A3 to))&&((D2 path).toList==(D2 to).toList))).2.2) bv ((B6 fails once calls (((A3 path)&&(A3 to))&&((D2 path).toList==(D2 to).toList))).2.1) once nm cm (I3 ([(path,.pointer none,0)]) 1 to (pt p)) (D2 to) hn (MapOk.put (A0b _ _) _ _) (hvput (Q:=fun v=>v=.pointer none∨∃ p,v=.pointer (some ⟨p,0,none⟩)) (hv0 _) (.inr ⟨_,rfl⟩)) rows hR hl [[(b3,.map (B2 (I3 ([(path,.pointer none,0)]) 1 to (pt p))) (if J7 ([(path,.pointer none,0)]) to then 1 else 1+1))]] _ H (At.grp 0 0 rfl rfl)) ?_
     rintro v H' ⟨dn10,x11,rows12,hdn13,rfl,hR14,hA15,rfl⟩
     refine A6 kr (fun w h=>(Sat.dropApp ((((h.erase 3).erase 2).erase 1).erase 0))) (D8 (E':=[]) [] (k:=?_))
     refine A0 (A1 ?_)
     refine B4 (E':=[⟨6,[],.int .i64 0⟩]) [0] [6] (k:=A0 ?_)
     refine C3 (C1 [.tmp 6] [.int .i64 0] (k:=?_))
     exact .inr ⟨hce,.inr ⟨hsm,rfl,_,_,_,_,x11,rows12,.inr ⟨rfl,rfl⟩,hdn13,hR14,hA15,rfl⟩⟩
   ·
    refine R2 (ch:=[]) (k:=(fun b16=>?_))
    refine A6 kr (fun w h=>(Sat.dropApp ((((h.erase 3).erase 2).erase 1).erase 0))) (GH_eff3 2 6 8 kr kr kr kr kr kr kr ?_ ?_ ?_)
    ·
     refine F6 (vs:=[.string to]) Tryz.func38 (Q1 _ hto _ _) (A6 kr (fun w h=>(Sat.dropApp ((((h.erase 3).erase 2).erase 1).erase 0))) ?_)
     refine O0 6 8 (k:=?_) (k':=?_)
     ·
      refine J8 (ch:=[]) (kt:=9) (et:=74) (r:=b16) (c:=0) (j:=0) (q:=0) (m:=[]) (k:=to) (v:=pt p) (H':=([(b16,.map (B2 ([(to,pt p,0)])) 1)]::[(d,.cells #[.int .i64 room,bv,.map (some nb),.map (some kb),.map (some cb),.bool ((B6 fails once calls (((A3 path)&&(A3 to))&&((D2 path).toList==(D2 to).toList))).2.1),.bool once,.int .i64 ((B6 fails once calls (((A3 path)&&(A3 to))&&((D2 path).toList==(D2 to).toList))).2.2)] 72 (0,0))]::[(nb,.map (B2 nm) nc)]::[(cb,.map (B2 cm) cc)]::(G8 rows++H))) (hop:=.inr rfl) (kk:=A6 kr (fun w h=>(Sat.dropApp ((((h.erase 3).erase 2).erase 1).erase 0))) ?_)
      refine B9 8 (k:=J8 (ch:=[]) (kt:=9) (et:=74) (r:=b16) (c:=1) (j:=0) (q:=0) (m:=[(to,pt p,0)]) (k:=path) (v:=.pointer none) (H':=([(b16,.map (B2 (I3 ([(to,pt p,0)]) 1 path (.pointer none))) (if J7 ([(to,pt p,0)]) path then 1 else 1+1))]::[(d,.cells #[.int .i64 room,bv,.map (some nb),.map (some kb),.map (some cb),.bool ((B6 fails once calls (((A3 path)&&(A3 to))&&((D2 path).toList==(D2 to).toList))).2.1),.bool once,.int .i64 ((B6 fails once calls (((A3 path)&&(A3 to))&&((D2 path).toList==(D2 to).toList))).2.2)] 72 (0,0))]::[(nb,.map (B2 nm) nc)]::[(cb,.map (B2 cm) cc)]::(G8 rows++H))) (hop:=.inr rfl) (kk:=?_))
      refine A6 kr (fun w h=>(Sat.dropApp ((((h.erase 3).erase 2).erase 1).erase 0))) (D0 (fuel:=1) [(9,0)] (fun w h=>(Sat.dropApp ((((h.erase 3).erase 2).erase 1).erase 0))) (k:=?_))
      refine B9 10 (k:=I5 rfl (H':=([(d,.cells #[.int .i64 room,bv,.map (some nb),.map (some kb),.map (some cb),.bool ((B6 fails once calls (((A3 path)&&(A3 to))&&((D2 path).toList==(D2 to).toList))).2.1),.bool once,.int .i64 ((B6 fails once calls (((A3 path)&&(A3 to))&&((D2 path).toList==(D2 to).toList))).2.2)] 72 (0,0))]::[(nb,.map (B2 nm) nc)]::[(cb,.map (B2 cm) cc)]::[(b16,.map (B2 (I3 ([(to,pt p,0)]) 1 path (.pointer none))) (if J7 ([(to,pt p,0)]) path then 1 else 1+1))]::(G8 rows++H))) (fun w h=>(((h.front (j:=3) rfl).front (j:=3) rfl).front (j:=3) rfl)) ?_)
      refine G2 (vs:=[pt d,.string (D2 to),.map (some b16)]) Tryz.func37 (vName d nb kb cb b16 nc cc (if J7 ([(to,pt p,0)]) path then 1 else 1+1) room ((B6 fails once calls (((A3 path)&&(A3 to))&&((D2 path).toList==(D2 to).toList))).2.2) bv ((B6 fails once calls (((A3 path)&&(A3 to))&&((D2 path).toList==(D2 to).toList))).2.1) once nm cm (I3 ([(to,pt p,0)]) 1 path (.pointer none)) (D2 to) hn (MapOk.put (A0b _ _) _ _) (hvput (Q:=fun v=>v=.pointer none∨∃ p,v=.pointer (some ⟨p,0,none⟩)) (hv1 _ _) (.inl rfl)) rows hR hl [[(b16,.map (B2 (I3 ([(to,pt p,0)]) 1 path (.pointer none))) (if J7 ([(to,pt p,0)]) path then 1 else 1+1))]] _ H (At.grp 0 0 rfl rfl)) ?_
      rintro v H' ⟨dn17,x18,rows19,hdn20,rfl,hR21,hA22,rfl⟩
      refine A6 kr (fun w h=>(Sat.dropApp ((((h.erase 3).erase 2).erase 1).erase 0))) (D8 (E':=[]) [] (k:=?_))
      refine A0 (A1 ?_)
      refine B4 (E':=[⟨6,[],.int .i64 0⟩]) [0] [6] (k:=A0 ?_)
      refine C3 (C1 [.tmp 6] [.int .i64 0] (k:=?_))
      exact .inr ⟨hce,.inr ⟨hsm,rfl,_,_,_,_,x18,rows19,.inl ⟨rfl,rfl⟩,hdn20,hR21,hA22,rfl⟩⟩
     ·
      refine J8 (ch:=[]) (kt:=9) (et:=74) (r:=b16) (c:=0) (j:=0) (q:=0) (m:=[]) (k:=path) (v:=.pointer none) (H':=([(b16,.map (B2 ([(path,.pointer none,0)])) 1)]::[(d,.cells #[.int .i64 room,bv,.map (some nb),.map (some kb),.map (some cb),.bool ((B6 fails once calls (((A3 path)&&(A3 to))&&((D2 path).toList==(D2 to).toList))).2.1),.bool once,.int .i64 ((B6 fails once calls (((A3 path)&&(A3 to))&&((D2 path).toList==(D2 to).toList))).2.2)] 72 (0,0))]::[(nb,.map (B2 nm) nc)]::[(cb,.map (B2 cm) cc)]::(G8 rows++H))) (hop:=.inr rfl) (kk:=A6 kr (fun w h=>(Sat.dropApp ((((h.erase 3).erase 2).erase 1).erase 0))) ?_)
      refine B9 6 (k:=J8 (ch:=[]) (kt:=9) (et:=74) (r:=b16) (c:=1) (j:=0) (q:=0) (m:=[(path,.pointer none,0)]) (k:=to) (v:=pt p) (H':=([(b16,.map (B2 (I3 ([(path,.pointer none,0)]) 1 to (pt p))) (if J7 ([(path,.pointer none,0)]) to then 1 else 1+1))]::[(d,.cells #[.int .i64 room,bv,.map (some nb),.map (some kb),.map (some cb),.bool ((B6 fails once calls (((A3 path)&&(A3 to))&&((D2 path).toList==(D2 to).toList))).2.1),.bool once,.int .i64 ((B6 fails once calls (((A3 path)&&(A3 to))&&((D2 path).toList==(D2 to).toList))).2.2)] 72 (0,0))]::[(nb,.map (B2 nm) nc)]::[(cb,.map (B2 cm) cc)]::(G8 rows++H))) (hop:=.inr rfl) (kk:=?_))
      refine A6 kr (fun w h=>(Sat.dropApp ((((h.erase 3).erase 2).erase 1).erase 0))) (D0 (fuel:=1) [(9,0)] (fun w h=>(Sat.dropApp ((((h.erase 3).erase 2).erase 1).erase 0))) (k:=?_))
      refine B9 10 (k:=I5 rfl (H':=([(d,.cells #[.int .i64 room,bv,.map (some nb),.map (some kb),.map (some cb),.bool ((B6 fails once calls (((A3 path)&&(A3 to))&&((D2 path).toList==(D2 to).toList))).2.1),.bool once,.int .i64 ((B6 fails once calls (((A3 path)&&(A3 to))&&((D2 path).toList==(D2 to).toList))).2.2)] 72 (0,0))]::[(nb,.map (B2 nm) nc)]::[(cb,.map (B2 cm) cc)]::[(b16,.map (B2 (I3 ([(path,.pointer none,0)]) 1 to (pt p))) (if J7 ([(path,.pointer none,0)]) to then 1 else 1+1))]::(G8 rows++H))) (fun w h=>(((h.front (j:=3) rfl).front (j:=3) rfl).front (j:=3) rfl)) ?_)
      refine G2 (vs:=[pt d,.string (D2 to),.map (some b16)]) Tryz.func37 (vName d nb kb cb b16 nc cc (if J7 ([(path,.pointer none,0)]) to then 1 else 1+1) room ((B6 fails once calls (((A3 path)&&(A3 to))&&((D2 path).toList==(D2 to).toList))).2.2) bv ((B6 fails once calls (((A3 path)&&(A3 to))&&((D2 path).toList==(D2 to).toList))).2.1) once nm cm (I3 ([(path,.pointer none,0)]) 1 to (pt p)) (D2 to) hn (MapOk.put (A0b _ _) _ _) (hvput (Q:=fun v=>v=.pointer none∨∃ p,v=.pointer (some ⟨p,0,none⟩)) (hv0 _) (.inr ⟨_,rfl⟩)) rows hR hl [[(b16,.map (B2 (I3 ([(path,.pointer none,0)]) 1 to (pt p))) (if J7 ([(path,.pointer none,0)]) to then 1 else 1+1))]] _ H (At.grp 0 0 rfl rfl)) ?_
      rintro v H' ⟨dn23,x24,rows25,hdn26,rfl,hR27,hA28,rfl⟩
      refine A6 kr (fun w h=>(Sat.dropApp ((((h.erase 3).erase 2).erase 1).erase 0))) (D8 (E':=[]) [] (k:=?_))
      refine A0 (A1 ?_)
      refine B4 (E':=[⟨6,[],.int .i64 0⟩]) [0] [6] (k:=A0 ?_)
      refine C3 (C1 [.tmp 6] [.int .i64 0] (k:=?_))
      exact .inr ⟨hce,.inr ⟨hsm,rfl,_,_,_,_,x24,rows25,.inr ⟨rfl,rfl⟩,hdn26,hR27,hA28,rfl⟩⟩
    ·
     refine J8 (ch:=[]) (kt:=9) (et:=74) (r:=b16) (c:=0) (j:=0) (q:=0) (m:=[]) (k:=to) (v:=pt p) (H':=([(b16,.map (B2 ([(to,pt p,0)])) 1)]::[(d,.cells #[.int .i64 room,bv,.map (some nb),.map (some kb),.map (some cb),.bool ((B6 fails once calls (((A3 path)&&(A3 to))&&((D2 path).toList==(D2 to).toList))).2.1),.bool once,.int .i64 ((B6 fails once calls (((A3 path)&&(A3 to))&&((D2 path).toList==(D2 to).toList))).2.2)] 72 (0,0))]::[(nb,.map (B2 nm) nc)]::[(cb,.map (B2 cm) cc)]::(G8 rows++H))) (hop:=.inr rfl) (kk:=A6 kr (fun w h=>(Sat.dropApp ((((h.erase 3).erase 2).erase 1).erase 0))) ?_)
     refine O0 2 8 (k:=?_) (k':=?_)
     ·
      refine F6 (vs:=[.string to]) Tryz.func38 (Q1 _ hto _ _) (A6 kr (fun w h=>(Sat.dropApp ((((h.erase 3).erase 2).erase 1).erase 0))) ?_)
      refine B9 8 (k:=J8 (ch:=[]) (kt:=9) (et:=74) (r:=b16) (c:=1) (j:=0) (q:=0) (m:=[(to,pt p,0)]) (k:=path) (v:=.pointer none) (H':=([(b16,.map (B2 (I3 ([(to,pt p,0)]) 1 path (.pointer none))) (if J7 ([(to,pt p,0)]) path then 1 else 1+1))]::[(d,.cells #[.int .i64 room,bv,.map (some nb),.map (some kb),.map (some cb),.bool ((B6 fails once calls (((A3 path)&&(A3 to))&&((D2 path).toList==(D2 to).toList))).2.1),.bool once,.int .i64 ((B6 fails once calls (((A3 path)&&(A3 to))&&((D2 path).toList==(D2 to).toList))).2.2)] 72 (0,0))]::[(nb,.map (B2 nm) nc)]::[(cb,.map (B2 cm) cc)]::(G8 rows++H))) (hop:=.inr rfl) (kk:=?_))
      refine A6 kr (fun w h=>(Sat.dropApp ((((h.erase 3).erase 2).erase 1).erase 0))) (D0 (fuel:=1) [(9,0)] (fun w h=>(Sat.dropApp ((((h.erase 3).erase 2).erase 1).erase 0))) (k:=?_))
      refine B9 10 (k:=I5 rfl (H':=([(d,.cells #[.int .i64 room,bv,.map (some nb),.map (some kb),.map (some cb),.bool ((B6 fails once calls (((A3 path)&&(A3 to))&&((D2 path).toList==(D2 to).toList))).2.1),.bool once,.int .i64 ((B6 fails once calls (((A3 path)&&(A3 to))&&((D2 path).toList==(D2 to).toList))).2.2)] 72 (0,0))]::[(nb,.map (B2 nm) nc)]::[(cb,.map (B2 cm) cc)]::[(b16,.map (B2 (I3 ([(to,pt p,0)]) 1 path (.pointer none))) (if J7 ([(to,pt p,0)]) path then 1 else 1+1))]::(G8 rows++H))) (fun w h=>(((h.front (j:=3) rfl).front (j:=3) rfl).front (j:=3) rfl)) ?_)
      refine G2 (vs:=[pt d,.string (D2 to),.map (some b16)]) Tryz.func37 (vName d nb kb cb b16 nc cc (if J7 ([(to,pt p,0)]) path then 1 else 1+1) room ((B6 fails once calls (((A3 path)&&(A3 to))&&((D2 path).toList==(D2 to).toList))).2.2) bv ((B6 fails once calls (((A3 path)&&(A3 to))&&((D2 path).toList==(D2 to).toList))).2.1) once nm cm (I3 ([(to,pt p,0)]) 1 path (.pointer none)) (D2 to) hn (MapOk.put (A0b _ _) _ _) (hvput (Q:=fun v=>v=.pointer none∨∃ p,v=.pointer (some ⟨p,0,none⟩)) (hv1 _ _) (.inl rfl)) rows hR hl [[(b16,.map (B2 (I3 ([(to,pt p,0)]) 1 path (.pointer none))) (if J7 ([(to,pt p,0)]) path then 1 else 1+1))]] _ H (At.grp 0 0 rfl rfl)) ?_
      rintro v H' ⟨dn29,x30,rows31,hdn32,rfl,hR33,hA34,rfl⟩
      refine A6 kr (fun w h=>(Sat.dropApp ((((h.erase 3).erase 2).erase 1).erase 0))) (D8 (E':=[]) [] (k:=?_))
      refine A0 (A1 ?_)
      refine B4 (E':=[⟨6,[],.int .i64 0⟩]) [0] [6] (k:=A0 ?_)
      refine C3 (C1 [.tmp 6] [.int .i64 0] (k:=?_))
      exact .inr ⟨hce,.inr ⟨hsm,rfl,_,_,_,_,x30,rows31,.inl ⟨rfl,rfl⟩,hdn32,hR33,hA34,rfl⟩⟩
     ·
      refine J8 (ch:=[]) (kt:=9) (et:=74) (r:=b16) (c:=1) (j:=0) (q:=0) (m:=[(to,pt p,0)]) (k:=path) (v:=.pointer none) (H':=([(b16,.map (B2 (I3 ([(to,pt p,0)]) 1 path (.pointer none))) (if J7 ([(to,pt p,0)]) path then 1 else 1+1))]::[(d,.cells #[.int .i64 room,bv,.map (some nb),.map (some kb),.map (some cb),.bool ((B6 fails once calls (((A3 path)&&(A3 to))&&((D2 path).toList==(D2 to).toList))).2.1),.bool once,.int .i64 ((B6 fails once calls (((A3 path)&&(A3 to))&&((D2 path).toList==(D2 to).toList))).2.2)] 72 (0,0))]::[(nb,.map (B2 nm) nc)]::[(cb,.map (B2 cm) cc)]::(G8 rows++H))) (hop:=.inr rfl) (kk:=A6 kr (fun w h=>(Sat.dropApp ((((h.erase 3).erase 2).erase 1).erase 0))) ?_)
      refine D0 (fuel:=2) [(9,0)] (fun w h=>(Sat.dropApp ((((h.erase 3).erase 2).erase 1).erase 0))) (k:=B9 2 (k:=?_))
      refine F6 (vs:=[.string to]) Tryz.func38 (Q1 _ hto _ _) (A6 kr (fun w h=>(Sat.dropApp ((((h.erase 3).erase 2).erase 1).erase 0))) ?_)
      refine B9 10 (k:=I5 rfl (H':=([(d,.cells #[.int .i64 room,bv,.map (some nb),.map (some kb),.map (some cb),.bool ((B6 fails once calls (((A3 path)&&(A3 to))&&((D2 path).toList==(D2 to).toList))).2.1),.bool once,.int .i64 ((B6 fails once calls (((A3 path)&&(A3 to))&&((D2 path).toList==(D2 to).toList))).2.2)] 72 (0,0))]::[(nb,.map (B2 nm) nc)]::[(cb,.map (B2 cm) cc)]::[(b16,.map (B2 (I3 ([(to,pt p,0)]) 1 path (.pointer none))) (if J7 ([(to,pt p,0)]) path then 1 else 1+1))]::(G8 rows++H))) (fun w h=>(((h.front (j:=3) rfl).front (j:=3) rfl).front (j:=3) rfl)) ?_)
      refine G2 (vs:=[pt d,.string (D2 to),.map (some b16)]) Tryz.func37 (vName d nb kb cb b16 nc cc (if J7 ([(to,pt p,0)]) path then 1 else 1+1) room ((B6 fails once calls (((A3 path)&&(A3 to))&&((D2 path).toList==(D2 to).toList))).2.2) bv ((B6 fails once calls (((A3 path)&&(A3 to))&&((D2 path).toList==(D2 to).toList))).2.1) once nm cm (I3 ([(to,pt p,0)]) 1 path (.pointer none)) (D2 to) hn (MapOk.put (A0b _ _) _ _) (hvput (Q:=fun v=>v=.pointer none∨∃ p,v=.pointer (some ⟨p,0,none⟩)) (hv1 _ _) (.inl rfl)) rows hR hl [[(b16,.map (B2 (I3 ([(to,pt p,0)]) 1 path (.pointer none))) (if J7 ([(to,pt p,0)]) path then 1 else 1+1))]] _ H (At.grp 0 0 rfl rfl)) ?_
      rintro v H' ⟨dn35,x36,rows37,hdn38,rfl,hR39,hA40,rfl⟩
      refine A6 kr (fun w h=>(Sat.dropApp ((((h.erase 3).erase 2).erase 1).erase 0))) (D8 (E':=[]) [] (k:=?_))
      refine A0 (A1 ?_)
      refine B4 (E':=[⟨6,[],.int .i64 0⟩]) [0] [6] (k:=A0 ?_)
      refine C3 (C1 [.tmp 6] [.int .i64 0] (k:=?_))
      exact .inr ⟨hce,.inr ⟨hsm,rfl,_,_,_,_,x36,rows37,.inl ⟨rfl,rfl⟩,hdn38,hR39,hA40,rfl⟩⟩
    ·
     refine J8 (ch:=[]) (kt:=9) (et:=74) (r:=b16) (c:=0) (j:=0) (q:=0) (m:=[]) (k:=path) (v:=.pointer none) (H':=([(b16,.map (B2 ([(path,.pointer none,0)])) 1)]::[(d,.cells #[.int .i64 room,bv,.map (some nb),.map (some kb),.map (some cb),.bool ((B6 fails once calls (((A3 path)&&(A3 to))&&((D2 path).toList==(D2 to).toList))).2.1),.bool once,.int .i64 ((B6 fails once calls (((A3 path)&&(A3 to))&&((D2 path).toList==(D2 to).toList))).2.2)] 72 (0,0))]::[(nb,.map (B2 nm) nc)]::[(cb,.map (B2 cm) cc)]::(G8 rows++H))) (hop:=.inr rfl) (kk:=A6 kr (fun w h=>(Sat.dropApp ((((h.erase 3).erase 2).erase 1).erase 0))) ?_)
     refine O0 2 6 (k:=?_) (k':=?_)
     ·
      refine F6 (vs:=[.string to]) Tryz.func38 (Q1 _ hto _ _) (A6 kr (fun w h=>(Sat.dropApp ((((h.erase 3).erase 2).erase 1).erase 0))) ?_)
      refine B9 6 (k:=J8 (ch:=[]) (kt:=9) (et:=74) (r:=b16) (c:=1) (j:=0) (q:=0) (m:=[(path,.pointer none,0)]) (k:=to) (v:=pt p) (H':=([(b16,.map (B2 (I3 ([(path,.pointer none,0)]) 1 to (pt p))) (if J7 ([(path,.pointer none,0)]) to then 1 else 1+1))]::[(d,.cells #[.int .i64 room,bv,.map (some nb),.map (some kb),.map (some cb),.bool ((B6 fails once calls (((A3 path)&&(A3 to))&&((D2 path).toList==(D2 to).toList))).2.1),.bool once,.int .i64 ((B6 fails once calls (((A3 path)&&(A3 to))&&((D2 path).toList==(D2 to).toList))).2.2)] 72 (0,0))]::[(nb,.map (B2 nm) nc)]::[(cb,.map (B2 cm) cc)]::(G8 rows++H))) (hop:=.inr rfl) (kk:=?_))
      refine A6 kr (fun w h=>(Sat.dropApp ((((h.erase 3).erase 2).erase 1).erase 0))) (D0 (fuel:=1) [(9,0)] (fun w h=>(Sat.dropApp ((((h.erase 3).erase 2).erase 1).erase 0))) (k:=?_))
      refine B9 10 (k:=I5 rfl (H':=([(d,.cells #[.int .i64 room,bv,.map (some nb),.map (some kb),.map (some cb),.bool ((B6 fails once calls (((A3 path)&&(A3 to))&&((D2 path).toList==(D2 to).toList))).2.1),.bool once,.int .i64 ((B6 fails once calls (((A3 path)&&(A3 to))&&((D2 path).toList==(D2 to).toList))).2.2)] 72 (0,0))]::[(nb,.map (B2 nm) nc)]::[(cb,.map (B2 cm) cc)]::[(b16,.map (B2 (I3 ([(path,.pointer none,0)]) 1 to (pt p))) (if J7 ([(path,.pointer none,0)]) to then 1 else 1+1))]::(G8 rows++H))) (fun w h=>(((h.front (j:=3) rfl).front (j:=3) rfl).front (j:=3) rfl)) ?_)
      refine G2 (vs:=[pt d,.string (D2 to),.map (some b16)]) Tryz.func37 (vName d nb kb cb b16 nc cc (if J7 ([(path,.pointer none,0)]) to then 1 else 1+1) room ((B6 fails once calls (((A3 path)&&(A3 to))&&((D2 path).toList==(D2 to).toList))).2.2) bv ((B6 fails once calls (((A3 path)&&(A3 to))&&((D2 path).toList==(D2 to).toList))).2.1) once nm cm (I3 ([(path,.pointer none,0)]) 1 to (pt p)) (D2 to) hn (MapOk.put (A0b _ _) _ _) (hvput (Q:=fun v=>v=.pointer none∨∃ p,v=.pointer (some ⟨p,0,none⟩)) (hv0 _) (.inr ⟨_,rfl⟩)) rows hR hl [[(b16,.map (B2 (I3 ([(path,.pointer none,0)]) 1 to (pt p))) (if J7 ([(path,.pointer none,0)]) to then 1 else 1+1))]] _ H (At.grp 0 0 rfl rfl)) ?_
      rintro v H' ⟨dn41,x42,rows43,hdn44,rfl,hR45,hA46,rfl⟩
      refine A6 kr (fun w h=>(Sat.dropApp ((((h.erase 3).erase 2).erase 1).erase 0))) (D8 (E':=[]) [] (k:=?_))
      refine A0 (A1 ?_)
      refine B4 (E':=[⟨6,[],.int .i64 0⟩]) [0] [6] (k:=A0 ?_)
      refine C3 (C1 [.tmp 6] [.int .i64 0] (k:=?_))
      exact .inr ⟨hce,.inr ⟨hsm,rfl,_,_,_,_,x42,rows43,.inr ⟨rfl,rfl⟩,hdn44,hR45,hA46,rfl⟩⟩
     ·
      refine J8 (ch:=[]) (kt:=9) (et:=74) (r:=b16) (c:=1) (j:=0) (q:=0) (m:=[(path,.pointer none,0)]) (k:=to) (v:=pt p) (H':=([(b16,.map (B2 (I3 ([(path,.pointer none,0)]) 1 to (pt p))) (if J7 ([(path,.pointer none,0)]) to then 1 else 1+1))]::[(d,.cells #[.int .i64 room,bv,.map (some nb),.map (some kb),.map (some cb),.bool ((B6 fails once calls (((A3 path)&&(A3 to))&&((D2 path).toList==(D2 to).toList))).2.1),.bool once,.int .i64 ((B6 fails once calls (((A3 path)&&(A3 to))&&((D2 path).toList==(D2 to).toList))).2.2)] 72 (0,0))]::[(nb,.map (B2 nm) nc)]::[(cb,.map (B2 cm) cc)]::(G8 rows++H))) (hop:=.inr rfl) (kk:=A6 kr (fun w h=>(Sat.dropApp ((((h.erase 3).erase 2).erase 1).erase 0))) ?_)
      refine D0 (fuel:=2) [(9,0)] (fun w h=>(Sat.dropApp ((((h.erase 3).erase 2).erase 1).erase 0))) (k:=B9 2 (k:=?_))
      refine F6 (vs:=[.string to]) Tryz.func38 (Q1 _ hto _ _) (A6 kr (fun w h=>(Sat.dropApp ((((h.erase 3).erase 2).erase 1).erase 0))) ?_)
      refine B9 10 (k:=I5 rfl (H':=([(d,.cells #[.int .i64 room,bv,.map (some nb),.map (some kb),.map (some cb),.bool ((B6 fails once calls (((A3 path)&&(A3 to))&&((D2 path).toList==(D2 to).toList))).2.1),.bool once,.int .i64 ((B6 fails once calls (((A3 path)&&(A3 to))&&((D2 path).toList==(D2 to).toList))).2.2)] 72 (0,0))]::[(nb,.map (B2 nm) nc)]::[(cb,.map (B2 cm) cc)]::[(b16,.map (B2 (I3 ([(path,.pointer none,0)]) 1 to (pt p))) (if J7 ([(path,.pointer none,0)]) to then 1 else 1+1))]::(G8 rows++H))) (fun w h=>(((h.front (j:=3) rfl).front (j:=3) rfl).front (j:=3) rfl)) ?_)
      refine G2 (vs:=[pt d,.string (D2 to),.map (some b16)]) Tryz.func37 (vName d nb kb cb b16 nc cc (if J7 ([(path,.pointer none,0)]) to then 1 else 1+1) room ((B6 fails once calls (((A3 path)&&(A3 to))&&((D2 path).toList==(D2 to).toList))).2.2) bv ((B6 fails once calls (((A3 path)&&(A3 to))&&((D2 path).toList==(D2 to).toList))).2.1) once nm cm (I3 ([(path,.pointer none,0)]) 1 to (pt p)) (D2 to) hn (MapOk.put (A0b _ _) _ _) (hvput (Q:=fun v=>v=.pointer none∨∃ p,v=.pointer (some ⟨p,0,none⟩)) (hv0 _) (.inr ⟨_,rfl⟩)) rows hR hl [[(b16,.map (B2 (I3 ([(path,.pointer none,0)]) 1 to (pt p))) (if J7 ([(path,.pointer none,0)]) to then 1 else 1+1))]] _ H (At.grp 0 0 rfl rfl)) ?_
      rintro v H' ⟨dn47,x48,rows49,hdn50,rfl,hR51,hA52,rfl⟩
      refine A6 kr (fun w h=>(Sat.dropApp ((((h.erase 3).erase 2).erase 1).erase 0))) (D8 (E':=[]) [] (k:=?_))
      refine A0 (A1 ?_)
      refine B4 (E':=[⟨6,[],.int .i64 0⟩]) [0] [6] (k:=A0 ?_)
      refine C3 (C1 [.tmp 6] [.int .i64 0] (k:=?_))
      exact .inr ⟨hce,.inr ⟨hsm,rfl,_,_,_,_,x48,rows49,.inr ⟨rfl,rfl⟩,hdn50,hR51,hA52,rfl⟩⟩
  ·
   have hsm:=hc2
   refine B5 (A0 ?_)
   refine A1 (B4 (E':=[⟨6,[],.int .i64 0⟩]) [0] [6] (k:=?_))
   refine A0 (C3 ?_)
   refine C1 [.tmp 6] [.int .i64 0] (k:=?_)
   exact .inr ⟨hce,.inl ⟨hsm,rfl,rfl⟩⟩
end Go.Proofs.YtlaoeiaaeifidaaGreat
namespace Go.Sw
open Go.RowKit
theorem run_bounds3 {P:Program} {n cap:Nat} {kd kd':IntKind} (h:n≤cap) (w:World) :
    (Instr.sliceBounds true n cap none (some (.int kd (n:Int))) (some (.int kd' (n:Int)))).run P w=.ok (0,n,n) w:=by
  have h1:(Instr.sliceBound (.int kd' (n:Int)) cap .slice3Acap).run P w=.ok n w:=T3 rfl (by omega) (by omega) w
  have h2:(Instr.sliceBound (.int kd (n:Int)) n .slice3B).run P w=.ok n w:=T3 rfl (by omega) (by omega) w
  simp only [Instr.sliceBounds,Sem.run_bind,if_true,h1,Result.andThen_ok,h2,Sem.run_pure]
theorem GL_clip {d:Bool} {P:Program} {ops:Array Oper} {i:Nat} {Q:G3} {n:Fr} {E:Env} {W0:World} {H:List Grp} {o:Oper} {ch:List (Nat × Bool)} {t e:TypeId} {x hi mx:Operand} {a:Option Addr} {len cap sz:Nat} {kd kd':IntKind}
    (ho:ops[i]? = some o) (hop:o.op=.slice t x none (some hi) (some mx)) (hx:evO E ch x=some (.slice a len cap)) (hhi:evO E ch hi=some (.int kd (len:Int))) (hmx:evO E ch mx=some (.int kd' (len:Int))) (hu:P.underlying t=some (.slice e)) (hsz:Z6 P e=some sz)
    (hch:F3 ops E o.guard=some ch) (hd:H7 n ch o.dst=true) (hk:K3 E ch=true)
    (hb:chB E ch→len≤cap) (ha:len=0∨∃ b off,a=some ⟨b,off,none⟩)
    (k:GL d P ops (i+1) Q n (Env.put E o.dst ch (.slice a len len)) W0 H):GL d P ops i Q n E W0 H:=by
  refine J2 ho hch hd hk (fun r hr hcb w _=>?_) k
  have h0:=hb hcb
  unfold execOp
  simp only [hop]
  rw [hr _ _ hx]
  simp only [Option.map_some,hr _ _ hhi,hr _ _ hmx,Option.map_none,Instr.sliceAt,Instr.slice,Sem.run_bind,run_underlying hu,Result.andThen_ok,run_bounds3 (P:=P) (kd:=kd) (kd':=kd') h0,K0 hsz,Sem.run_pure,Nat.zero_mul]
  refine ⟨rfl,?_⟩
  have e1:(if len=0 then a else a.map (·.add 0))=a:=by
    rcases ha with h | ⟨b,off,rfl⟩
    · rw [if_pos h]
    · split
      · rfl
      · simp [N8]
  rw [e1]; rfl
theorem GL_appendFull {P:Program} {ops:Array Oper} {i:Nat} {Q:G3} {q:Fr} {E:Env} {W0:World} {H:List Grp} {o:Oper} {ch:List (Nat × Bool)} {c:Call} {t tx e:TypeId} {inf:TypeInfo} {z x:Value} {a:Option Addr} {n m:Nat} {cs news:List Value} {S S2:Nat→Obj→Prop}
    (ho:ops[i]? = some o) (hop:o.op=.call c) (hce:c.callee=.builtin .append) (hat:c.argTypes=#[t,tx]) (hargs:evL (evO E ch) c.args.toList=some [.slice a n n,x])
    (ht:P.underlying t=some (.slice e)) (hi:P.info? e=some inf) (hz:inf.zero=some z) (hi1:inf.size=1)
    (hkind:(∃ e',P.underlying tx=some (.slice e'))∨(P.underlying tx=some .string∧inf.size=1))
    (hks:(∃ s,x=.string s)→inf.size=1∧P.underlying tx=some .string) (hkl:(∃ a n c,x=.slice a n c)→∃ e',P.underlying tx=some (.slice e'))
    (hch:F3 ops E o.guard=some ch) (hd:H7 q ch o.dst=true) (hsure:P4 E ch=true)
    (hrd:Rd S a cs) (hcs:cs.length=n) (hna:(a=none∧n=0)∨∃ b off,a=some ⟨b,off,none⟩) (hsrc:SrcOf S2 x m news) (hS:∀ b o,S b o→At W0 H b o) (hS2:∀ b o,S2 b o→At W0 H b o) (hl:news.length=m) (h1:∀ u∈news,u.oneCell'=true)
    (hmax:n+m≤9223372036854775807) (hbytes:(n+m) * inf.bytes≤140737488355328)
    (k:∀ a' cap' g,n+m≤cap'→((a'=none∧n+m=0∧cap'=0)∨∃ b off,a'=some ⟨b,off,none⟩)→Rd (fun b o=>S b o∨inG g b o) a' (cs++news)→GL false P ops (i+1) Q q (Env.put E o.dst ch (.slice a' (n+m) cap')) W0 (g::H)):GL false P ops i Q q E W0 H:=by
  refine Y4 (R:=fun v H1=>∃ a' cap' g,v=.slice a' (n+m) cap'∧n+m≤cap'∧((a'=none∧n+m=0∧cap'=0)∨∃ b off,a'=some ⟨b,off,none⟩)∧Rd (fun b o=>S b o∨inG g b o) a' (cs++news)∧H1=g::H) ho hch hd hsure (fun r hr w hs=>?_) (by rintro v H1 ⟨a',cap',g,rfl,h2,h3,h4,rfl⟩; exact k a' cap' g h2 h3 h4)
  have hS':∀ b o,S b o→w.heap[b]? = some o:=fun b o h=>hs.at (hS b o h)
  have hsrc':Src P inf.size tx x m news w:=srcOf_run hsrc hkind hks hkl (by rw [hi1,Nat.mul_one]; exact hl) h1 (fun b o h=>hs.at (hS2 b o h))
  have hexec:∀ {v:Value} {w':World},(Builtin.append_ #[t,tx] o.type #[.slice a n n,x]).run P w=.ok v w'→(execOp r o).run P w=.ok (.value v) w':=by
    intro v w' h
    unfold execOp
    simp only [hop,resolve,hce,hat,O6 hr hargs,Sem.run_bind,Sem.run_pure,Result.andThen_ok,invoke,Go.builtin,h]
  by_cases hm:m=0
  · subst hm
    have hn:news=[]:=by cases news with | nil=>rfl | cons _ _=>simp at hl
    subst hn
    refine ⟨.slice a n n,w,[]::H,⟨a,n,[],rfl,Nat.le_refl _,hna.imp (fun h=>⟨h.1,h.2,h.2⟩) id,?_,rfl⟩,hs.flat (by simp),.inl (hexec ?_)⟩
    · rw [List.append_nil]; exact hrd.mono fun _ _=>.inl
    · cases a with
      | none=>rcases hsrc'.kind with ⟨e',hk⟩ | hk <;> simp [Builtin.append_,run_underlying ht,run_underlying hk,sizeOf,typeInfo,hi,hsrc'.len,hsrc'.cells]
      | some ad=>rcases hsrc'.kind with ⟨e',hk⟩ | hk <;> simp [Builtin.append_,run_underlying ht,run_underlying hk,sizeOf,typeInfo,hi,hsrc'.len,hsrc'.cells,storeCells]
  · have hold:(Builtin.firstCells inf.size n (.slice a n n)).run P w.drew=.ok cs.toArray w.drew:=by
      rcases hrd with h | ⟨b,off,c2,e2,fz,h2,h3,h4⟩
      · have h0:n=0:=by rw [h] at hcs; simpa using hcs.symm
        subst h0; rw [h]
        cases a with
        | none=>exact run_firstCells_none w.drew _ 0 0 0
        | some ad=>exact run_firstCells_some (P:=P) w.drew inf.size 0 ad 0 0 [] (by simp) (fun j v hv=>by simp at hv)
      · subst h2
        refine run_firstCells_some (P:=P) w.drew inf.size n ⟨b,off,none⟩ n n cs (by rw [hi1,Nat.mul_one]; exact hcs) (fun j v hv=>?_)
        rw [N8]
        exact Z1 (w:=w.drew) (hS' _ _ h3) (h4 j v hv)
    have hg:=run_append_grow_src (P:=P) w t tx o.type e inf z ht hi hz a n n cs hold x m news hsrc' (by omega) (by omega) (growslice_fits (by omega) hbytes)
    have hge:=grownCap_ge w (n+m) n e
    refine ⟨_,_,[(w.heap.size,.cells ((cs++news)++(Builtin.zeroCells z.cells (grownCap w (n+m) n e - (n+m))).toList).toArray e (0,0))]::H,⟨some ⟨w.heap.size,0,none⟩,grownCap w (n+m) n e,_,rfl,hge,.inr ⟨_,_,rfl⟩,?_,rfl⟩,?_,.inl (hexec hg)⟩
    · refine .inr ⟨_,0,_,_,_,rfl,.inr (List.mem_singleton.2 rfl),fun j u hu=>?_⟩
      have hlt:j<(cs++news).length:=by
        rcases Nat.lt_or_ge j (cs++news).length with h | h
        · exact h
        · rw [List.getElem?_eq_none h] at hu; cases hu
      rw [List.getElem?_toArray,Nat.zero_add,List.getElem?_append_left hlt]
      exact hu
    · have h2:=(hs.drew).new (w':=w.drew.alloc (.cells ((cs++news).toArray++Builtin.zeroCells z.cells (grownCap w (n+m) n e - (n+m))) e)) (o:=.cells ((cs++news).toArray++Builtin.zeroCells z.cells (grownCap w (n+m) n e - (n+m))) e) rfl rfl rfl rfl
      have e1:((cs++news)++(Builtin.zeroCells z.cells (grownCap w (n+m) n e - (n+m))).toList).toArray=(cs++news).toArray++Builtin.zeroCells z.cells (grownCap w (n+m) n e - (n+m)):=by apply Array.ext'; simp
      rw [e1]; exact h2
end Go.Sw
namespace Go.Proofs.YtlaoeiaaeifidaaGreat
open Go.Sw Go.Lib Go.Vf Go.RowKit
theorem vClip (an:Option Addr) (n cn:Nat) (hnc:n≤cn) (hna:n=0∨∃ b off,an=some ⟨b,off,none⟩) (W0:World) (H:List Grp):Tri Tryz.prog 64 #[.slice an n cn] W0 H (fun v H'=>v=.slice an n n∧H'=H):=by
 refine C8 (args:=[.slice an n cn]) (n:=9) Tryz.func64 rfl rfl (Nat.le_of_ble_eq_true rfl) ?_
 refine A1 (B4 (E':=[⟨0,[],.slice an n cn⟩]) [0] [0] (k:=?_))
 refine A0 (A1 ?_)
 refine A2 (A7 (j:=5) [0,0,0,0,0] (k:=?_))
 refine GL_clip (i:=5) (ch:=[]) (a:=an) (len:=n) (cap:=cn) (sz:=1) (e:=5) (kd:=.i64) (kd':=.i64) rfl rfl kr kr kr kr kr kr kr kr (fun _=>hnc) hna (D3 (E':=[⟨2,[],.slice an n n⟩]) [0] [2] (k:=?_))
 refine A0 (C3 ?_)
 refine C1 [.tmp 2] [.slice an n n] (k:=?_)
 exact ⟨rfl,rfl⟩
theorem vAppendNoAny (d nb kb cb nc:Nat) (room calls:Int) (bv:Value) (fails once:Bool) (nm:SM) (path:ByteArray) (hpath:path.size≤9223372036854775807) (hca:-9223372036854775808≤calls∧calls≤9223372036854775807) (ao:Option Addr) (k cap:Nat) (hg:S4 nm path=none) (W0:World) (H:List Grp):Tri Tryz.prog 26 #[pt d,.string path,.slice ao k cap] W0 ([(d,.cells #[.int .i64 room,bv,.map (some nb),.map (some kb),.map (some cb),.bool fails,.bool once,.int .i64 calls] 72 (0,0))]::[(nb,.map (B2 nm) nc)]::H) (fun v H'=>((B6 fails once calls (A3 path)).1≠0∧v=.int .i64 (B6 fails once calls (A3 path)).1∧H'=([(d,.cells #[.int .i64 room,bv,.map (some nb),.map (some kb),.map (some cb),.bool ((B6 fails once calls (A3 path)).2.1),.bool once,.int .i64 ((B6 fails once calls (A3 path)).2.2)] 72 (0,0))]::[(nb,.map (B2 nm) nc)]::H))∨((B6 fails once calls (A3 path)).1=0∧v=.int .i64 60∧H'=([(d,.cells #[.int .i64 room,bv,.map (some nb),.map (some kb),.map (some cb),.bool ((B6 fails once calls (A3 path)).2.1),.bool once,.int .i64 ((B6 fails once calls (A3 path)).2.2)] 72 (0,0))]::[(nb,.map (B2 nm) nc)]::H))):=by
 refine C8 (args:=[pt d,.string path,.slice ao k cap]) (n:=46) Tryz.func26 rfl rfl (Nat.le_of_ble_eq_true rfl) ?_
 refine A1 (G_p [0] [0,1,2] (k:=?_))
 refine A0 (A1 ?_)
 refine A1 (A2 ?_)
 refine A7 (j:=2) [0,0] (k:=F6 (vs:=[.string path]) Tryz.func34 (T2 _ hpath _ _) ?_)
 refine G2 Tryz.func33 (vCall d nb kb cb room calls bv fails once (A3 path) hca _ _) ?_
 rintro v H' ⟨rfl,rfl⟩
 refine C4 [0] [0,1,2,7] (k:=A0 ?_)
 refine A1 (G_p [0,0] [0,1,2,7,14] (k:=?_))
 refine A0 (C6 (b:=((B6 fails once calls (A3 path)).1) != 0) kr (fun hc1=>?_) (fun hc1=>?_))
 ·
  have hce:(B6 fails once calls (A3 path)).1≠0:=by simpa using hc1
  refine A1 (G_p [0,0] [6] (k:=?_))
  refine A0 (C3 ?_)
  refine B3 (C1 [.tmp 6] [.int .i64 ((B6 fails once calls (A3 path)).1)] (k:=?_))
  exact .inl ⟨hce,rfl,rfl⟩
 ·
  have hce:(B6 fails once calls (A3 path)).1=0:=by simpa using hc1
  refine B5 (A0 ?_)
  refine A1 (A2 ?_)
  refine A7 (j:=3) [0,0,0] (k:=A5 (ch:=[]) (b:=d) (off:=2) (v:=.map (some nb)) (hA:=At.grp 0 0 rfl rfl) (k:=?_))
  refine A7 (j:=5) [0] (k:=L0 (ch:=[]) (kt:=9) (et:=74) (r:=nb) (c:=nc) (m:=nm) (k:=path) (z:=.pointer none) (ov:=none) (hA:=At.grp 1 0 rfl rfl) (hg:=(fun _=>hg)) (kk:=?_))
  refine C4 [0] [0,2,8] (k:=A0 ?_)
  refine A1 (C5 ?_)
  refine A1 (G_p [0,0,0] [0,2,8,22] (k:=?_))
  refine A0 (I1 kr ?_)
  refine A1 (B4 (E':=[⟨6,[],.int .i64 60⟩]) [0] [6] (k:=?_))
  refine A0 (C3 ?_)
  refine F8 (B3 ?_)
  refine C1 [.tmp 6] [.int .i64 60] (k:=?_)
  exact .inr ⟨hce,rfl,rfl⟩
theorem vAppendAny (d nb kb cb nc:Nat) (room calls:Int) (bv:Value) (fails once:Bool) (nm:SM) (path:ByteArray) (hpath:path.size≤9223372036854775807) (hca:-9223372036854775808≤calls∧calls≤9223372036854775807) (ao:Option Addr) (k cap:Nat) (szf:Value→Nat) (hn:MapOk nm nc) (hs:sumN szf nm≤1000000000000) (p n cn m ck:Nat) (an ak:Option Addr) (hg:S4 nm path=some (.pointer (some ⟨p,0,none⟩))) (S:Nat→Obj→Prop) (l0:List UInt8) (hrd0:Rd S an (u8s l0)) (hl0:l0.length=n) (hnn:n≤1000000000) (hnc:n≤cn) (hna:(an=none∧n=0∧cn=0)∨∃ b off,an=some ⟨b,off,none⟩) (S2:Nat→Obj→Prop) (l:List UInt8) (hao:ao=none→k=0) (hrd:Rd S2 ao (u8s l)) (hl:l.length=k) (hkn:k≤1000000000) (W0:World) (H:List Grp) (hS:∀ y o,S y o→At W0 H y o) (hS2:∀ y o,S2 y o→At W0 H y o) (hB:∀ e∈nm,∃ p1 a c kv,e.2.1=.pointer (some ⟨p1,0,none⟩)∧At W0 ([(p,.cells #[.slice an n cn,.slice ak m ck] 76 (0,0))]::H) p1 (.cells #[.slice a (szf e.2.1) c,kv] 76 (0,0))):Tri Tryz.prog 26 #[pt d,.string path,.slice ao k cap] W0 ([(d,.cells #[.int .i64 room,bv,.map (some nb),.map (some kb),.map (some cb),.bool fails,.bool once,.int .i64 calls] 72 (0,0))]::[(nb,.map (B2 nm) nc)]::[(p,.cells #[.slice an n cn,.slice ak m ck] 76 (0,0))]::H) (fun v H'=>((B6 fails once calls (A3 path)).1≠0∧v=.int .i64 (B6 fails once calls (A3 path)).1∧H'=([(d,.cells #[.int .i64 room,bv,.map (some nb),.map (some kb),.map (some cb),.bool ((B6 fails once calls (A3 path)).2.1),.bool once,.int .i64 ((B6 fails once calls (A3 path)).2.2)] 72 (0,0))]::[(nb,.map (B2 nm) nc)]::[(p,.cells #[.slice an n cn,.slice ak m ck] 76 (0,0))]::H))∨((B6 fails once calls (A3 path)).1=0∧((sumN szf nm:Nat):Int)+(k:Int) > room∧v=.int .i64 61∧H'=([(d,.cells #[.int .i64 room,bv,.map (some nb),.map (some kb),.map (some cb),.bool ((B6 fails once calls (A3 path)).2.1),.bool once,.int .i64 ((B6 fails once calls (A3 path)).2.2)] 72 (0,0))]::[(nb,.map (B2 nm) nc)]::[(p,.cells #[.slice an n cn,.slice ak m ck] 76 (0,0))]::H))∨((B6 fails once calls (A3 path)).1=0∧¬ ((sumN szf nm:Nat):Int)+(k:Int) > room∧v=.int .i64 0∧∃ a' cap' g,n+k≤cap'∧((a'=none∧n+k=0∧cap'=0)∨∃ b off,a'=some ⟨b,off,none⟩)∧Rd (fun b o=>S b o∨inG g b o) a' (u8s l0++u8s l)∧H'=([(d,.cells #[.int .i64 room,bv,.map (some nb),.map (some kb),.map (some cb),.bool ((B6 fails once calls (A3 path)).2.1),.bool once,.int .i64 ((B6 fails once calls (A3 path)).2.2)] 72 (0,0))]::[(nb,.map (B2 nm) nc)]::[(p,.cells #[.slice a' (n+k) cap',.slice ak m ck] 76 (0,0))]::g::H))):=by
 refine C8 (args:=[pt d,.string path,.slice ao k cap]) (n:=46) Tryz.func26 rfl rfl (Nat.le_of_ble_eq_true rfl) ?_
 refine A1 (G_p [0] [0,1,2] (k:=?_))
 refine A0 (A1 ?_)
 refine A1 (A2 ?_)
 refine A7 (j:=2) [0,0] (k:=F6 (vs:=[.string path]) Tryz.func34 (T2 _ hpath _ _) ?_)
 refine G2 Tryz.func33 (vCall d nb kb cb room calls bv fails once (A3 path) hca _ _) ?_
 rintro v H' ⟨rfl,rfl⟩
 refine C4 [0] [0,1,2,7] (k:=A0 ?_)
 refine A1 (G_p [0,0] [0,1,2,7,14] (k:=?_))
 refine A0 (C6 (b:=((B6 fails once calls (A3 path)).1) != 0) kr (fun hc1=>?_) (fun hc1=>?_))
 ·
  have hce:(B6 fails once calls (A3 path)).1≠0:=by simpa using hc1
  refine A1 (G_p [0,0] [6] (k:=?_))
  refine A0 (C3 ?_)
  refine B3 (C1 [.tmp 6] [.int .i64 ((B6 fails once calls (A3 path)).1)] (k:=?_))
  exact .inl ⟨hce,rfl,rfl⟩
 ·
  have hce:(B6 fails once calls (A3 path)).1=0:=by simpa using hc1
  refine B5 (A0 ?_)
  refine A1 (A2 ?_)
  refine A7 (j:=3) [0,0,0] (k:=A5 (ch:=[]) (b:=d) (off:=2) (v:=.map (some nb)) (hA:=At.grp 0 0 rfl rfl) (k:=?_))
  refine A7 (j:=5) [0] (k:=L0 (ch:=[]) (kt:=9) (et:=74) (r:=nb) (c:=nc) (m:=nm) (k:=path) (z:=.pointer none) (ov:=(some (pt p))) (hA:=At.grp 1 0 rfl rfl) (hg:=(fun _=>hg)) (kk:=?_))
  refine C4 [0] [0,2,8] (k:=A0 ?_)
  refine A1 (C5 ?_)
  refine A1 (G_p [0,0,0] [0,2,8,22] (k:=?_))
  refine A0 (I2 kr ?_)
  refine A1 (D7 ([(d,.cells #[.int .i64 room,bv,.map (some nb),.map (some kb),.map (some cb),.bool ((B6 fails once calls (A3 path)).2.1),.bool once,.int .i64 ((B6 fails once calls (A3 path)).2.2)] 72 (0,0))]::[(nb,.map (B2 nm) nc)]::[(p,.cells #[.slice an n cn,.slice ak m ck] 76 (0,0))]::H) kr ?_)
  refine D0 (fuel:=9) [(0,0),(2,0)] (fun w h=>h) (k:=R9 (v:=.int .i64 ((k:Nat):Int)) 3 (hL:=(fun w h=>h)) (k:=?_))
  refine D0 (fuel:=7) [(5,0)] (fun w h=>h) (k:=G0 (ad:=⟨d,0,none⟩) 6 (hL:=(fun w h=>h)) (k:=?_))
  refine D0 (fuel:=5) [(7,0)] (fun w h=>h) (k:=A9 8 (hL:=(fun w h=>h)) (hy:=A5 (i:=8) (ch:=[]) (b:=d) (off:=0) (v:=.int .i64 room) (hA:=At.grp 0 0 rfl rfl) (k:=B1 kr rfl)) (k:=?_))
  refine B9 1 (k:=G2 Tryz.func35 (vUsed d nb kb cb nc room ((B6 fails once calls (A3 path)).2.2) bv ((B6 fails once calls (A3 path)).2.1) once nm szf hn hs _ _ hB) ?_)
  rintro v H' ⟨rfl,rfl⟩
  refine A6 kr (fun w h=>h) (D0 (fuel:=2) [(4,0)] (fun w h=>h) (k:=?_))
  refine O7 30 (((sumN szf nm:Nat):Int)+((k:Nat):Int)) (by omega) (by omega) kr (D0 (fuel:=0) [(9,0),(10,0)] (fun w h=>h) (k:=?_))
  refine D8 (E':=[⟨2,[],.slice ao k cap⟩,⟨8,[],pt p⟩,⟨25,[],.bool (decide ((((sumN szf nm:Nat):Int)+((k:Nat):Int)) > room))⟩]) [2,8,25] (k:=A0 ?_)
  refine C6 (b:=decide ((((sumN szf nm:Nat):Int)+((k:Nat):Int)) > room)) kr (fun hc3=>?_) (fun hc3=>?_)
  ·
   have hro:=of_decide_eq_true hc3
   refine A1 (B4 (E':=[⟨6,[],.int .i64 61⟩]) [0] [6] (k:=?_))
   refine A0 (C3 ?_)
   refine F8 (B3 ?_)
   refine C1 [.tmp 6] [.int .i64 61] (k:=?_)
   exact .inr (.inl ⟨hce,hro,rfl,rfl⟩)
  ·
   have hro:=of_decide_eq_false hc3
   refine B5 (D5 ?_)
   refine A0 (A1 ?_)
   refine A2 (A7 (j:=4) [0,0,0,0] (k:=?_))
   refine A5 (ch:=[]) (b:=p) (off:=0) (v:=.slice an n cn) (hA:=At.grp 2 0 rfl rfl) (k:=F6 Tryz.func64 (vClip an n cn hnc (hna.imp (fun h=>h.2.1) id) _ _) ?_)
   refine A7 (j:=7) [0] (k:=GL_appendFull (i:=7) (ch:=[]) (t:=22) (tx:=22) (e:=5) (inf:=Tryz.t5) (x:=.slice ao k cap) (a:=an) (n:=n) (m:=k) (cs:=(u8s l0)) (news:=(u8s l)) (S:=S) (S2:=S2) rfl rfl rfl rfl kr kr kr rfl rfl (.inl ⟨5,kr⟩) (fun ⟨_,h⟩=>by cases h) (fun _=>⟨5,kr⟩) kr kr kr hrd0 (by rw [u8s_len]; exact hl0) (hna.imp (fun h=>⟨h.1,h.2.1⟩) id) (SrcOf.slice _ _ _ _ hrd hao) (fun y o h=>(At.cons (At.cons (At.cons (hS y o h))))) (fun y o h=>(At.cons (At.cons (At.cons (hS2 y o h))))) (by rw [u8s_len]; exact hl) u8s_one (by omega) (by show (n+k) * 1≤_; omega) (fun a4 cap5 g6 hcap7 haa8 hrd9=>?_))
   refine A7 (j:=10) [0,0] (k:=G4 (ch:=[]) (b:=p) (off:=0) (v:=.slice a4 (n+k) cap5) (j:=3) (g6::[(d,.cells #[.int .i64 room,bv,.map (some nb),.map (some kb),.map (some cb),.bool ((B6 fails once calls (A3 path)).2.1),.bool once,.int .i64 ((B6 fails once calls (A3 path)).2.2)] 72 (0,0))]::[(nb,.map (B2 nm) nc)]::[(p,.cells #[.slice a4 (n+k) cap5,.slice ak m ck] 76 (0,0))]::H) (hoff:=Nat.le_of_ble_eq_true rfl) (hfz:=(fun _ _=>F0)) (k:=?_))
   refine D3 (E':=[]) [] [] (k:=A0 ?_)
   refine A1 (B4 (E':=[⟨6,[],.int .i64 0⟩]) [0] [6] (k:=?_))
   refine A0 (C3 ?_)
   refine E0 (H':=([(d,.cells #[.int .i64 room,bv,.map (some nb),.map (some kb),.map (some cb),.bool ((B6 fails once calls (A3 path)).2.1),.bool once,.int .i64 ((B6 fails once calls (A3 path)).2.2)] 72 (0,0))]::[(nb,.map (B2 nm) nc)]::[(p,.cells #[.slice a4 (n+k) cap5,.slice ak m ck] 76 (0,0))]::g6::H)) (fun w h=>(((h.front (j:=3) rfl).front (j:=3) rfl).front (j:=3) rfl)) (C1 [.tmp 6] [.int .i64 0] (k:=?_))
   exact .inr (.inr ⟨hce,hro,rfl,a4,cap5,g6,hcap7,haa8,hrd9,rfl⟩)
end Go.Proofs.YtlaoeiaaeifidaaGreat
namespace Go.Vf
open Go.Sw Go.RowKit
structure DS where
  nb:Nat
  kb:Nat
  cb:Nat
  nm:SM
  km:SM
  cm:SM
  nc:Nat
  kc:Nat
  cc:Nat
  ba:Option Addr
  bc:Nat
  bg:Grp
  bs:List BE
  rows:List RW
  Z:List Grp
def dkO (M:DM) (s:DS):Obj:=.cells #[.int .i64 M.room,.slice s.ba s.bs.length s.bc,.map (some s.nb),.map (some s.kb),.map (some s.cb),.bool M.fails,.bool M.once,.int .i64 M.calls] 72 (0,0)
def DS.G (s:DS) (d:Nat) (M:DM):List Grp :=
  [(d,dkO M s)]::[(s.nb,.map (B2 s.nm) s.nc)]::[(s.kb,.map (B2 s.km) s.kc)]::[(s.cb,.map (B2 s.cm) s.cc)]::s.bg::G9 s.bs::(G8 s.rows++s.Z)
def inZ (Z:List Grp) (y:Nat) (o:Obj):Prop:=(y,o)∈Z.flatten
theorem A0x {K Z:List Grp} {y:Nat} {o:Obj} (h:inZ Z y o):inZ (K++Z) y o:=by
  unfold inZ at h ⊢
  rw [List.flatten_append]; exact List.mem_append_right _ h
def A0k (bs:List BE):List Nat:=bs.map (·.p)
structure BodyR (S:Nat→Obj→Prop) (b:BE) (B:Body):Prop where
  n:b.n=B.now.size
  cn:b.n≤b.cn
  an:(b.an=none∧b.n=0∧b.cn=0)∨∃ k off,b.an=some ⟨k,off,none⟩
  now:Rd S b.an (u8s B.now.data.toList)
  m:b.m=B.kept.size
  cm:b.m≤b.ck
  am:(b.ak=none∧b.m=0∧b.ck=0)∨∃ k off,b.ak=some ⟨k,off,none⟩
  kept:Rd S b.ak (u8s B.kept.data.toList)
theorem BodyR.mono {S S':Nat→Obj→Prop} {b:BE} {B:Body} (h:BodyR S b B) (hs:∀ y o,S y o→S' y o):BodyR S' b B :=
  ⟨h.n,h.cn,h.an,h.now.mono hs,h.m,h.cm,h.am,h.kept.mono hs⟩
def QR (Z:List Grp) (ps:List Nat) (q:Nat) (l:List Nm):Prop:=∃ x c,inZ Z q (.map (B2 x) c)∧MapOk x c∧ChangeR ps x l
structure DS.ok (s:DS) (M:DM):Prop where
  own:Go.Sw.Own 74 1 (.slice s.ba s.bs.length s.bc) s.bg s.bs.length (s.bs.map fun b=>Value.pointer (some ⟨b.p,0,none⟩))
  nok:MapOk s.nm s.nc
  kok:MapOk s.km s.kc
  cok:MapOk s.cm s.cc
  names:NamesR (A0k s.bs) s.nm M.names
  kept:NamesR (A0k s.bs) s.km M.kept
  rows:RowsOk s.cm s.rows
  chs:∀ d,All2 (QR s.Z (A0k s.bs)) (O1 s.rows d) (J1 M.changes d)
  bods:All2 (BodyR (inZ s.Z)) s.bs M.bodies
structure L5 (M:DM):Prop where
  bodies:M.bodies.length≤100000
  size:∀ B∈M.bodies,B.now.size≤10000000∧B.kept.size≤B.now.size
  names:M.names.length≤10000
  changes:M.changes.length≤100000
  calls:-9223372036854775808≤M.calls∧M.calls≤9223372036854775807
  paths:∀ x∈M.names,x.1.size≤1000000
  dirs:∀ c∈M.changes,c.dir.size≤1000000
theorem ok_call {s:DS} {M:DM} (h:s.ok M) (r:Bool):s.ok (H5 M r):=⟨h.own,h.nok,h.kok,h.cok,h.names,h.kept,h.rows,h.chs,h.bods⟩
def szV (bs:List BE):Value→Nat
  | .pointer (some a)=>match bs.find? (fun b=>b.p==a.block) with | some b=>b.n | none=>0
  | _=>0
theorem szV_of {bs:List BE} (hn:(A0k bs).Nodup):∀ i:Nat,i<bs.length→szV bs (ptrV (bs.getD i default).p)=(bs.getD i default).n:=by
  unfold szV ptrV
  simp only
  induction bs with
  | nil=>intro i h; simp at h
  | cons b bs ih =>
    intro i hi
    unfold A0k at hn
    rw [List.map_cons,List.nodup_cons] at hn
    cases i with
    | zero=>simp
    | succ i =>
      have hi':i<bs.length:=by simpa using hi
      have hne:(b.p==(bs.getD i default).p)=false:=by
        rw [beq_eq_false_iff_ne]; intro h
        refine hn.1 (List.mem_map.2 ⟨bs.getD i default,getD_mem hi',h.symm⟩)
      rw [List.getD_cons_succ,List.find?_cons,hne]
      exact ih hn.2 i hi'
theorem ps_getD {bs:List BE} {i:Nat} (h:i<bs.length):(A0k bs).getD i 0=(bs.getD i default).p:=by
  unfold A0k
  rw [List.getD_eq_getElem?_getD,List.getD_eq_getElem?_getD,List.getElem?_map,List.getElem?_eq_getElem h]; rfl
theorem psOf_len (bs:List BE):(A0k bs).length=bs.length:=by unfold A0k; rw [List.length_map]
theorem sz_at {s:DS} {M:DM} (h:s.ok M) (hn:(A0k s.bs).Nodup) {k:Int} (hk:k.toNat<s.bs.length):szV s.bs (ptrOf (A0k s.bs) k)=Z7 M k:=by
  unfold ptrOf
  rw [ps_getD hk,szV_of hn _ hk]
  exact (h.bods.get default default _ hk).n
theorem sum_used {s:DS} {M:DM} (h:s.ok M) (hn:(A0k s.bs).Nodup):sumN (szV s.bs) s.nm=N9 M:=by
  have hp:=(names_perm h.names h.nok).map fun y=>szV s.bs y.2
  rw [List.map_map,List.map_map] at hp
  have e:=hp.sum_nat
  unfold sumN N9
  rw [show (s.nm.map fun e=>szV s.bs e.2.1)=s.nm.map ((fun y=>szV s.bs y.2) ∘ fun e=>(e.1,e.2.1)) from rfl,e]
  congr 1
  refine List.map_congr_left fun x hx=>?_
  exact sz_at h hn (by have:=(h.names.lt x hx).2; rwa [psOf_len] at this)
theorem A0m {M:DM} (hs:L5 M) (hl:∀ x∈M.names,x.2.toNat<M.bodies.length):N9 M≤100000000000:=by
  have h:∀ l:List Nm,(∀ x∈l,x.2.toNat<M.bodies.length)→(l.map fun x=>Z7 M x.2).sum≤l.length * 10000000:=by
    intro l
    induction l with
    | nil=>intro _; simp
    | cons x l ih =>
      intro hx
      have h1:=ih fun y hy=>hx y (List.mem_cons_of_mem _ hy)
      have h2:Z7 M x.2≤10000000:=by
        have hlt:=hx x List.mem_cons_self
        unfold Z7 I7
        rw [List.getD_eq_getElem?_getD,List.getElem?_eq_getElem hlt]
        exact (hs.size _ (List.getElem_mem hlt)).1
      rw [List.map_cons,List.sum_cons,List.length_cons]
      omega
  have:=h M.names hl
  have h2:=hs.names
  unfold N9
  omega
theorem names_ptr {s:DS} {M:DM} (h:s.ok M) {e:ByteArray × Value × Nat} (he:e∈s.nm):∃ k:Int,E6 M.names e.1=some k∧k.toNat<s.bs.length∧e.2.1=ptrOf (A0k s.bs) k:=by
  obtain ⟨p,v,c⟩:=e
  have h1:=mget_of h.nok.nodup he
  rw [h.names.look] at h1
  cases hl:E6 M.names p with
  | none=>rw [hl] at h1; cases h1
  | some k =>
    rw [hl] at h1
    injection h1 with h1
    exact ⟨k,rfl,by have:=(h.names.lt _ (T6 hl)).2; rwa [psOf_len] at this,h1.symm⟩
theorem names_at {s:DS} {M:DM} (h:s.ok M) (hn:(A0k s.bs).Nodup) {W0:World} {H:List Grp} (hH:∀ x∈G9 s.bs,x∈H.flatten) :
    ∀ e∈s.nm,∃ p a c kv,e.2.1=.pointer (some ⟨p,0,none⟩)∧At W0 H p (.cells #[.slice a (szV s.bs e.2.1) c,kv] 76 (0,0)):=by
  intro e he
  obtain ⟨k,_,hk,h2⟩:=names_ptr h he
  refine ⟨(s.bs.getD k.toNat default).p,(s.bs.getD k.toNat default).an,(s.bs.getD k.toNat default).cn,.slice (s.bs.getD k.toNat default).ak (s.bs.getD k.toNat default).m (s.bs.getD k.toNat default).ck,?_,.inr (hH _ ?_)⟩
  · rw [h2,ptrOf,ps_getD hk]; rfl
  · rw [h2,ptrOf,ps_getD hk,szV_of hn _ hk]
    exact List.mem_of_getElem? (bodyG_at hk)
theorem ps_nodup {s:DS} {d:Nat} {M:DM} {W0:World} {H:List Grp} {w:World} (h:Sat W0 (s.G d M++H) w):(A0k s.bs).Nodup:=by
  have hn:=h.nodup
  have:(G9 s.bs).Sublist (s.G d M++H).flatten:=List.sublist_flatten_of_mem (List.mem_append_left _ (by simp [DS.G]))
  have h2:=hn.sublist (this.map Prod.fst)
  unfold G9 at h2
  rw [List.map_map] at h2
  exact h2
theorem tri_sat {P:Program} {f:FuncId} {args:Array Value} {W0:World} {H:List Grp} {R:Value→List Grp→Prop} (h:(∃ w,Sat W0 H w)→Tri P f args W0 H R):Tri P f args W0 H R:=fun w hs=>h ⟨w,hs⟩ w hs
theorem qr_mono {K Z:List Grp} {ps:List Nat} {q:Nat} {l:List Nm} (h:QR Z ps q l):QR (K++Z) ps q l:=by
  obtain ⟨x,c,h1,h2,h3⟩:=h
  exact ⟨x,c,A0x h1,h2,h3⟩
theorem ok_body {s:DS} {M:DM} (h:s.ok M) {p:Nat} {a1 a2:Option Addr} {n c1 c2:Nat} {g1 bg2:Grp} {b:ByteArray} (hb:b.size=n) (h1:Go.Sw.Own 5 1 (.slice a1 n c1) g1 n (u8s b.data.toList)) (h2:Go.Sw.Own 74 1 (.slice a2 (s.bs.length+1) c2) bg2 (s.bs.length+1) (s.bs.map (fun b=>Value.pointer (some ⟨b.p,0,none⟩))++[.pointer (some ⟨p,0,none⟩)])) :
    DS.ok { s with ba:=a2,bc:=c2,bg:=bg2,bs:=s.bs++[⟨p,a1,n,c1,none,0,0⟩],Z:=g1::s.Z } { M with bodies:=M.bodies++[⟨b,ByteArray.mk #[]⟩] }:=by
  have hps:A0k (s.bs++[⟨p,a1,n,c1,none,0,0⟩])=A0k s.bs++[p]:=by unfold A0k; rw [List.map_append]; rfl
  obtain ⟨a,c,he,hc,hr⟩:=h1.shape
  injection he with e1 e2 e3
  subst e1 e3
  have ha:(a1=none∧n=0∧c1=0)∨∃ k off,a1=some ⟨k,off,none⟩:=by
    obtain ⟨_,⟨he,_,hn⟩ | ⟨k,cap,junk,he,_⟩⟩:=h1
    · injection he with e1 e2 e3; exact .inl ⟨e1,e2,e3⟩
    · injection he with e1 e2 e3; exact .inr ⟨k,0,e1⟩
  refine ⟨?_,h.nok,h.kok,h.cok,?_,?_,h.rows,fun d=>?_,?_⟩
  · simp only [List.length_append,List.length_cons,List.length_nil,List.map_append,List.map_cons,List.map_nil]; exact h2
  · rw [hps]; exact h.names.mono p
  · rw [hps]; exact h.kept.mono p
  · rw [hps]
    refine (h.chs d).imp fun q l ⟨x,c,h1,h2,h3⟩=>⟨x,c,A0x (K:=[g1]) h1,h2,h3.mono p⟩
  · refine (h.bods.imp fun b B hb=>hb.mono fun y o h=>A0x (K:=[g1]) h).app (.cons ⟨hb.symm,hc,ha,hr.mono fun y o h=>?_,rfl,Nat.le_refl _,.inl ⟨rfl,rfl,rfl⟩,.inl rfl⟩ .nil)
    show (y,o)∈(g1::s.Z).flatten
    rw [List.flatten_cons]; exact List.mem_append_left _ h
theorem chOf_snoc (l:List Ch) (c:Ch) (d:ByteArray):J1 (l++[c]) d=if d==c.dir then J1 l d++[c.l] else J1 l d:=by
  unfold J1
  rw [List.filter_append,List.map_append,List.filter_cons]
  cases d==c.dir <;> simp
theorem ok_change {s:DS} {M:DM} (h:s.ok M) {dir:ByteArray} {l:List Nm} {q xc:Nat} {x dn:SM} {cx:Value} {rows1:List RW} (hx:MapOk x xc) (hc:ChangeR (A0k s.bs) x l) (hd:dn.Perm x) (hR:RowsOk (I3 s.cm s.cc dir cx) rows1) (hA:RowsAdd s.rows dir q rows1) :
    DS.ok { s with nm:=(F9 (s.nm,s.nc) dn).1,nc:=(F9 (s.nm,s.nc) dn).2,cm:=I3 s.cm s.cc dir cx,cc:=if J7 s.cm dir then s.cc else s.cc+1,rows:=rows1,Z:=[(q,.map (B2 x) xc)]::s.Z } (O2 M dir l):=by
  refine ⟨h.own,MapOk.fold (s:=(s.nm,s.nc)) h.nok dn,h.kok,h.cok.put _ _,names_apply h.names h.nok hx hc hd,h.kept,hR,fun d=>?_,h.bods.imp fun b B hb=>hb.mono fun y o h=>A0x (K:=[[(q,.map (B2 x) xc)]]) h⟩
  show All2 _ (O1 rows1 d) (J1 (M.changes++[⟨dir,l⟩]) d)
  rw [rowsAdd_of hA,chOf_snoc]
  have h0:=(h.chs d).imp fun q' l' hq=>qr_mono (K:=[[(q,.map (B2 x) xc)]]) hq
  have key:All2 (QR ([[(q,.map (B2 x) xc)]]++s.Z) (A0k s.bs)) (if (d==dir)=true then O1 s.rows d++[q] else O1 s.rows d) (if (d==dir)=true then J1 M.changes d++[l] else J1 M.changes d):=by
    split
    · refine h0.app (.cons ⟨x,xc,?_,hx,hc⟩ .nil)
      show (q,_)∈List.flatten ([(q,_)]::s.Z)
      rw [List.flatten_cons]; exact List.mem_append_left _ (List.mem_singleton.2 rfl)
    · exact h0
  exact key
theorem rows_le {s:DS} {M:DM} (h:s.ok M) (hs:L5 M):∀ r∈s.rows,r.qs.length≤1000000:=by
  intro r hr
  have hk:(s.rows.map (·.dir)).Nodup:=by
    have h1:(s.cm.map (fun e=>(e.1,e.2.1))).map Prod.fst=(s.rows.map (fun r=>(r.dir,r.v))).map Prod.fst:=by rw [h.rows.1]
    rw [List.map_map,List.map_map] at h1
    have h2:=h.cok.nodup
    rw [show (s.cm.map Prod.fst)=s.cm.map (Prod.fst ∘ fun e=>(e.1,e.2.1)) from rfl,h1] at h2
    exact h2
  have hrow:O1 s.rows r.dir=r.qs:=by
    have:∀ rows:List RW,(rows.map (·.dir)).Nodup→r∈rows→O1 rows r.dir=r.qs:=by
      intro rows
      induction rows with
      | nil=>intro _ h; cases h
      | cons y rows ih =>
        intro hn hm
        rw [List.map_cons,List.nodup_cons] at hn
        rw [O1]
        rcases List.mem_cons.1 hm with rfl | hm
        · rw [if_pos (baEq.2 rfl)]
        · rw [if_neg,ih hn.2 hm]
          intro he
          rw [baEq] at he
          exact hn.1 (List.mem_map.2 ⟨r,hm,he⟩)
    exact this s.rows hk hr
  have h1:=(h.chs r.dir).len
  rw [hrow] at h1
  have h2:(J1 M.changes r.dir).length≤M.changes.length:=by
    unfold J1
    rw [List.length_map]; exact List.length_filter_le _ _
  have:=hs.changes
  omega
end Go.Vf
namespace Go.Vf
open Go.Sw Go.RowKit Go.Proofs Go.Proofs.YtlaoeiaaeifidaaGreat
def Is (d:Nat) (M:DM) (v0:Value) (H:List Grp):Value→List Grp→Prop:=fun v H'=>v=v0∧∃ s:DS,s.ok M∧H'=s.G d M++H
def BytesV (W0:World) (H:List Grp) (v:Value) (b:ByteArray):Prop :=
  ∃ a cap S,v=.slice a b.size cap∧Sh a b.size cap∧Rd S a (u8s b.data.toList)∧∀ y o,S y o→At W0 H y o
theorem A0u {s:DS} {M:DM} (h:s.ok M) {p:ByteArray} {k:Int} (hl:E6 M.names p=some k):0≤k∧k.toNat<s.bs.length:=by
  have:=h.names.lt _ (T6 hl)
  rw [psOf_len] at this; exact this
theorem small_at {M:DM} (hm:L5 M) (k:Int):Z7 M k≤10000000:=by
  unfold Z7 I7
  rw [List.getD_eq_getElem?_getD]
  by_cases h:k.toNat<M.bodies.length
  · rw [List.getElem?_eq_getElem h]; exact (hm.size _ (List.getElem_mem h)).1
  · rw [List.getElem?_eq_none (by omega)]; exact Nat.zero_le _
theorem used_small {s:DS} {M:DM} (h:s.ok M) (hm:L5 M):N9 M≤100000000000 :=
  A0m hm fun x hx=>by have:=(h.names.lt x hx).2; rw [psOf_len] at this; rw [← h.bods.len]; exact this
theorem mget_lk {s:DS} {M:DM} (h:s.ok M) {p:ByteArray} {k:Int} (hl:E6 M.names p=some k):S4 s.nm p=some (.pointer (some ⟨(s.bs.getD k.toNat default).p,0,none⟩)):=by
  rw [h.names.look,hl,Option.map_some,ptrOf,ps_getD (A0u h hl).2]; rfl
theorem mget_no {s:DS} {M:DM} (h:s.ok M) {p:ByteArray} (hl:E6 M.names p=none):S4 s.nm p=none:=by rw [h.names.look,hl]; rfl
theorem was_no {M:DM} {p:ByteArray} (hl:E6 M.names p=none):wasM M p=0:=by unfold wasM; rw [hl]
theorem was_yes {s:DS} {M:DM} (h:s.ok M) (hn:(A0k s.bs).Nodup) {p:ByteArray} {k:Int} (hl:E6 M.names p=some k):wasM M p=szV s.bs (.pointer (some ⟨(s.bs.getD k.toNat default).p,0,none⟩)):=by
  unfold wasM
  rw [hl]
  have:=sz_at h hn (A0u h hl).2
  rw [ptrOf,ps_getD (A0u h hl).2] at this
  exact this.symm
theorem get_at {s:DS} {M:DM} (h:s.ok M) (hn:(A0k s.bs).Nodup) {W0:World} {H:List Grp} (hH:∀ x∈G9 s.bs,x∈H.flatten) (p:ByteArray) :
    S4 s.nm p=none∨∃ q a c kv,S4 s.nm p=some (.pointer (some ⟨q,0,none⟩))∧At W0 H q (.cells #[.slice a (szV s.bs (.pointer (some ⟨q,0,none⟩))) c,kv] 76 (0,0)):=by
  cases hl:E6 M.names p with
  | none=>exact .inl (mget_no h hl)
  | some k =>
    have hg:=mget_lk h hl
    obtain ⟨c,he⟩:=mget_mem hg
    obtain ⟨q,a,c,kv,h1,h2⟩:=names_at h hn hH (W0:=W0) _ he
    injection h1 with h1; injection h1 with h1; injection h1 with h1
    refine .inr ⟨_,a,c,kv,hg,?_⟩
    rw [← h1] at h2
    exact h2
theorem change1 {ps:List Nat} {q p:Nat} {path:ByteArray} {k:Nat} (hk:k=ps.length) (hq:q=p):ChangeR (ps++[p]) [(path,.pointer (some ⟨q,0,none⟩),0)] [(path,(k:Int))]:=by
  subst hk hq
  refine ⟨fun x=>?_,by simp,fun y hy _=>by rw [List.mem_singleton.1 hy]; simp⟩
  rw [N6,E6]
  cases x==path
  · rfl
  · simp [chV,ptrOf,ptrV]
theorem body_sub {bs:List BE} {H:List Grp} (h:G9 bs∈H):∀ x∈G9 bs,x∈H.flatten:=fun _ hx=>List.mem_flatten.2 ⟨_,h,hx⟩
def lowW (s:DS) (M:DM) (d:Nat) (H:List Grp):List Grp :=
  [(d,dkO M s)]::[(s.nb,.map (B2 s.nm) s.nc)]::[(s.cb,.map (B2 s.cm) s.cc)]::s.bg::(G8 s.rows++([(s.kb,.map (B2 s.km) s.kc)]::G9 s.bs::(s.Z++H)))
theorem lowW_from {s:DS} {M:DM} {d:Nat} {H:List Grp} {W0:World} {w:World} (hw:Sat W0 (lowW s M d H) w):Sat W0 (s.G d M++H) w:=K6 hw fun _ x=>by
  simp only [DS.G,lowW,List.cons_append,List.append_assoc]
  simp only [List.flatten_cons,List.flatten_append,List.count_append]
  omega
theorem lowW_to {s:DS} {M:DM} {d:Nat} {H:List Grp} {W0:World} {w:World} (hw:Sat W0 (s.G d M++H) w):Sat W0 (lowW s M d H) w:=K6 hw fun _ x=>by
  simp only [DS.G,lowW,List.cons_append,List.append_assoc]
  simp only [List.flatten_cons,List.flatten_append,List.count_append]
  omega
theorem writeM_err {M:DM} {p b:ByteArray} (h:V5 M (A3 p)≠0):D9 M p b=(V5 M (A3 p),H5 M (A3 p)):=by unfold D9; rw [if_pos h]
theorem A0l {M:DM} {p b:ByteArray} (h:V5 M (A3 p)=0) (h1:(N9 M:Int) - (wasM M p:Int)+(b.size:Int) > M.room):D9 M p b=(61,H5 M (A3 p)):=by
  unfold D9; rw [if_neg (by simpa using h),if_pos h1]
theorem X3 {M:DM} {p b:ByteArray} (h:V5 M (A3 p)=0) (h1:¬ (N9 M:Int) - (wasM M p:Int)+(b.size:Int) > M.room):D9 M p b=(0,O2 { H5 M (A3 p) with bodies:=M.bodies++[⟨b,ByteArray.mk #[]⟩] } (D2 p) [(p,(M.bodies.length:Int))]):=by
  unfold D9; rw [if_neg (by simpa using h),if_neg h1]
theorem cWrite {s:DS} {M:DM} (h:s.ok M) (hm:L5 M) (d:Nat) (path b:ByteArray) (hpath:path.size≤9223372036854775807) (hb:b.size≤1000000000) (W0:World) (H:List Grp) {bv:Value} (hbv:BytesV W0 H bv b) :
    Tri Tryz.prog 9 #[.pointer (some ⟨d,0,none⟩),.string path,bv] W0 (s.G d M++H) (Is d (D9 M path b).2 (.int .i64 (D9 M path b).1) H):=by
  refine tri_sat fun ⟨w0,hw0⟩=>?_
  have hn:=ps_nodup hw0
  have hsum:=sum_used h hn
  have hus:=used_small h hm
  have hsub:∀ x∈G9 s.bs,x∈(G8 s.rows++([(s.kb,.map (B2 s.km) s.kc)]::G9 s.bs::(s.Z++H))).flatten:=body_sub (by simp)
  have hw:∀ v,S4 s.nm path=some v→szV s.bs v≤1000000000000:=fun v hv=>by
    obtain ⟨c,he⟩:=mget_mem hv
    obtain ⟨k,_,hk,h2⟩:=names_ptr h he
    rw [show v=_ from h2,sz_at h hn hk]
    have:=small_at hm k
    omega
  have hlen:=h.bods.len
  have hmb:=hm.bodies
  have hfail:∀ (e:Int),(D9 M path b).1=e→(D9 M path b).2=H5 M (A3 path)→∀ (v:Value) (H1:List Grp),v=.int .i64 e→H1=lowW s (H5 M (A3 path)) d H→∃ H2,Is d (D9 M path b).2 (.int .i64 (D9 M path b).1) H v H2∧∀ w,Sat W0 H1 w→Sat W0 H2 w:=by
    intro e e1 e2 v H1 hv hH
    refine ⟨_,⟨by rw [e1]; exact hv,s,by rw [e2]; exact ok_call h _,rfl⟩,fun w hw=>?_⟩
    rw [hH] at hw
    rw [e2]
    exact lowW_from hw
  have hdone:∀ (a1 a2:Option Addr) (n c1 c2 p q:Nat) (g1 bg2:Grp) (cx:Value) (rows1:List RW),(D9 M path b).1=0→(D9 M path b).2=O2 { H5 M (A3 path) with bodies:=M.bodies++[⟨b,ByteArray.mk #[]⟩] } (D2 path) [(path,(M.bodies.length:Int))] →
      b.size=n→Go.Sw.Own 5 1 (.slice a1 n c1) g1 n (u8s b.data.toList)→Go.Sw.Own 74 1 (.slice a2 (s.bs.length+1) c2) bg2 (s.bs.length+1) (s.bs.map (fun b=>Value.pointer (some ⟨b.p,0,none⟩))++[.pointer (some ⟨p,0,none⟩)])→RowsOk (I3 s.cm s.cc (D2 path) cx) rows1→RowsAdd s.rows (D2 path) q rows1 →
      ∀ (v:Value) (H1:List Grp),v=.int .i64 0→(∀ w,Sat W0 H1 w→Sat W0 ([(d,.cells #[.int .i64 M.room,.slice a2 (s.bs.length+1) c2,.map (some s.nb),.map (some s.kb),.map (some s.cb),.bool (B6 M.fails M.once M.calls (A3 path)).2.1,.bool M.once,.int .i64 (B6 M.fails M.once M.calls (A3 path)).2.2] 72 (0,0))]::[(s.nb,.map (B2 (F9 (s.nm,s.nc) [(path,.pointer (some ⟨p,0,none⟩),0)]).1) (F9 (s.nm,s.nc) [(path,.pointer (some ⟨p,0,none⟩),0)]).2)]::[(s.cb,.map (B2 (I3 s.cm s.cc (D2 path) cx)) (if J7 s.cm (D2 path) then s.cc else s.cc+1))]::[(q,.map (B2 [(path,.pointer (some ⟨p,0,none⟩),0)]) 1)]::bg2::[(p,.cells #[.slice a1 n c1,.slice none 0 0] 76 (0,0))]::g1::(G8 rows1++([(s.kb,.map (B2 s.km) s.kc)]::G9 s.bs::(s.Z++H)))) w) →
      ∃ H2,Is d (D9 M path b).2 (.int .i64 (D9 M path b).1) H v H2∧∀ w,Sat W0 H1 w→Sat W0 H2 w:=by
    intro a1 a2 n c1 c2 p q g1 bg2 cx rows1 e1 e2 hbn ho1 ho2 hR hA v H1 hv hH
    have k1:=ok_body (ok_call h (A3 path)) hbn ho1 ho2
    have hc:ChangeR (A0k (s.bs++[⟨p,a1,n,c1,none,0,0⟩])) [(path,.pointer (some ⟨p,0,none⟩),0)] [(path,(M.bodies.length:Int))]:=by
      rw [show A0k (s.bs++[⟨p,a1,n,c1,none,0,0⟩])=A0k s.bs++[p] by unfold A0k; rw [List.map_append]; rfl]
      exact change1 (by rw [psOf_len,hlen]) rfl
    have k2:=ok_change (dir:=D2 path) k1 (A0b _ _) hc (List.Perm.refl _) hR hA
    refine ⟨_,⟨by rw [e1]; exact hv,_,by rw [e2]; exact k2,rfl⟩,fun w hw=>?_⟩
    rw [e2]
    refine K6 (hH w hw) fun _ x=>?_
    simp only [DS.G,dkO,O2,H5,G9,beO,List.map_append,List.map_cons,List.map_nil,List.length_append,List.length_cons,List.length_nil,Nat.zero_add,List.cons_append,List.append_assoc]
    simp only [List.flatten_cons,List.flatten_append,List.count_append]
    omega
  obtain ⟨a,cap,S,rfl,hsh,hrd,hS⟩:=hbv
  · refine Tri.heap (fun w hw=>lowW_to hw) (Tri.post (vWriteAny d s.nb s.kb s.cb s.nc s.cc M.room M.calls _ s.bg _ s.bs.length M.fails M.once s.nm s.cm path (szV s.bs) hpath hm.calls h.nok (by rw [hsum]; omega) hw h.own (by omega) s.rows h.rows (rows_le h hm) a b.size cap S b.data.toList hsh hrd (Array.length_toList) hb W0 ([(s.kb,.map (B2 s.km) s.kc)]::G9 s.bs::(s.Z++H)) (get_at h hn hsub path) (fun y o hy=>X8 (.cons (.cons (X8 (hS y o hy))))) (names_at h hn hsub)) fun v H1 hr=>?_)
    · rw [hsum] at hr
      rcases hr with ⟨hce,hv,hH⟩ | ⟨hce,hro,hv,hH⟩ | ⟨hce,hro,hv,p,q,a1,c1,a2,c2,cx,rows1,g1,bg2,ho1,ho2,hR,hA,hH⟩
      · exact hfail _ (by rw [writeM_err hce]; rfl) (by rw [writeM_err hce]) v H1 hv hH
      · have hro':(N9 M:Int) - (wasM M path:Int)+(b.size:Int) > M.room:=by
          cases hl:E6 M.names path with
          | none=>rw [mget_no h hl] at hro; rw [was_no hl]; exact hro
          | some k=>rw [mget_lk h hl] at hro; rw [was_yes h hn hl]; exact hro
        exact hfail 61 (by rw [A0l hce hro']) (by rw [A0l hce hro']) v H1 hv hH
      · have hro':¬ (N9 M:Int) - (wasM M path:Int)+(b.size:Int) > M.room:=by
          cases hl:E6 M.names path with
          | none=>rw [mget_no h hl] at hro; rw [was_no hl]; exact hro
          | some k=>rw [mget_lk h hl] at hro; rw [was_yes h hn hl]; exact hro
        refine hdone a1 a2 b.size c1 c2 p q g1 bg2 cx rows1 (by rw [X3 hce hro']) (by rw [X3 hce hro']) rfl ho1 ho2 hR hA v H1 hv fun w hw=>?_
        rw [hH] at hw
        exact hw
end Go.Vf
namespace Go.Vf
open Go.Sw Go.RowKit Go.Proofs Go.Proofs.YtlaoeiaaeifidaaGreat
theorem tlEq {a b:ByteArray}:(a.toList==b.toList)=(a==b):=by
  cases h:a==b
  · rw [beq_eq_false_iff_ne]
    intro he
    rw [baNe] at h
    rw [Lib.toList_data,Lib.toList_data] at he
    refine h ?_
    cases a with | mk a=>cases b with | mk b=>cases a with | mk a=>cases b with | mk b=>simpa using he
  · rw [baEq] at h; subst h; exact beq_self_eq_true _
theorem N5 {s:DS} {M M':DM} {d:Nat} {W0:World} {H H1:List Grp} {v v0:Value} (h:s.ok M) (r:Bool) (hM:M'=H5 M r) (hv:v=v0) (hH:∀ w,Sat W0 H1 w→Sat W0 (s.G d (H5 M r)++H) w) :
    ∃ H2,Is d M' v0 H v H2∧∀ w,Sat W0 H1 w→Sat W0 H2 w:=⟨_,⟨hv,s,by rw [hM]; exact ok_call h r,rfl⟩,fun w hw=>by rw [hM]; exact hH w hw⟩
def low3 (s:DS) (M:DM) (d:Nat) (H:List Grp):List Grp :=
  [(d,dkO M s)]::[(s.nb,.map (B2 s.nm) s.nc)]::[(s.cb,.map (B2 s.cm) s.cc)]::(G8 s.rows++(s.bg::[(s.kb,.map (B2 s.km) s.kc)]::G9 s.bs::(s.Z++H)))
theorem low3_from {s:DS} {M:DM} {d:Nat} {H:List Grp} {W0:World} {w:World} (hw:Sat W0 (low3 s M d H) w):Sat W0 (s.G d M++H) w:=K6 hw fun _ x=>by
  simp only [DS.G,low3,List.cons_append,List.append_assoc]
  simp only [List.flatten_cons,List.flatten_append,List.count_append]
  omega
theorem low3_to {s:DS} {M:DM} {d:Nat} {H:List Grp} {W0:World} {w:World} (hw:Sat W0 (s.G d M++H) w):Sat W0 (low3 s M d H) w:=K6 hw fun _ x=>by
  simp only [DS.G,low3,List.cons_append,List.append_assoc]
  simp only [List.flatten_cons,List.flatten_append,List.count_append]
  omega
theorem T0 {M:DM} {p q:ByteArray} (h:V5 M (renR p q)≠0):J3 M p q=(V5 M (renR p q),H5 M (renR p q)):=by unfold J3; rw [if_pos h]
theorem renameM_no {M:DM} {p q:ByteArray} (h:V5 M (renR p q)=0) (hl:E6 M.names p=none):J3 M p q=(60,H5 M (renR p q)):=by unfold J3; rw [if_neg (by simpa using h),hl]
theorem Y2 {M:DM} {p q:ByteArray} {k:Int} (h:V5 M (renR p q)=0) (hl:E6 M.names p=some k) (he:(p==q)=true):J3 M p q=(0,H5 M (renR p q)):=by unfold J3; rw [if_neg (by simpa using h),hl]; simp only; rw [if_pos he]
theorem X0 {M:DM} {p q:ByteArray} {k:Int} (h:V5 M (renR p q)=0) (hl:E6 M.names p=some k) (he:(p==q)=false):J3 M p q=(0,O2 (H5 M (renR p q)) (D2 q) [(p,-1),(q,k)]):=by unfold J3; rw [if_neg (by simpa using h),hl]; simp only; rw [if_neg (by rw [he]; decide)]
theorem ren_change {ps:List Nat} {path to:ByteArray} {p:Nat} {k:Int} (hne:(path==to)=false) {xm:SM} {xc:Nat} (hc:RenC path to p xm xc) (hk:0≤k) (hk2:k.toNat<ps.length) (hp:ptrOf ps k=.pointer (some ⟨p,0,none⟩)) :
    MapOk xm xc∧ChangeR ps xm [(path,-1),(to,k)]:=by
  have hne':(to==path)=false:=by rw [baNe] at hne ⊢; exact fun e=>hne e.symm
  have hkeys:(([(path,-1),(to,k)]:List Nm).map Prod.fst).Nodup:=by
    simp only [List.map_cons,List.map_nil,List.nodup_cons,List.mem_singleton,List.not_mem_nil,not_false_eq_true,List.nodup_nil,and_true]
    rw [baNe] at hne; exact hne
  have hlt:∀ y∈([(path,-1),(to,k)]:List Nm),0≤y.2→y.2.toNat<ps.length:=by
    intro y hy h0
    rcases List.mem_cons.1 hy with rfl | hy
    · exact absurd (show (0:Int)≤-1 from h0) (by decide)
    · rw [List.mem_singleton.1 hy]; exact hk2
  have hchk:chV ps k=.pointer (some ⟨p,0,none⟩):=by unfold chV; rw [if_pos hk]; exact hp
  rcases hc with ⟨rfl,rfl⟩ | ⟨rfl,rfl⟩
  · refine ⟨(A0b _ _).put _ _,fun x=>?_,hkeys,hlt⟩
    rw [mget_put,N6,E6,E6]
    cases h1:x==path
    · cases h2:x==to
      · rfl
      · simp [hchk]
    · simp [chV]
  · refine ⟨(A0b _ _).put _ _,fun x=>?_,hkeys,hlt⟩
    rw [mget_put,N6,E6,E6]
    cases h1:x==path
    · cases h2:x==to
      · rfl
      · simp [hchk]
    · rw [baEq] at h1; subst h1
      simp [hne,chV]
theorem cRename {s:DS} {M:DM} (h:s.ok M) (hm:L5 M) (d:Nat) (path to:ByteArray) (hpath:path.size≤9223372036854775807) (hto:to.size≤9223372036854775807) (W0:World) (H:List Grp) :
    Tri Tryz.prog 56 #[.pointer (some ⟨d,0,none⟩),.string path,.string to] W0 (s.G d M++H) (Is d (J3 M path to).2 (.int .i64 (J3 M path to).1) H):=by
  cases hl:E6 M.names path with
  | none =>
    refine Tri.heap (fun w hw=>low3_to hw) (Tri.post (vRenameNo d s.nb s.kb s.cb s.nc s.cc M.room M.calls _ M.fails M.once s.nm s.cm path to hpath hto hm.calls h.nok s.rows h.rows (rows_le h hm) (mget_no h hl) W0 _) fun v H1 hr=>?_)
    rcases hr with ⟨hce,hv,hH⟩ | ⟨hce,hv,hH⟩
    · exact N5 h (renR path to) (by rw [T0 hce]) (by rw [T0 hce]; exact hv) fun w hw=>by rw [hH] at hw; exact low3_from hw
    · exact N5 h (renR path to) (by rw [renameM_no hce hl]) (by rw [renameM_no hce hl]; exact hv) fun w hw=>by rw [hH] at hw; exact low3_from hw
  | some k =>
    refine Tri.heap (fun w hw=>low3_to hw) (Tri.post (vRename d s.nb s.kb s.cb s.nc s.cc M.room M.calls _ M.fails M.once s.nm s.cm path to hpath hto hm.calls h.nok s.rows h.rows (rows_le h hm) _ (mget_lk h hl) W0 _) fun v H1 hr=>?_)
    rcases hr with ⟨hce,hv,hH⟩ | ⟨hce,⟨he,hv,hH⟩ | ⟨he,hv,dn,xm,xc,q,cx,rows1,hC,hd,hR,hA,hH⟩⟩
    · exact N5 h (renR path to) (by rw [T0 hce]) (by rw [T0 hce]; exact hv) fun w hw=>by rw [hH] at hw; exact low3_from hw
    · have he':(path==to)=true:=by rw [tlEq] at he; simpa using he
      exact N5 h (renR path to) (by rw [Y2 hce hl he']) (by rw [Y2 hce hl he']; exact hv) fun w hw=>by rw [hH] at hw; exact low3_from hw
    · have he':(path==to)=false:=by rw [tlEq] at he; simpa using he
      have hlt:=h.names.lt _ (T6 hl)
      obtain ⟨hx,hc⟩:=ren_change (ps:=A0k s.bs) he' hC hlt.1 hlt.2 (by rw [ptrOf,ps_getD (A0u h hl).2]; rfl)
      have k2:=ok_change (dir:=D2 to) (ok_call h (renR path to)) hx hc hd hR hA
      refine ⟨_,⟨by rw [X0 hce hl he']; exact hv,_,by rw [X0 hce hl he']; exact k2,rfl⟩,fun w hw=>?_⟩
      rw [hH] at hw
      rw [X0 hce hl he']
      refine K6 hw fun _ x=>?_
      simp only [DS.G,dkO,O2,H5,renR,List.cons_append,List.append_assoc]
      simp only [List.flatten_cons,List.flatten_append,List.count_append]
      omega
theorem cFail {s:DS} {M:DM} (h:s.ok M) (d:Nat) (n:Int) (o:Bool) (W0:World) (H:List Grp) :
    Tri Tryz.prog 24 #[.pointer (some ⟨d,0,none⟩),.int .i64 n,.bool o] W0 (s.G d M++H) (Is d (failM M n o) (.tuple #[]) H):=by
  refine (vFail d s.nb s.kb s.cb M.room M.calls (.slice s.ba s.bs.length s.bc) M.fails M.once n o W0 _).mono fun v H' ⟨hv,hH⟩=>⟨hv,s,⟨h.own,h.nok,h.kok,h.cok,h.names,h.kept,h.rows,h.chs,h.bods⟩,hH⟩
theorem cNew (room:Int) (W0:World) (H:List Grp):Tri Tryz.prog 8 #[.int .i64 room] W0 H (fun v H'=>∃ d,v=.pointer (some ⟨d,0,none⟩)∧∃ s:DS,s.ok (newM room)∧H'=s.G d (newM room)++H):=by
  refine Tri.post (vNew room W0 H) fun v H1 ⟨d,nb,kb,cb,hv,hH⟩=>?_
  have h0:MapOk [] 0:=⟨List.Pairwise.nil,List.nodup_nil,fun _ h=>absurd h List.not_mem_nil⟩
  have hN:NamesR [] [] []:=⟨fun _=>rfl,List.nodup_nil,fun _ h=>absurd h List.not_mem_nil⟩
  refine ⟨_,⟨d,hv,⟨nb,kb,cb,[],[],[],0,0,0,none,0,[],[],[],[]⟩,⟨Go.Sw.Own.nil,h0,h0,h0,hN,hN,⟨rfl,fun _ h=>absurd h List.not_mem_nil⟩,fun _=>.nil,.nil⟩,rfl⟩,fun w hw=>?_⟩
  rw [hH] at hw
  refine K6 hw fun _ x=>?_
  simp only [DS.G,dkO,newM,G9,G8,List.map_nil,List.length_nil,List.nil_append,List.cons_append]
  simp only [List.flatten_cons,List.count_append,List.count_nil]
  omega
end Go.Vf
namespace Go.Vf
open Go.Sw Go.RowKit Go.Proofs Go.Proofs.YtlaoeiaaeifidaaGreat
theorem sortL_pw (l:List (List UInt8)):(l.mergeSort fun x y=>decide (x≤y)).Pairwise fun a b=>a≤b:=by
  have:=List.pairwise_mergeSort (le:=fun x y:List UInt8=>decide (x≤y)) (fun a b c h1 h2=>by
    rw [decide_eq_true_eq] at h1 h2 ⊢; exact List.le_trans h1 h2) (fun a b=>by
    rw [Bool.or_eq_true,decide_eq_true_eq,decide_eq_true_eq]; exact List.le_total a b) l
  exact this.imp fun h=>by rwa [decide_eq_true_eq] at h
theorem sortB_congr {a b:List ByteArray} (h:a.Perm b):V7 a=V7 b:=by
  unfold V7
  have hp:((a.map fun s=>s.data.toList).mergeSort fun x y=>decide (x≤y)).Perm ((b.map fun s=>s.data.toList).mergeSort fun x y=>decide (x≤y)) :=
    (List.mergeSort_perm _ _).trans ((h.map _).trans (List.mergeSort_perm _ _).symm)
  rw [hp.eq_of_pairwise (le:=fun a b=>a≤b) (fun a b _ _ h1 h2=>List.le_antisymm h1 h2) (sortL_pw _) (sortL_pw _)]
theorem split_at {l:List BE}:∀ {k:Nat},k<l.length→∃ A C,l=A++l.getD k default::C∧∀ b,l.set k b=A++b::C:=by
  induction l with
  | nil=>intro k h; simp at h
  | cons x l ih =>
    intro k h
    cases k with
    | zero=>exact ⟨[],l,rfl,fun _=>rfl⟩
    | succ k =>
      obtain ⟨A,C,h1,h2⟩:=ih (k:=k) (by simpa using h)
      refine ⟨x::A,C,?_,fun b=>?_⟩
      · rw [List.getD_cons_succ,List.cons_append,← h1]
      · rw [List.set_cons_succ,h2]; rfl
theorem bodyG_app (A C:List BE) (b:BE):G9 (A++b::C)=G9 A++([beO b]++G9 C):=by unfold G9; simp
theorem psOf_set {bs:List BE} {k:Nat} {b:BE} (hk:k<bs.length) (hb:b.p=(bs.getD k default).p):A0k (bs.set k b)=A0k bs:=by
  obtain ⟨A,C,h1,h2⟩:=split_at hk
  rw [h2]
  have h3:=congrArg A0k h1
  rw [h3]
  unfold A0k
  rw [List.map_append,List.map_append,List.map_cons,List.map_cons,hb]
theorem ok_set {s:DS} {M:DM} (h:s.ok M) {k:Int} {b:BE} {B:Body} (K:List Grp) (hk:k.toNat<s.bs.length) (hb:BodyR (inZ (K++s.Z)) b B) (hp:b.p=(s.bs.getD k.toNat default).p) :
    DS.ok { s with bs:=s.bs.set k.toNat b,Z:=K++s.Z } (N3 M k B):=by
  have hps:=psOf_set hk hp
  refine ⟨?_,h.nok,h.kok,h.cok,?_,?_,h.rows,fun d=>?_,(h.bods.imp fun b B hb=>hb.mono fun y o h=>A0x h).set hb _⟩
  · have e:(s.bs.set k.toNat b).map (fun b=>Value.pointer (some ⟨b.p,0,none⟩))=s.bs.map fun b=>Value.pointer (some ⟨b.p,0,none⟩):=by
      have e1:∀ l:List BE,l.map (fun b=>Value.pointer (some ⟨b.p,0,none⟩))=(A0k l).map fun p=>Value.pointer (some ⟨p,0,none⟩):=fun l=>by unfold A0k; rw [List.map_map]; rfl
      rw [e1,e1,hps]
    simp only [List.length_set]
    rw [e]; exact h.own
  · rw [hps]; exact h.names
  · rw [hps]; exact h.kept
  · rw [hps]; exact (h.chs d).imp fun q l hq=>qr_mono hq
def lowP (s:DS) (M:DM) (d:Nat) (H:List Grp) (A C:List BE) (b:BE):List Grp :=
  [(d,dkO M s)]::[(s.nb,.map (B2 s.nm) s.nc)]::[beO b]::(G9 A::G9 C::[(s.kb,.map (B2 s.km) s.kc)]::[(s.cb,.map (B2 s.cm) s.cc)]::s.bg::(G8 s.rows++(s.Z++H)))
theorem lowP_to {s:DS} {M:DM} {d:Nat} {H:List Grp} {A C:List BE} {b:BE} (hb:s.bs=A++b::C) {W0:World} {w:World} (hw:Sat W0 (s.G d M++H) w):Sat W0 (lowP s M d H A C b) w:=K6 hw fun _ x=>by
  simp only [DS.G,lowP,List.cons_append,List.append_assoc]
  simp only [List.flatten_cons,List.flatten_append,List.count_append,hb,bodyG_app]
  omega
theorem lowP_from {s:DS} {M:DM} {d:Nat} {H:List Grp} {A C:List BE} {b:BE} (hb:s.bs=A++b::C) {W0:World} {w:World} (hw:Sat W0 (lowP s M d H A C b) w):Sat W0 (s.G d M++H) w:=K6 hw fun _ x=>by
  simp only [DS.G,lowP,List.cons_append,List.append_assoc]
  simp only [List.flatten_cons,List.flatten_append,List.count_append,hb,bodyG_app]
  omega
theorem Z5 {M:DM} {p:ByteArray} (h:V5 M (A3 p)≠0):L8 M p=(V5 M (A3 p),H5 M (A3 p)):=by unfold L8; rw [if_pos h]
theorem syncM_no {M:DM} {p:ByteArray} (h:V5 M (A3 p)=0) (hl:E6 M.names p=none):L8 M p=(60,H5 M (A3 p)):=by unfold L8; rw [if_neg (by simpa using h),hl]
theorem syncM_ok {M:DM} {p:ByteArray} {k:Int} (h:V5 M (A3 p)=0) (hl:E6 M.names p=some k):L8 M p=(0,N3 (H5 M (A3 p)) k ⟨(I7 M k).now,(I7 M k).now⟩):=by unfold L8; rw [if_neg (by simpa using h),hl]
theorem cSync {s:DS} {M:DM} (h:s.ok M) (hm:L5 M) (d:Nat) (path:ByteArray) (hpath:path.size≤9223372036854775807) (W0:World) (H:List Grp) :
    Tri Tryz.prog 86 #[.pointer (some ⟨d,0,none⟩),.string path] W0 (s.G d M++H) (Is d (L8 M path).2 (.int .i64 (L8 M path).1) H):=by
  cases hl:E6 M.names path with
  | none =>
    refine Tri.post (vSyncNo d s.nb s.kb s.cb s.nc M.room M.calls (.slice s.ba s.bs.length s.bc) M.fails M.once s.nm path hpath hm.calls (mget_no h hl) W0 _) fun v H1 hr=>?_
    rcases hr with ⟨hce,hv,hH⟩ | ⟨hce,hv,hH⟩
    · exact N5 h (A3 path) (by rw [Z5 hce]) (by rw [Z5 hce]; exact hv) fun w hw=>by rw [hH] at hw; exact hw
    · exact N5 h (A3 path) (by rw [syncM_no hce hl]) (by rw [syncM_no hce hl]; exact hv) fun w hw=>by rw [hH] at hw; exact hw
  | some k =>
    have hk:=(A0u h hl).2
    obtain ⟨A,C,hs,hset⟩:=split_at hk
    have hB:=h.bods.get default default _ hk
    refine Tri.heap (fun w hw=>lowP_to hs hw) (Tri.post (vSyncYes d s.nb s.kb s.cb s.nc M.room M.calls (.slice s.ba s.bs.length s.bc) M.fails M.once s.nm path hpath hm.calls (s.bs.getD k.toNat default).p _ _ _ _ _ _ (mget_lk h hl) W0 _) fun v H1 hr=>?_)
    rcases hr with ⟨hce,hv,hH⟩ | ⟨hce,hv,hH⟩
    · exact N5 h (A3 path) (by rw [Z5 hce]) (by rw [Z5 hce]; exact hv) fun w hw=>by rw [hH] at hw; exact lowP_from hs hw
    · have k2:=ok_set (k:=k) (b:=⟨(s.bs.getD k.toNat default).p,(s.bs.getD k.toNat default).an,(s.bs.getD k.toNat default).n,(s.bs.getD k.toNat default).cn,(s.bs.getD k.toNat default).an,(s.bs.getD k.toNat default).n,(s.bs.getD k.toNat default).cn⟩) (B:=⟨(I7 M k).now,(I7 M k).now⟩) (ok_call h (A3 path)) [] hk ⟨hB.n,hB.cn,hB.an,hB.now,hB.n,hB.cn,hB.an,hB.now⟩ rfl
      refine ⟨_,⟨by rw [syncM_ok hce hl]; exact hv,_,by rw [syncM_ok hce hl]; exact k2,rfl⟩,fun w hw=>?_⟩
      rw [hH] at hw
      rw [syncM_ok hce hl]
      refine K6 hw fun _ x=>?_
      simp only [DS.G,dkO,N3,H5,List.cons_append,List.append_assoc,List.length_set]
      simp only [List.flatten_cons,List.flatten_append,List.count_append,List.nil_append,hset,bodyG_app]
      simp only [beO]
      omega
theorem Q4 {M:DM} {p b:ByteArray} (h:V5 M (A3 p)≠0):F4 M p b=(V5 M (A3 p),H5 M (A3 p)):=by unfold F4; rw [if_pos h]
theorem A0j {M:DM} {p b:ByteArray} (h:V5 M (A3 p)=0) (hl:E6 M.names p=none):F4 M p b=(60,H5 M (A3 p)):=by unfold F4; rw [if_neg (by simpa using h),hl]
theorem V2 {M:DM} {p b:ByteArray} {k:Int} (h:V5 M (A3 p)=0) (hl:E6 M.names p=some k) (hr:(N9 M:Int)+(b.size:Int) > M.room):F4 M p b=(61,H5 M (A3 p)):=by unfold F4; rw [if_neg (by simpa using h),hl]; simp only; rw [if_pos hr]
theorem A0i {M:DM} {p b:ByteArray} {k:Int} (h:V5 M (A3 p)=0) (hl:E6 M.names p=some k) (hr:¬ (N9 M:Int)+(b.size:Int) > M.room):F4 M p b=(0,N3 (H5 M (A3 p)) k ⟨(I7 M k).now++b,(I7 M k).kept⟩):=by unfold F4; rw [if_neg (by simpa using h),hl]; simp only; rw [if_neg hr]
theorem u8s_app (a b:ByteArray):u8s (a++b).data.toList=u8s a.data.toList++u8s b.data.toList:=by
  unfold u8s
  rw [ByteArray.data_append,Array.toList_append,List.map_append]
theorem cAppend {s:DS} {M:DM} (h:s.ok M) (hm:L5 M) (d:Nat) (path b:ByteArray) (hpath:path.size≤9223372036854775807) (hb:b.size≤1000000000) (W0:World) (H:List Grp) {bv:Value} (hbv:BytesV W0 H bv b) :
    Tri Tryz.prog 26 #[.pointer (some ⟨d,0,none⟩),.string path,bv] W0 (s.G d M++H) (Is d (F4 M path b).2 (.int .i64 (F4 M path b).1) H):=by
  refine tri_sat fun ⟨w0,hw0⟩=>?_
  have hn:=ps_nodup hw0
  have hsum:=sum_used h hn
  have hus:=used_small h hm
  cases hl:E6 M.names path with
  | none =>
    obtain ⟨a,cap,S,rfl,hsh,hrd,hS⟩:=hbv
    · refine Tri.post (vAppendNoAny d s.nb s.kb s.cb s.nc M.room M.calls (.slice s.ba s.bs.length s.bc) M.fails M.once s.nm path hpath hm.calls a b.size cap (mget_no h hl) W0 _) fun v H1 hr=>?_
      rcases hr with ⟨hce,hv,hH⟩ | ⟨hce,hv,hH⟩
      · exact N5 h (A3 path) (by rw [Q4 hce]) (by rw [Q4 hce]; exact hv) fun w hw=>by rw [hH] at hw; exact hw
      · exact N5 h (A3 path) (by rw [A0j hce hl]) (by rw [A0j hce hl]; exact hv) fun w hw=>by rw [hH] at hw; exact hw
  | some k =>
    have hk:=(A0u h hl).2
    obtain ⟨A,C,hs,hset⟩:=split_at hk
    have hB:=h.bods.get default default _ hk
    have hsz:(s.bs.getD k.toNat default).n≤1000000000:=by rw [hB.n]; have:=small_at hm k; unfold Z7 I7 at this; omega
    have hat:=names_at h hn (W0:=W0) (H:=[beO (s.bs.getD k.toNat default)]::(G9 A::G9 C::[(s.kb,.map (B2 s.km) s.kc)]::[(s.cb,.map (B2 s.cm) s.cc)]::s.bg::(G8 s.rows++(s.Z++H)))) (fun x hx=>by
      rw [hs,bodyG_app] at hx
      simp only [List.flatten_cons,List.mem_append] at hx ⊢
      rcases hx with hx | hx | hx
      · exact .inr (.inl hx)
      · exact .inl hx
      · exact .inr (.inr (.inl hx)))
    have hz:∀ y o,inZ s.Z y o→At W0 (G9 A::G9 C::[(s.kb,.map (B2 s.km) s.kc)]::[(s.cb,.map (B2 s.cm) s.cc)]::s.bg::(G8 s.rows++(s.Z++H))) y o:=fun y o hy=>.cons (.cons (.cons (.cons (.cons (X8 (.inr (by rw [List.flatten_append]; exact List.mem_append_left _ hy)))))))
    have hdone:∀ (n':Nat) (a':Option Addr) (cap':Nat) (g:Grp),n'=((I7 M k).now++b).size→n'≤cap'→((a'=none∧n'=0∧cap'=0)∨∃ b off,a'=some ⟨b,off,none⟩)→Rd (inZ ([g]++s.Z)) a' (u8s ((I7 M k).now++b).data.toList)→F4 M path b=(0,N3 (H5 M (A3 path)) k ⟨(I7 M k).now++b,(I7 M k).kept⟩) →
        ∀ (v:Value) (H1:List Grp),v=.int .i64 0→(∀ w,Sat W0 H1 w→Sat W0 ([(d,.cells #[.int .i64 M.room,.slice s.ba s.bs.length s.bc,.map (some s.nb),.map (some s.kb),.map (some s.cb),.bool (B6 M.fails M.once M.calls (A3 path)).2.1,.bool M.once,.int .i64 (B6 M.fails M.once M.calls (A3 path)).2.2] 72 (0,0))]::[(s.nb,.map (B2 s.nm) s.nc)]::[((s.bs.getD k.toNat default).p,.cells #[.slice a' n' cap',.slice (s.bs.getD k.toNat default).ak (s.bs.getD k.toNat default).m (s.bs.getD k.toNat default).ck] 76 (0,0))]::g::(G9 A::G9 C::[(s.kb,.map (B2 s.km) s.kc)]::[(s.cb,.map (B2 s.cm) s.cc)]::s.bg::(G8 s.rows++(s.Z++H)))) w) →
        ∃ H2,Is d (F4 M path b).2 (.int .i64 (F4 M path b).1) H v H2∧∀ w,Sat W0 H1 w→Sat W0 H2 w:=by
      intro n' a' cap' g hn' hc' ha' hrd' he v H1 hv hH
      have k2:=ok_set (k:=k) (b:=⟨(s.bs.getD k.toNat default).p,a',n',cap',(s.bs.getD k.toNat default).ak,(s.bs.getD k.toNat default).m,(s.bs.getD k.toNat default).ck⟩) (B:=⟨(I7 M k).now++b,(I7 M k).kept⟩) (ok_call h (A3 path)) [g] hk ⟨hn',hc',ha',hrd',hB.m,hB.cm,hB.am,hB.kept.mono fun y o h=>A0x h⟩ rfl
      refine ⟨_,⟨by rw [he]; exact hv,_,by rw [he]; exact k2,rfl⟩,fun w hw=>?_⟩
      rw [he]
      refine K6 (hH w hw) fun _ x=>?_
      simp only [DS.G,dkO,N3,H5,List.cons_append,List.append_assoc,List.length_set]
      simp only [List.flatten_cons,List.flatten_append,List.count_append,List.nil_append,hset,bodyG_app]
      simp only [beO]
      omega
    have hZg:∀ (g:Grp) (S:Nat→Obj→Prop) (a':Option Addr) (cs:List Value),(∀ y o,S y o→inZ s.Z y o)→Rd (fun y o=>S y o∨inG g y o) a' cs→Rd (inZ ([g]++s.Z)) a' cs:=fun g S a' cs hS hr=>hr.mono fun y o h=>by
      rcases h with h | h
      · exact A0x (hS y o h)
      · show (y,o)∈List.flatten (g::s.Z)
        rw [List.flatten_cons]; exact List.mem_append_left _ h
    obtain ⟨aa,cap,S,rfl,hsh,hrd,hS⟩:=hbv
    have hao:aa=none→b.size=0:=fun he=>by
      rcases hsh with h | ⟨ad,h,_⟩ | ⟨q,off,h⟩
      · exact h.2.1
      · rw [he] at h; cases h
      · rw [he] at h; cases h
    · refine Tri.heap (fun w hw=>lowP_to hs hw) (Tri.post (vAppendAny d s.nb s.kb s.cb s.nc M.room M.calls (.slice s.ba s.bs.length s.bc) M.fails M.once s.nm path hpath hm.calls aa b.size cap (szV s.bs) h.nok (by rw [hsum]; omega) (s.bs.getD k.toNat default).p _ _ _ _ _ _ (mget_lk h hl) (inZ s.Z) _ hB.now (by rw [hB.n]; exact Array.length_toList) hsz hB.cn hB.an S b.data.toList hao hrd Array.length_toList hb W0 _ hz (fun y o hy=>.cons (.cons (.cons (.cons (.cons (X8 (X8 (hS y o hy)))))))) hat) fun v H1 hr=>?_)
      rw [hsum] at hr
      rcases hr with ⟨hce,hv,hH⟩ | ⟨hce,hro,hv,hH⟩ | ⟨hce,hro,hv,a',cap',g,hc',ha',hrd',hH⟩
      · exact N5 h (A3 path) (by rw [Q4 hce]) (by rw [Q4 hce]; exact hv) fun w hw=>by rw [hH] at hw; exact lowP_from hs hw
      · exact N5 h (A3 path) (by rw [V2 hce hl hro]) (by rw [V2 hce hl hro]; exact hv) fun w hw=>by rw [hH] at hw; exact lowP_from hs hw
      · refine hdone _ a' cap' g ?_ hc' ha' ?_ (A0i hce hl hro) v H1 hv fun w hw=>by rw [hH] at hw; exact hw
        · rw [ByteArray.size_append,hB.n]; rfl
        · rw [u8s_app]; exact hZg g _ _ _ (fun _ _ h=>h) hrd'
end Go.Vf
namespace Go.Vf
open Go.Sw Go.RowKit Go.Proofs Go.Proofs.YtlaoeiaaeifidaaGreat
theorem readM_no {M:DM} {p:ByteArray} (hl:E6 M.names p=none):K9 M p=(ByteArray.mk #[],60):=by unfold K9; rw [hl]
theorem readM_ok {M:DM} {p:ByteArray} {k:Int} (hl:E6 M.names p=some k):K9 M p=((I7 M k).now,0):=by unfold K9; rw [hl]
theorem cRead {s:DS} {M:DM} (h:s.ok M) (hm:∀ B∈M.bodies,B.now.size≤10000000) (d:Nat) (path:ByteArray) (W0:World) (H:List Grp) :
    Tri Tryz.prog 13 #[.pointer (some ⟨d,0,none⟩),.string path] W0 (s.G d M++H) (fun v H'=>∃ x g,v=.tuple #[x,.int .i64 (K9 M path).2]∧Go.Sw.Own 5 1 x g (K9 M path).1.size (u8s (K9 M path).1.data.toList)∧H'=g::(s.G d M++H)):=by
  cases hl:E6 M.names path with
  | none =>
    rw [readM_no hl]
    refine Tri.post (vReadNo d s.nb s.kb s.cb s.nc M.room M.calls (.slice s.ba s.bs.length s.bc) M.fails M.once s.nm path (mget_no h hl) W0 _) fun v H1 ⟨hv,hH⟩=>⟨_,⟨_,[],hv,Go.Sw.Own.nil,rfl⟩,fun w hw=>?_⟩
    rw [hH] at hw
    exact T7 (A:=[]) hw
  | some k =>
    rw [readM_ok hl]
    have hk:=(A0u h hl).2
    have hB:=h.bods.get default default _ hk
    have hsz:(s.bs.getD k.toNat default).n≤1000000000:=by
      rw [hB.n,List.getD_eq_getElem?_getD,List.getElem?_eq_getElem (by rw [← h.bods.len]; exact hk)]
      have:=hm _ (List.getElem_mem (by rw [← h.bods.len]; exact hk))
      simp only [Option.getD_some]
      omega
    have hp:At W0 ([(s.kb,.map (B2 s.km) s.kc)]::[(s.cb,.map (B2 s.cm) s.cc)]::s.bg::G9 s.bs::((G8 s.rows++s.Z)++H)) (s.bs.getD k.toNat default).p (.cells #[.slice (s.bs.getD k.toNat default).an (s.bs.getD k.toNat default).n (s.bs.getD k.toNat default).cn,.slice (s.bs.getD k.toNat default).ak (s.bs.getD k.toNat default).m (s.bs.getD k.toNat default).ck] 76 (0,0)) :=
      .cons (.cons (.cons (At.mem List.mem_cons_self (List.mem_of_getElem? (bodyG_at hk)))))
    have hz:∀ y o,inZ s.Z y o→At W0 ([(s.kb,.map (B2 s.km) s.kc)]::[(s.cb,.map (B2 s.cm) s.cc)]::s.bg::G9 s.bs::((G8 s.rows++s.Z)++H)) y o:=fun y o hy=>.cons (.cons (.cons (.cons (.inr (by rw [List.flatten_append,List.flatten_append]; exact List.mem_append_left _ (List.mem_append_right _ hy))))))
    have hlen:(I7 M k).now.data.toList.length=(s.bs.getD k.toNat default).n:=by rw [hB.n]; exact Array.length_toList
    have hnow:=hB.now
    have hn0:=hB.n
    rcases hB.an with ⟨h1,h2,h3⟩ | ⟨b,off,h1⟩
    · rw [h1,h2,h3] at hp
      have he:(I7 M k).now=ByteArray.mk #[]:=by
        have h0:(I7 M k).now.size=0:=by rw [← h2]; exact hn0.symm
        generalize (I7 M k).now=x at h0
        cases x with | mk d =>
        have:d=#[]:=Array.eq_empty_of_size_eq_zero h0
        rw [this]
      rw [he]
      refine Tri.post (vReadNil d s.nb s.kb s.cb s.nc M.room M.calls (.slice s.ba s.bs.length s.bc) M.fails M.once s.nm path _ _ (mget_lk h hl) W0 _ hp) fun v H1 ⟨hv,hH⟩=>⟨_,⟨_,[],hv,Go.Sw.Own.nil,rfl⟩,fun w hw=>?_⟩
      rw [hH] at hw
      exact T7 (A:=[]) hw
    · rw [h1] at hp hnow
      refine (vReadYes d s.nb s.kb s.cb s.nc M.room M.calls (.slice s.ba s.bs.length s.bc) M.fails M.once s.nm path b off (s.bs.getD k.toNat default).n (s.bs.getD k.toNat default).cn (inZ s.Z) _ hnow hlen hsz _ _ (mget_lk h hl) W0 _ hz hp).mono fun v H' ⟨x,g,hv,ho,hH⟩=>⟨x,g,hv,?_,hH⟩
      rw [hn0] at ho
      exact ho
theorem chOf_filter {l:List Ch} {d d':ByteArray}:J1 (l.filter fun c=>!(d==c.dir)) d'=if d'==d then [] else J1 l d':=by
  unfold J1
  induction l with
  | nil=>simp
  | cons c l ih =>
    rw [List.filter_cons]
    cases h1:d==c.dir
    · simp only [Bool.not_false,if_true]
      rw [List.filter_cons,List.filter_cons]
      cases h2:d'==c.dir
      · simp only [Bool.false_eq_true,if_false]; exact ih
      · simp only [if_true,List.map_cons,ih]
        rw [baEq] at h2; subst h2
        rw [if_neg,if_neg]
        · intro h; rw [baEq] at h; rw [baNe] at h1; exact h1 h.symm
        · intro h; rw [baEq] at h; rw [baNe] at h1; exact h1 h.symm
    · simp only [Bool.not_true,Bool.false_eq_true,if_false,ih]
      rw [baEq] at h1; subst h1
      rw [List.filter_cons]
      cases h2:d'==c.dir <;> simp only [Bool.false_eq_true,if_false,if_true]
theorem mdel_none {m:SM} {k:ByteArray} (h:S4 m k=none):mdel m k=m:=by
  induction m with
  | nil=>rfl
  | cons e m ih =>
    have h:=mget_none.1 h
    rw [mdel,if_neg (by rw [h e List.mem_cons_self]; decide),ih (mget_none.2 fun x hx=>h x (List.mem_cons_of_mem _ hx))]
theorem Q5 {M:DM} {p:ByteArray} (h:V5 M (dirR p)≠0):I4 M p=(V5 M (dirR p),H5 M (dirR p)):=by unfold I4; rw [if_pos h]
theorem P2 {M:DM} {p:ByteArray} (h:V5 M (dirR p)=0):I4 M p=(0,{ H5 M (dirR p) with kept:=(J1 M.changes p).foldl J6 M.kept,changes:=M.changes.filter fun c=>!(p==c.dir) }):=by unfold I4; rw [if_neg (by simpa using h)]
theorem all2_none {α β:Type} {R:α→β→Prop} {l:List β} (h:All2 R [] l):l=[]:=by cases h; rfl
theorem filter_none {l:List Ch} {d:ByteArray} (h:J1 l d=[]):l.filter (fun c=>!(d==c.dir))=l:=by
  unfold J1 at h
  rw [List.map_eq_nil_iff,List.filter_eq_nil_iff] at h
  exact List.filter_eq_self.2 fun c hc=>by have:=h c hc; simpa using this
theorem row_read {Z:List Grp} {ps:List Nat} {qs:List Nat} {ls:List (List Nm)} (h:All2 (QR Z ps) qs ls):∃ (xs:List SM) (xcs:List Nat),xs.length=qs.length∧All2 (fun x l=>(∃ c,MapOk x c)∧ChangeR ps x l) xs ls ∧
    ∀ i,i<qs.length→inZ Z (qs.getD i 0) (.map (B2 (xs.getD i [])) (xcs.getD i 0))∧MapOk (xs.getD i []) (xcs.getD i 0)∧∀ e∈xs.getD i [],e.2.1=.pointer none∨∃ p,e.2.1=.pointer (some ⟨p,0,none⟩):=by
  induction h with
  | nil=>exact ⟨[],[],rfl,.nil,fun i h=>by simp at h⟩
  | cons hq _ ih =>
    obtain ⟨x,c,h1,h2,h3⟩:=hq
    obtain ⟨xs,xcs,e1,e2,e3⟩:=ih
    refine ⟨x::xs,c::xcs,by simp [e1],.cons ⟨⟨c,h2⟩,h3⟩ e2,fun i hi=>?_⟩
    cases i with
    | zero =>
      refine ⟨h1,h2,fun e he=>?_⟩
      obtain ⟨p,v,n⟩:=e
      have:=mget_of h2.nodup he
      rw [h3.look] at this
      obtain ⟨k,_,hk⟩:=Option.map_eq_some_iff.1 this
      simp only
      rw [← hk]
      unfold chV
      split
      · exact .inr ⟨_,rfl⟩
      · exact .inl rfl
    | succ i=>exact e3 i (by simpa using hi)
theorem cSyncDir {s:DS} {M:DM} (h:s.ok M) (hm:L5 M) (d:Nat) (dir:ByteArray) (hdir:dir.size≤9223372036854775807) (W0:World) (H:List Grp) :
    Tri Tryz.prog 87 #[.pointer (some ⟨d,0,none⟩),.string dir] W0 (s.G d M++H) (Is d (I4 M dir).2 (.int .i64 (I4 M dir).1) H):=by
  have hto:∀ {s:DS} {M:DM} {w:World},Sat W0 (s.G d M++H) w→Sat W0 ([(d,dkO M s)]::[(s.kb,.map (B2 s.km) s.kc)]::[(s.cb,.map (B2 s.cm) s.cc)]::([(s.nb,.map (B2 s.nm) s.nc)]::s.bg::G9 s.bs::(G8 s.rows++(s.Z++H)))) w:=fun hw=>K6 hw fun _ x=>by
    simp only [DS.G,List.cons_append,List.append_assoc]
    simp only [List.flatten_cons,List.flatten_append,List.count_append]
    omega
  have hfrom:∀ {s:DS} {M:DM} {w:World},Sat W0 ([(d,dkO M s)]::[(s.kb,.map (B2 s.km) s.kc)]::[(s.cb,.map (B2 s.cm) s.cc)]::([(s.nb,.map (B2 s.nm) s.nc)]::s.bg::G9 s.bs::(G8 s.rows++(s.Z++H)))) w→Sat W0 (s.G d M++H) w:=fun hw=>K6 hw fun _ x=>by
    simp only [DS.G,List.cons_append,List.append_assoc]
    simp only [List.flatten_cons,List.flatten_append,List.count_append]
    omega
  cases hg:S4 s.cm dir with
  | none =>
    have hrow:=rowOf_none (rows_none h.rows hg)
    have hch:=h.chs dir
    rw [hrow] at hch
    have hch:=all2_none hch
    refine Tri.heap (fun w hw=>hto hw) (Tri.post (vSyncDirNo d s.nb s.kb s.cb s.kc s.cc M.room M.calls (.slice s.ba s.bs.length s.bc) M.fails M.once s.km s.cm dir hdir hm.calls h.kok hg W0 _) fun v H1 hr=>?_)
    rcases hr with ⟨hce,hv,hH⟩ | ⟨hce,hv,hH⟩
    · exact N5 h (dirR dir) (by rw [Q5 hce]) (by rw [Q5 hce]; exact hv) fun w hw=>by rw [hH] at hw; exact hfrom hw
    · refine N5 h (dirR dir) ?_ (by rw [P2 hce]; exact hv) fun w hw=>?_
      · rw [P2 hce,hch,filter_none hch]; rfl
      · rw [hH,mdel_none hg] at hw; exact hfrom hw
  | some rv =>
    obtain ⟨pre,r,post,c,p1,p2,hrows,hcm,hp1,hpre,hd,hrv,e1,e2⟩:=rows_some h.rows hg
    obtain ⟨ho,hpos⟩:=h.rows.2 r (by rw [hrows]; exact List.mem_append_right _ List.mem_cons_self)
    have hq:=rows_le h hm r (by rw [hrows]; exact List.mem_append_right _ List.mem_cons_self)
    rw [hrv] at ho
    obtain ⟨ra,rc,hra,hrc,hrd⟩:=ho.shape
    have hrow:O1 s.rows dir=r.qs:=by rw [hrows,X6 hpre,O1,hd,if_pos (baEq.2 rfl)]
    have hch:=h.chs dir
    rw [hrow] at hch
    obtain ⟨xs,xcs,x1,x2,x3⟩:=row_read hch
    have hin:∀ y o,inZ s.Z y o→At W0 ([(s.nb,.map (B2 s.nm) s.nc)]::s.bg::G9 s.bs::(G8 s.rows++(s.Z++H))) y o:=fun y o hy=>.cons (.cons (.cons (X8 (.inr (by rw [List.flatten_append]; exact List.mem_append_left _ hy)))))
    refine Tri.heap (fun w hw=>hto hw) (Tri.post (vSyncDir d s.nb s.kb s.cb s.kc s.cc M.room M.calls (.slice s.ba s.bs.length s.bc) M.fails M.once s.km s.cm dir hdir hm.calls h.kok ra rc (inG r.g) r.qs xs xcs x1 hq hrd (by rw [hg,hra]) W0 _ (fun y o hy=>.cons (.cons (.cons (at_app (At.mem (g:=r.g) (by rw [hrows]; simp [G8]) hy))))) (fun i hi=>⟨hin _ _ (x3 i hi).1,(x3 i hi).2⟩)) fun v H1 hr=>?_)
    rcases hr with ⟨hce,hv,hH⟩ | ⟨hce,hv,km1,kc1,hmade,hH⟩
    · exact N5 h (dirR dir) (by rw [Q5 hce]) (by rw [Q5 hce]; exact hv) fun w hw=>by rw [hH] at hw; exact hfrom hw
    · have hdel:mdel s.cm dir=p1++p2:=by
        rw [hcm]
        clear hcm e1
        induction p1 with
        | nil=>rw [List.nil_append,mdel,if_pos (baEq.2 rfl)]; rfl
        | cons e p1 ih =>
          rw [List.cons_append,mdel,if_neg (by rw [hp1 e List.mem_cons_self]; decide),ih fun x hx=>hp1 x (List.mem_cons_of_mem _ hx)]; rfl
      have hpost:∀ x∈post,(dir==x.dir)=false:=by
        have hn:=h.cok.nodup
        rw [hcm,List.map_append,List.map_cons,List.nodup_append,List.nodup_cons] at hn
        intro x hx
        rw [baNe]
        intro he
        refine hn.2.1.1 ?_
        have:(x.dir,x.v)∈p2.map (fun e=>(e.1,e.2.1)):=by rw [e2]; exact List.mem_map.2 ⟨x,hx,rfl⟩
        obtain ⟨e,he1,he2⟩:=List.mem_map.1 this
        injection he2 with he2 _
        exact List.mem_map.2 ⟨e,he1,by rw [he2,← he]⟩
      refine ⟨_,⟨by rw [P2 hce]; exact hv,{ s with km:=km1,kc:=kc1,cm:=mdel s.cm dir,rows:=pre++post,Z:=r.g::s.Z },?_,rfl⟩,fun w hw=>?_⟩
      · rw [P2 hce]
        refine ⟨h.own,h.nok,made_ok (s:=(s.km,s.kc)) (s':=(km1,kc1)) hmade h.kok,h.cok.del _,h.names,names_made h.kept h.kok x2 hmade,⟨?_,fun x hx=>?_⟩,fun d'=>?_,h.bods.imp fun b B hb=>hb.mono fun y o h=>A0x (K:=[r.g]) h⟩
        · show (mdel s.cm dir).map _=_
          rw [hdel,List.map_append,List.map_append,e1,e2]
        · refine h.rows.2 x ?_
          rw [hrows]
          rcases List.mem_append.1 hx with hx | hx
          · exact List.mem_append_left _ hx
          · exact List.mem_append_right _ (List.mem_cons_of_mem _ hx)
        · have hold:=(h.chs d').imp fun q l hq=>qr_mono (K:=[r.g]) hq
          show All2 (QR ([r.g]++s.Z) (A0k s.bs)) (O1 (pre++post) d') (J1 (M.changes.filter fun c=>!(dir==c.dir)) d')
          rw [chOf_filter]
          cases hk:d'==dir
          · simp only [Bool.false_eq_true,if_false]
            rw [hrows] at hold
            have:O1 (pre++post) d'=O1 (pre++r::post) d':=rowOf_app' (by rw [O1,hd,hk]; rfl)
            rw [this]; exact hold
          · simp only [if_true]
            rw [baEq] at hk; subst hk
            rw [rowOf_none fun x hx=>by rcases List.mem_append.1 hx with hx | hx; exact hpre x hx; exact hpost x hx]
            exact .nil
      · rw [hH] at hw
        rw [P2 hce]
        refine K6 hw fun _ x=>?_
        simp only [DS.G,dkO,H5,dirR,hrows,G8,List.map_append,List.map_cons,List.cons_append,List.append_assoc]
        simp only [List.flatten_cons,List.flatten_append,List.count_append]
        omega
end Go.Vf
namespace Go.Vf
open Go.Sw Go.RowKit Go.Proofs Go.Proofs.YtlaoeiaaeifidaaGreat
def S6:List BE→KS→List BE × KS
  | [],k=>([],k)
  | b::r,k=>((T9 b k).1::(S6 r (T9 b k).2).1,(S6 r (T9 b k).2).2)
theorem crashL_len:∀ (l:List BE) (k:KS),(S6 l k).1.length=l.length
  | [],_=>rfl
  | b::r,k=>by rw [S6,List.length_cons,crashL_len r,List.length_cons]
theorem crashL_snoc (b:BE):∀ (l:List BE) (k:KS),S6 (l++[b]) k=((S6 l k).1++[(T9 b (S6 l k).2).1],(T9 b (S6 l k).2).2)
  | [],_=>rfl
  | x::r,k=>by rw [List.cons_append,S6,crashL_snoc b r]; rfl
theorem stB_L (bs:List BE) (k:KS):∀ j:Nat,j≤bs.length→stB bs k j=((S6 (bs.take j) k).1++bs.drop j,(S6 (bs.take j) k).2)
  | 0,_=>rfl
  | j+1,h=>by
    have hj:j<bs.length:=h
    rw [stB,stB_at bs k j j (Nat.le_refl _),stB_L bs k j (by omega),K8 (d:=default) hj,crashL_snoc]
    have hd:bs.drop j=bs.getD j default::bs.drop (j+1):=by
      rw [List.getD_eq_getElem?_getD,List.getElem?_eq_getElem hj,List.drop_eq_getElem_cons hj]; rfl
    have hl:(S6 (bs.take j) k).1.length=j:=by rw [crashL_len,List.length_take]; omega
    rw [hd,List.set_append_right _ _ (by omega),hl,Nat.sub_self]
    simp
theorem crashL_p:∀ (l:List BE) (k:KS),A0k (S6 l k).1=A0k l
  | [],_=>rfl
  | b::r,k=>by
    have:=crashL_p r (T9 b k).2
    unfold A0k at this ⊢
    rw [S6,List.map_cons,List.map_cons,this]
    congr 1
    unfold T9
    split <;> rfl
theorem extract_u8s (x:ByteArray) (m:Nat):u8s (x.extract 0 m).data.toList=(u8s x.data.toList).take m:=by
  unfold u8s
  rw [← List.map_take]
  congr 1
  rw [ByteArray.data_extract,Array.toList_extract]
  simp [List.extract]
theorem crash1_r {S:Nat→Obj→Prop} {b:BE} {B:Body} (h:BodyR S b B) (k:KS) (hkm:B.kept.size≤B.now.size) :
    BodyR S (T9 b k).1 (if (B.now.size:Int) - (B.kept.size:Int) > 0 then ⟨B.now.extract 0 (B.kept.size+(F1 (k.l.headD 0) ((B.now.size:Int) - (B.kept.size:Int)+1)).toNat),B.now.extract 0 (B.kept.size+(F1 (k.l.headD 0) ((B.now.size:Int) - (B.kept.size:Int)+1)).toNat)⟩ else ⟨B.kept,B.kept⟩) ∧
    (T9 b k).2.l=if (B.now.size:Int) - (B.kept.size:Int) > 0 then k.l.drop 1 else k.l:=by
  have hn:=h.n
  have hm:=h.m
  unfold T9
  by_cases hc:(b.n:Int) - (b.m:Int) > 0
  · have hc':(B.now.size:Int) - (B.kept.size:Int) > 0:=by omega
    rw [if_pos hc,if_pos hc',if_pos hc']
    obtain ⟨q0,q1⟩:=R6 (k:=k.l.headD 0) (n:=(b.n:Int) - (b.m:Int)+1) (by omega)
    have e1:(B.now.size:Int) - (B.kept.size:Int)+1=(b.n:Int) - (b.m:Int)+1:=by omega
    rw [e1]
    have e2:B.kept.size+(F1 (k.l.headD 0) ((b.n:Int) - (b.m:Int)+1)).toNat=Int.toNat ((b.m:Int)+F1 (k.l.headD 0) ((b.n:Int) - (b.m:Int)+1)) - Int.toNat 0:=by
      have:Int.toNat 0=0:=rfl
      omega
    rw [e2]
    have e3:Int.toNat ((b.m:Int)+F1 (k.l.headD 0) ((b.n:Int) - (b.m:Int)+1)) - Int.toNat 0≤b.n:=by
      have:Int.toNat 0=0:=rfl
      omega
    have hcn:=h.cn
    have hlen:(u8s B.now.data.toList).length=b.n:=by rw [u8s_len,hn]; exact Array.length_toList
    have hrd:=rd_cut0 h.now (m:=Int.toNat ((b.m:Int)+F1 (k.l.headD 0) ((b.n:Int) - (b.m:Int)+1)) - Int.toNat 0) (c:=b.cn) (by rw [hlen]; exact e3) (by rw [hlen]; exact hcn)
    rw [← extract_u8s] at hrd
    have hsz:(B.now.extract 0 (Int.toNat ((b.m:Int)+F1 (k.l.headD 0) ((b.n:Int) - (b.m:Int)+1)) - Int.toNat 0)).size=Int.toNat ((b.m:Int)+F1 (k.l.headD 0) ((b.n:Int) - (b.m:Int)+1)) - Int.toNat 0:=by
      rw [ByteArray.size_extract]; omega
    have han:(J4 b.an b.cn (Int.toNat 0) 1=none∧Int.toNat ((b.m:Int)+F1 (k.l.headD 0) ((b.n:Int) - (b.m:Int)+1)) - Int.toNat 0=0∧b.cn - Int.toNat 0=0)∨∃ q off,J4 b.an b.cn (Int.toNat 0) 1=some ⟨q,off,none⟩:=by
      rcases h.an with ⟨h1,h2,_⟩ | ⟨q,off,h1⟩
      · omega
      · refine .inr ⟨q,off,?_⟩
        rw [h1]
        unfold J4
        split
        · rfl
        · simp [N8]
    have hcm:Int.toNat ((b.m:Int)+F1 (k.l.headD 0) ((b.n:Int) - (b.m:Int)+1)) - Int.toNat 0≤b.cn - Int.toNat 0:=by
      have:Int.toNat 0=0:=rfl
      omega
    exact ⟨⟨hsz.symm,hcm,han,hrd,hsz.symm,hcm,han,hrd⟩,rfl⟩
  · have hc':¬ (B.now.size:Int) - (B.kept.size:Int) > 0:=by omega
    rw [if_neg hc,if_neg hc',if_neg hc']
    exact ⟨⟨h.m,h.cm,h.am,h.kept,h.m,h.cm,h.am,h.kept⟩,rfl⟩
theorem crashL_r {S:Nat→Obj→Prop} {bs:List BE} {Bs:List Body} (h:All2 (BodyR S) bs Bs) (hk:∀ B∈Bs,B.kept.size≤B.now.size):∀ k:KS,All2 (BodyR S) (S6 bs k).1 (I6 Bs k.l).1∧(S6 bs k).2.l=(I6 Bs k.l).2:=by
  induction h with
  | nil=>intro k; exact ⟨.nil,rfl⟩
  | @cons b B bs Bs hb _ ih =>
    intro k
    obtain ⟨h1,h2⟩:=crash1_r hb k (hk _ List.mem_cons_self)
    obtain ⟨h3,h4⟩:=ih (fun B hB=>hk B (List.mem_cons_of_mem _ hB)) (T9 b k).2
    rw [S6,I6]
    split
    · rename_i hc
      rw [if_pos hc] at h1 h2
      rw [h2] at h3 h4
      exact ⟨.cons h1 h3,h4⟩
    · rename_i hc
      rw [if_neg hc] at h1 h2
      rw [h2] at h3 h4
      exact ⟨.cons h1 h3,h4⟩
theorem crashB_size {n:Nat}:∀ {Bs:List Body} {ks:List Int},(∀ B∈Bs,B.now.size≤n∧B.kept.size≤B.now.size)→∀ B∈(I6 Bs ks).1,B.now.size≤n∧B.kept.size=B.now.size
  | [],_,_,B,hB=>by cases hB
  | x::r,ks,h,B,hB=>by
    obtain ⟨h1,h2⟩:=h x List.mem_cons_self
    have ih:=fun ks=>crashB_size (n:=n) (Bs:=r) (ks:=ks) fun B hB=>h B (List.mem_cons_of_mem _ hB)
    rw [I6] at hB
    split at hB
    · rcases List.mem_cons.1 hB with rfl | hB
      · exact ⟨by simp only [ByteArray.size_extract]; omega,rfl⟩
      · exact ih _ B hB
    · rcases List.mem_cons.1 hB with rfl | hB
      · exact ⟨by show x.kept.size≤n; omega,rfl⟩
      · exact ih _ B hB
theorem A0f:∀ {Bs:List Body} {ks:List Int},(I6 Bs ks).1.length=Bs.length
  | [],_=>rfl
  | x::r,ks=>by
    rw [I6]
    split <;> rw [List.length_cons,A0f,List.length_cons]
theorem All2.mem {α β:Type} {R:α→β→Prop} {l:List α} {m:List β} (h:All2 R l m) {a:α} (ha:a∈l):∃ b∈m,R a b:=by
  induction h with
  | nil=>cases ha
  | cons hab _ ih =>
    rcases List.mem_cons.1 ha with rfl | ha
    · exact ⟨_,List.mem_cons_self,hab⟩
    · obtain ⟨b,hb,hr⟩:=ih ha
      exact ⟨b,List.mem_cons_of_mem _ hb,hr⟩
theorem once_mem {x:ByteArray}:∀ {l:List ByteArray},x∈onceL l ↔ x∈l
  | []=>Iff.rfl
  | y::r=>by
    rw [onceL]
    split
    · rename_i h
      rw [once_mem,List.mem_cons]
      constructor
      · exact .inr
      · rintro (rfl | h2)
        · exact once_mem.1 h
        · exact h2
    · rw [List.mem_cons,List.mem_cons,once_mem]
theorem A0a:∀ (l:List ByteArray),(onceL l).Nodup
  | []=>List.nodup_nil
  | y::r=>by
    rw [onceL]
    split
    · exact A0a r
    · rename_i h; exact List.nodup_cons.2 ⟨h,A0a r⟩
theorem once_le:∀ (l:List ByteArray),(onceL l).length≤l.length
  | []=>Nat.le_refl _
  | y::r=>by
    have:=once_le r
    rw [onceL]
    split <;> simp <;> omega
theorem chOf_ne {l:List Ch} {d:ByteArray}:J1 l d≠[] ↔ d∈l.map (·.dir):=by
  unfold J1
  constructor
  · intro h
    obtain ⟨x,hx⟩:=List.exists_mem_of_ne_nil _ h
    obtain ⟨c,hc,_⟩:=List.mem_map.1 hx
    obtain ⟨h1,h2⟩:=List.mem_filter.1 hc
    rw [baEq] at h2
    exact List.mem_map.2 ⟨c,h1,h2.symm⟩
  · intro h
    obtain ⟨c,hc,rfl⟩:=List.mem_map.1 h
    intro he
    rw [List.map_eq_nil_iff,List.filter_eq_nil_iff] at he
    exact he c hc (by simp)
theorem rowOf_ne {rows:List RW} (h:∀ r∈rows,0<r.qs.length) {d:ByteArray}:O1 rows d≠[] ↔ d∈rows.map (·.dir):=by
  induction rows with
  | nil=>simp [O1]
  | cons r rows ih =>
    rw [O1,List.map_cons,List.mem_cons]
    split
    · rename_i hk
      rw [baEq] at hk
      have:=h r List.mem_cons_self
      constructor
      · intro _; exact .inl hk
      · intro _ he; rw [he] at this; simp at this
    · rename_i hk
      rw [ih fun x hx=>h x (List.mem_cons_of_mem _ hx)]
      constructor
      · exact .inr
      · rintro (rfl | h2)
        · exact absurd (baEq.2 rfl) hk
        · exact h2
theorem rows_keys {s:DS} {M:DM} (h:s.ok M):s.cm.map Prod.fst=s.rows.map (·.dir):=by
  have h1:(s.cm.map (fun e=>(e.1,e.2.1))).map Prod.fst=(s.rows.map (fun r=>(r.dir,r.v))).map Prod.fst:=by rw [h.rows.1]
  rw [List.map_map,List.map_map] at h1
  exact h1
theorem keys_perm {s:DS} {M:DM} (h:s.ok M):(s.cm.map Prod.fst).Perm (onceL (M.changes.map (·.dir))):=by
  refine (List.perm_ext_iff_of_nodup h.cok.nodup (A0a _)).2 fun d=>?_
  rw [once_mem,← chOf_ne,rows_keys h,← rowOf_ne fun r hr=>(h.rows.2 r hr).2]
  have:=(h.chs d).len
  constructor
  · intro h1 h2
    rw [h2] at this
    exact h1 (List.eq_nil_of_length_eq_zero this)
  · intro h1 h2
    rw [h2] at this
    exact h1 (List.eq_nil_of_length_eq_zero this.symm)
theorem crash_names {ps:List Nat} {rows:ByteArray→RowC} {l:List Ch}:∀ {ds:List ByteArray} {km km1:SM} {kc kc1:Nat} {ks ks1:KS} {names:List Nm},
    (∀ d∈ds,All2 (fun x l=>(∃ c,MapOk x c)∧ChangeR ps x l) (rows d).xs (J1 l d)∧(rows d).qs.length=(J1 l d).length)→NamesR ps km names→MapOk km kc →
    CrashK rows ds ((km,kc),ks) ((km1,kc1),ks1)→NamesR ps km1 (O3 l ds ks.l names)∧MapOk km1 kc1
  | [],_,_,_,_,_,_,_,_,hn,ho,hc=>by
    injection (show (_,_)=(_,_) from hc) with e1 e2
    injection e1 with e3 e4
    subst e3 e4
    exact ⟨hn,ho⟩
  | d::ds,km,km1,kc,kc1,ks,ks1,names,hr,hn,ho,⟨s1,hm,hc⟩=>by
    obtain ⟨h1,h2⟩:=hr d List.mem_cons_self
    obtain ⟨m1,c1⟩:=s1
    have e:keptN (rows d) ks=(F1 (ks.l.headD 0) (((J1 l d).length:Int)+1)).toNat:=by unfold keptN; rw [h2]
    have h3:=names_made hn ho (h1.take (keptN (rows d) ks)) hm
    rw [e] at h3
    exact crash_names (ds:=ds) (fun d' hd'=>hr d' (List.mem_cons_of_mem _ hd')) h3 (made_ok (s:=(km,kc)) (s':=(m1,c1)) hm ho) hc
theorem cCrash {s:DS} {M:DM} (h:s.ok M) (hm:L5 M) (d:Nat) (ks:KS) (S0:Nat→Obj→Prop) (hks:KsOk S0 ks) (W0:World) (H:List Grp) (hS0:∀ y o,S0 y o→At W0 H y o) :
    Tri Tryz.prog 28 #[.pointer (some ⟨d,0,none⟩),.slice ks.a ks.l.length ks.c] W0 (s.G d M++H) (Is d (V9 M ks.l) (.tuple #[]) H):=by
  have hlen:=h.bods.len
  have hmb:=hm.bodies
  have hkp:=keys_perm h
  have hrd:∀ d',∃ r:RowC,d'∈s.cm.map Prod.fst→RowOk (fun y o=>S0 y o∨inG s.bg y o∨(y,o)∈(G8 s.rows).flatten) W0 ([(s.nb,.map (B2 s.nm) s.nc)]::s.bg::(G8 s.rows++(s.Z++H))) s.cm d' r∧All2 (fun x l=>(∃ c,MapOk x c)∧ChangeR (A0k s.bs) x l) r.xs (J1 M.changes d')∧r.qs.length=(J1 M.changes d').length:=by
    intro d'
    by_cases hd:d'∈s.cm.map Prod.fst
    · obtain ⟨⟨k,rv,c⟩,he,rfl⟩:=List.mem_map.1 hd
      have hg:=mget_of h.cok.nodup he
      obtain ⟨pre,r,post,c,p1,p2,hrows,hcm,hp1,hpre,hdd,hrv,e1,e2⟩:=rows_some h.rows hg
      have hmem:r∈s.rows:=by rw [hrows]; exact List.mem_append_right _ List.mem_cons_self
      obtain ⟨ho,hpos⟩:=h.rows.2 r hmem
      have hq:=rows_le h hm r hmem
      rw [hrv] at ho
      obtain ⟨ra,rc,hra,hrc,hrd⟩:=ho.shape
      have hrow:O1 s.rows k=r.qs:=by rw [hrows,X6 hpre,O1,hdd,if_pos (baEq.2 rfl)]
      have hch:=h.chs k
      rw [hrow] at hch
      obtain ⟨xs,xcs,x1,x2,x3⟩:=row_read hch
      refine ⟨⟨ra,rc,r.qs,xs,xcs⟩,fun _=>⟨⟨?_,hrd.mono fun y o hy=>.inr (.inr (List.mem_flatten.2 ⟨r.g,List.mem_map.2 ⟨r,hmem,rfl⟩,hy⟩)),x1,hq,hrc,fun i hi=>⟨?_,(x3 i hi).2⟩⟩,x2,hch.len⟩⟩
      · rw [show S4 s.cm k=some rv from hg,hra]
      · exact .cons (.cons (X8 (.inr (by rw [List.flatten_append]; exact List.mem_append_left _ (x3 i hi).1))))
    · exact ⟨⟨none,0,[],[],[]⟩,fun h=>absurd h hd⟩
  have hbn:∀ b∈s.bs,b.n≤b.cn∧b.n≤1000000000∧b.m≤b.n:=fun b hb=>by
    obtain ⟨B,hB,hr⟩:=h.bods.mem hb
    have:=hm.size B hB
    have h1:=hr.n
    have h2:=hr.m
    exact ⟨hr.cn,by omega,by omega⟩
  obtain ⟨ra,rc,hra,_,hrb⟩:=h.own.shape
  injection hra with e1 e2 e3
  subst e1
  have hcs:∀ e∈s.cm,e.1.size≤9223372036854775807:=fun e he=>by
    have h1:e.1∈M.changes.map (·.dir):=once_mem.1 (hkp.mem_iff.1 (List.mem_map.2 ⟨e,he,rfl⟩))
    obtain ⟨c,hc,h2⟩:=List.mem_map.1 h1
    have:=hm.dirs c hc
    rw [← h2]; omega
  have hcl:s.cm.length≤1000000000:=by
    have h1:=hkp.length_eq
    rw [List.length_map] at h1
    have h2:=once_le (M.changes.map (·.dir))
    rw [List.length_map] at h2
    have:=hm.changes
    omega
  have hto:∀ {w:World},Sat W0 (s.G d M++H) w→Sat W0 ([(d,dkO M s)]::G9 s.bs::[(s.kb,.map (B2 s.km) s.kc)]::[(s.cb,.map (B2 s.cm) s.cc)]::([(s.nb,.map (B2 s.nm) s.nc)]::s.bg::(G8 s.rows++(s.Z++H)))) w:=fun hw=>K6 hw fun _ x=>by
    simp only [DS.G,List.cons_append,List.append_assoc]
    simp only [List.flatten_cons,List.flatten_append,List.count_append]
    omega
  refine Tri.heap (fun w hw=>hto hw) (Tri.post (vCrash d s.nb s.kb s.cb s.kc s.cc M.room M.calls M.fails M.once s.km s.cm s.bs s.ba s.bc ks (fun d'=>Classical.choose (hrd d')) (fun y o=>S0 y o∨inG s.bg y o∨(y,o)∈(G8 s.rows).flatten) ⟨hks.1.mono fun _ _=>.inl,hks.2⟩ (by omega) hbn (hrb.mono fun _ _ hy=>.inr (.inl hy)) h.kok h.cok hcs hcl W0 ([(s.nb,.map (B2 s.nm) s.nc)]::s.bg::(G8 s.rows++(s.Z++H))) (fun y o hy=>?_) (fun d' hd'=>(Classical.choose_spec (hrd d') hd').1)) fun v H1 hr=>?_)
  · rcases hy with hy | hy | hy
    · exact .cons (.cons (X8 (X8 (hS0 y o hy))))
    · exact .cons (At.mem List.mem_cons_self hy)
    · exact .cons (.cons (at_app (.inr hy)))
  · obtain ⟨hv,b,b2,km1,kc1,ks1,hk,hH⟩:=hr
    rw [stB_L s.bs ks s.bs.length (Nat.le_refl _),List.take_length,List.drop_length,List.append_nil] at hk hH
    obtain ⟨hb1,hb2⟩:=crashL_r h.bods (fun B hB=>(hm.size B hB).2) ks
    have hds:V7 (s.cm.map Prod.fst)=S5 M.changes:=sortB_congr hkp
    obtain ⟨hN,hO⟩:=crash_names (l:=M.changes) (fun d' hd'=>(Classical.choose_spec (hrd d') ((S9 _).mem_iff.1 hd')).2) h.kept h.kok hk
    simp only at hN
    rw [hds,hb2] at hN
    have hps:=crashL_p s.bs ks
    have h0:MapOk [] 0:=⟨List.Pairwise.nil,List.nodup_nil,fun _ h=>absurd h List.not_mem_nil⟩
    refine ⟨_,⟨hv,⟨b,s.kb,b2,km1,km1,[],kc1,kc1,0,s.ba,s.bc,s.bg,(S6 s.bs ks).1,[],[(s.nb,.map (B2 s.nm) s.nc)]::(G8 s.rows++s.Z)⟩,⟨?_,hO,hO,h0,?_,?_,⟨rfl,fun _ h=>absurd h List.not_mem_nil⟩,fun _=>.nil,?_⟩,rfl⟩,fun w hw=>?_⟩
    · have e1:∀ l:List BE,l.map (fun b=>Value.pointer (some ⟨b.p,0,none⟩))=(A0k l).map fun p=>Value.pointer (some ⟨p,0,none⟩):=fun l=>by unfold A0k; rw [List.map_map]; rfl
      simp only [crashL_len]
      rw [e1,hps,← e1]; exact h.own
    · rw [hps]; exact hN
    · rw [hps]; exact hN
    · exact hb1.imp fun b B hb=>hb.mono fun y o hy=>by
        show (y,o)∈List.flatten ([(s.nb,.map (B2 s.nm) s.nc)]::(G8 s.rows++s.Z))
        rw [List.flatten_cons,List.flatten_append]
        exact List.mem_append_right _ (List.mem_append_right _ hy)
    · rw [hH] at hw
      refine K6 hw fun _ x=>?_
      simp only [DS.G,dkO,V9,crashL_len,G8,List.map_nil,List.cons_append,List.append_assoc,List.nil_append]
      simp only [List.flatten_cons,List.flatten_append,List.count_append]
      omega
end Go.Vf
namespace Go.Sw
open Go.RowKit
theorem GL_bytesB {d:Bool} {P:Program} {ops:Array Oper} {i:Nat} {Q:G3} {n:Fr} {E:Env} {W0:World} {H:List Grp} {o:Oper} {ch:List (Nat × Bool)} {src dst e:TypeId} {x:Operand} {a:Option Addr} {cap:Nat} {S:Nat→Obj→Prop} (b:ByteArray)
    (ho:ops[i]? = some o) (hop:o.op=.convert src dst x) (hx:evO E ch x=some (.slice a b.size cap)) (hs:P.underlying src=some (.slice e)) (he:P.underlying e=some (.int .u8)) (hds:P.underlying dst=some .string)
    (hch:F3 ops E o.guard=some ch) (hd:H7 n ch o.dst=true) (hk:K3 E ch=true)
    (hrd:Rd S a (u8s b.data.toList)) (hS:∀ b o,S b o→At W0 H b o)
    (k:GL d P ops (i+1) Q n (Env.put E o.dst ch (.string b)) W0 H):GL d P ops i Q n E W0 H:=by
  cases a with
  | some a =>
    refine GL_bytesStr (cap:=cap) b.data.toList ho hop ?_ hs he hds hch hd hk hrd hS ?_
    · rw [hx,show b.data.toList.length=b.size from Array.length_toList]
    · have:(⟨b.data.toList.toArray⟩:ByteArray)=b:=by cases b; simp
      rw [this]; exact k
  | none =>
    have h0:b=ByteArray.empty:=by
      rcases hrd with h | ⟨_,_,_,_,_,h,_⟩
      · have h1:=congrArg List.length h
        unfold u8s at h1
        rw [List.length_map] at h1
        cases b with | mk d =>
        have:d=#[]:=Array.eq_empty_of_size_eq_zero (by simpa using h1)
        rw [this]; rfl
      · cases h
    refine J2 ho hch hd hk (fun r hr _ w _=>?_) k
    unfold execOp
    simp only [hop]
    rw [hr _ _ hx,h0]
    have:=run_convert_bytes_string (P:=P) w src dst e none ByteArray.empty.size cap hs he hds
    simp only [Sem.run_bind,this]
    exact ⟨rfl,rfl⟩
end Go.Sw
namespace Go.Vf
open Go.Sw Go.RowKit Go.Proofs Go.Proofs.YtlaoeiaaeifidaaGreat
def IsK (K:List Grp) (d:Nat) (M:DM) (v0:Value) (H:List Grp):Value→List Grp→Prop:=fun v H'=>v=v0∧∃ s:DS,s.ok M∧H'=K++(s.G d M++H)
theorem front_to {K X H:List Grp} {W0:World} {w:World} (hw:Sat W0 (K++(X++H)) w):Sat W0 (X++(K++H)) w:=K6 hw fun _ x=>by
  simp only [List.flatten_append,List.count_append]; omega
theorem A0v {f:FuncId} {args:Array Value} {W0:World} {s:DS} {d:Nat} {M M':DM} {v0:Value} {K H:List Grp} (h:Tri Tryz.prog f args W0 (s.G d M++(K++H)) (Is d M' v0 (K++H))):Tri Tryz.prog f args W0 (K++(s.G d M++H)) (IsK K d M' v0 H) :=
  Tri.heap (fun _ hw=>front_to hw) (Tri.post h fun v H1 ⟨hv,s',hs,hH⟩=>⟨_,⟨hv,s',hs,rfl⟩,fun w hw=>by rw [hH] at hw; exact front_to hw⟩)
theorem BytesV.up {W0:World} {H:List Grp} {v:Value} {b:ByteArray} (h:BytesV W0 [] v b):BytesV W0 H v b:=by
  obtain ⟨a,cap,S,h1,h2,h3,h4⟩:=h
  refine ⟨a,cap,S,h1,h2,h3,fun y o hy=>?_⟩
  rcases h4 y o hy with h | h
  · exact .inl h
  · cases h
theorem at_up {W0:World} {H:List Grp} {y:Nat} {o:Obj} (h:At W0 [] y o):At W0 H y o:=by
  rcases h with h | h
  · exact .inl h
  · cases h
structure BytesA (W0:World) (H:List Grp) (a:Option Addr) (c:Nat) (S:Nat→Obj→Prop) (b:ByteArray):Prop where
  sh:Sh a b.size c
  rd:Rd S a (u8s b.data.toList)
  at_:∀ y o,S y o→At W0 H y o
theorem BytesA.v {W0:World} {H:List Grp} {a:Option Addr} {c:Nat} {S:Nat→Obj→Prop} {b:ByteArray} (h:BytesA W0 H a c S b):BytesV W0 H (.slice a b.size c) b:=⟨a,c,S,rfl,h.sh,h.rd,h.at_⟩
theorem dWrite {s:DS} {M M':DM} {e:Int} (h:s.ok M) (hm:L5 M) (d:Nat) (path b:ByteArray) (hpath:path.size≤9223372036854775807) (hb:b.size≤1000000000) (K:List Grp) (W0:World) (H:List Grp) {bv:Value} (hbv:BytesV W0 (K++H) bv b) (he:D9 M path b=(e,M')) :
    Tri Tryz.prog 9 #[.pointer (some ⟨d,0,none⟩),.string path,bv] W0 (K++(s.G d M++H)) (IsK K d M' (.int .i64 e) H):=by
  have:=cWrite h hm d path b hpath hb W0 (K++H) hbv
  rw [he] at this
  exact A0v this
theorem dAppend {s:DS} {M M':DM} {e:Int} (h:s.ok M) (hm:L5 M) (d:Nat) (path b:ByteArray) (hpath:path.size≤9223372036854775807) (hb:b.size≤1000000000) (K:List Grp) (W0:World) (H:List Grp) {bv:Value} (hbv:BytesV W0 (K++H) bv b) (he:F4 M path b=(e,M')) :
    Tri Tryz.prog 26 #[.pointer (some ⟨d,0,none⟩),.string path,bv] W0 (K++(s.G d M++H)) (IsK K d M' (.int .i64 e) H):=by
  have:=cAppend h hm d path b hpath hb W0 (K++H) hbv
  rw [he] at this
  exact A0v this
theorem dSync {s:DS} {M M':DM} {e:Int} (h:s.ok M) (hm:L5 M) (d:Nat) (path:ByteArray) (hpath:path.size≤9223372036854775807) (K:List Grp) (W0:World) (H:List Grp) (he:L8 M path=(e,M')) :
    Tri Tryz.prog 86 #[.pointer (some ⟨d,0,none⟩),.string path] W0 (K++(s.G d M++H)) (IsK K d M' (.int .i64 e) H):=by
  have:=cSync h hm d path hpath W0 (K++H)
  rw [he] at this
  exact A0v this
theorem dSyncDir {s:DS} {M M':DM} {e:Int} (h:s.ok M) (hm:L5 M) (d:Nat) (path:ByteArray) (hpath:path.size≤9223372036854775807) (K:List Grp) (W0:World) (H:List Grp) (he:I4 M path=(e,M')) :
    Tri Tryz.prog 87 #[.pointer (some ⟨d,0,none⟩),.string path] W0 (K++(s.G d M++H)) (IsK K d M' (.int .i64 e) H):=by
  have:=cSyncDir h hm d path hpath W0 (K++H)
  rw [he] at this
  exact A0v this
theorem dRename {s:DS} {M M':DM} {e:Int} (h:s.ok M) (hm:L5 M) (d:Nat) (path to:ByteArray) (hpath:path.size≤9223372036854775807) (hto:to.size≤9223372036854775807) (K:List Grp) (W0:World) (H:List Grp) (he:J3 M path to=(e,M')) :
    Tri Tryz.prog 56 #[.pointer (some ⟨d,0,none⟩),.string path,.string to] W0 (K++(s.G d M++H)) (IsK K d M' (.int .i64 e) H):=by
  have:=cRename h hm d path to hpath hto W0 (K++H)
  rw [he] at this
  exact A0v this
theorem dFail {s:DS} {M M':DM} (h:s.ok M) (d:Nat) (n:Int) (o:Bool) (K:List Grp) (W0:World) (H:List Grp) (he:failM M n o=M') :
    Tri Tryz.prog 24 #[.pointer (some ⟨d,0,none⟩),.int .i64 n,.bool o] W0 (K++(s.G d M++H)) (IsK K d M' (.tuple #[]) H):=by
  have:=cFail h d n o W0 (K++H)
  rw [he] at this
  exact A0v this
theorem dCrash {s:DS} {M M':DM} (h:s.ok M) (hm:L5 M) (d:Nat) (l:List Int) (a:Option Addr) (c:Nat) (S0:Nat→Obj→Prop) (hks:KsOk S0 ⟨l,a,c⟩) (K:List Grp) (W0:World) (H:List Grp) (hS0:∀ y o,S0 y o→At W0 (K++H) y o) (he:V9 M l=M') :
    Tri Tryz.prog 28 #[.pointer (some ⟨d,0,none⟩),.slice a l.length c] W0 (K++(s.G d M++H)) (IsK K d M' (.tuple #[]) H):=by
  subst he
  exact A0v (cCrash h hm d ⟨l,a,c⟩ S0 hks W0 (K++H) hS0)
theorem dNew (room:Int) {M:DM} (W0:World) (H:List Grp) (he:newM room=M):Tri Tryz.prog 8 #[.int .i64 room] W0 H (fun v H'=>∃ d,v=.pointer (some ⟨d,0,none⟩)∧∃ s:DS,s.ok M∧H'=s.G d M++H):=by
  subst he; exact cNew room W0 H
theorem dRead {s:DS} {M:DM} {b:ByteArray} {e:Int} (h:s.ok M) (hm:∀ B∈M.bodies,B.now.size≤10000000) (d:Nat) (path:ByteArray) (K:List Grp) (W0:World) (H:List Grp) (he:K9 M path=(b,e)) :
    Tri Tryz.prog 13 #[.pointer (some ⟨d,0,none⟩),.string path] W0 (K++(s.G d M++H)) (fun v H'=>∃ a c g,v=.tuple #[.slice a b.size c,.int .i64 e]∧b.size≤c∧Rd (inG g) a (u8s b.data.toList)∧H'=g::(K++(s.G d M++H))):=by
  have:=cRead h hm d path W0 (K++H)
  rw [he] at this
  refine Tri.heap (fun _ hw=>front_to hw) (Tri.post this fun v H1 ⟨x,g,hv,ho,hH⟩=>?_)
  obtain ⟨a,c,rfl,hc,hr⟩:=ho.shape
  refine ⟨_,⟨a,c,g,hv,hc,hr,rfl⟩,fun w hw=>?_⟩
  rw [hH] at hw
  refine K6 hw fun _ x=>?_
  simp only [List.flatten_cons,List.flatten_append,List.count_append]
  omega
end Go.Vf
namespace Go.Proofs.YtlaoeiaaeifidaaGreat
open Go Go.ChangeShapes Go.WideShapes Go.ChangeAt Go.RowKit Go.Sw Go.Vf
theorem laidOut_:laidOutB Tryz.prog=true:=by kernel_rfl
def SW (W:World) (y:Nat) (o:Obj):Prop:=y<W.heap.size∧W.heap[y]? = some o
theorem sw_at {W:World} {y:Nat} {o:Obj} (h:SW W y o):At W [] y o:=.inl h
theorem rd_cells {W:World} {a:Addr} {cs:List Value} (hn:cs≠[]) (h:∀ j u,cs[j]? = some u→W.cell? (a.add j)=some u):(∃ b off,a=⟨b,off,none⟩)∧Rd (SW W) (some a) cs:=by
  obtain ⟨b,off,sp⟩:=a
  cases cs with
  | nil=>exact absurd rfl hn
  | cons v r =>
    have h0:=h 0 v rfl
    unfold World.cell? at h0
    rw [show (Addr.add ⟨b,off,sp⟩ 0)=⟨b,off,sp⟩ from rfl] at h0
    cases hb:W.heap[b]? with
    | none=>rw [show (⟨b,off,sp⟩:Addr).block=b from rfl,hb] at h0; cases h0
    | some o =>
      rw [show (⟨b,off,sp⟩:Addr).block=b from rfl,hb] at h0
      cases o with
      | cells c e fz =>
        cases sp with
        | some s=>simp at h0
        | none =>
          refine ⟨⟨b,off,rfl⟩,.inr ⟨b,off,c,e,fz,rfl,⟨?_,hb⟩,fun j u hu=>?_⟩⟩
          · rcases Nat.lt_or_ge b W.heap.size with h | h
            · exact h
            · rw [Array.getElem?_eq_none h] at hb; cases hb
          · have hj:=h j u hu
            rw [N8] at hj
            unfold World.cell? at hj
            rw [show (⟨b,off+j,none⟩:Addr).block=b from rfl,hb] at hj
            simpa using hj
      | _=>cases h0
theorem wf_i64 {n:Int} (h:(Lit.int .i64 n).wf=true):-9223372036854775808≤n∧n≤9223372036854775807:=by
  simp [Lit.wf,IntKind.min,IntKind.max,IntKind.bits,IntKind.signed] at h
  omega
theorem cells_str:Tryz.prog.cellsOf 9=1:=by kernel_rfl
theorem cells_is:Tryz.prog.cellsOf 49=1:=by kernel_rfl
theorem cells_int:Tryz.prog.cellsOf 3=1:=by kernel_rfl
set_option maxRecDepth 100000 in
theorem ints_core {H:Type} {enc:TypeId × Value→H} {W:World} {cs:List Value} {x:DataW H × List MemPlace} {fuel:Nat} (hf:DataW.trod enc Tryz.prog W 0 (fun _=>true) true fuel 49 cs=some x) :
    ∃ (a:Option Addr) (c:Nat) (l:List Int),cs=[.slice a l.length c]∧Rd (SW W) a (l.map (Value.int .i64))∧l.length≤c∧(∀ x∈l,-9223372036854775808≤x∧x≤9223372036854775807)∧l.length≤9223372036854775807:=by
  rcases open_ints Tryz.underlying49 Tryz.underlying3 cells_int hf with ⟨hcs,hx⟩ | ⟨a,len,cap,zs,hcs,_,hl,hm,hz,hx,hcell,hwz⟩
  · subst hcs
    exact ⟨none,0,[],rfl,.inl rfl,Nat.le_refl _,fun _ h=>absurd h List.not_mem_nil,by decide⟩
  · subst hcs
    simp only [if_true] at hz
    have hlen:(zs.take len).length=len:=by rw [List.length_take]; omega
    have hml:maxLen≤9223372036854775807:=by decide
    refine ⟨some a,cap,zs.take len,by rw [hlen],?_,by rw [hlen]; exact hl,fun x hx=>wf_i64 (hwz x (List.mem_of_mem_take hx)),by rw [hlen]; omega⟩
    by_cases h0:len=0
    · subst h0; exact .inl (by simp)
    · exact (rd_cells (W:=W) (a:=a) (cs:=(zs.take len).map (Value.int .i64)) (by intro he; rw [List.map_eq_nil_iff] at he; rw [he] at hlen; simp at hlen; omega) (fun j u hu=>by
        rw [List.getElem?_map] at hu
        obtain ⟨z,hz1,rfl⟩:=Option.map_eq_some_iff.1 hu
        have hj:j<len:=by
          rcases Nat.lt_or_ge j (zs.take len).length with h | h
          · omega
          · rw [List.getElem?_eq_none h] at hz1; cases hz1
        rw [List.getElem?_take_of_lt hj] at hz1
        rw [hcell j (by omega),List.getD_eq_getElem?_getD,hz1]; rfl)).2
end Go.Proofs.YtlaoeiaaeifidaaGreat
namespace Go.Proofs.YtlaoeiaaeifidaaGreat
open Go Go.ChangeShapes Go.WideShapes Go.ChangeAt Go.RowKit Go.Sw Go.Vf
structure StrsA (W:World) (a:Option Addr) (c:Nat) (l:List ByteArray):Prop where
  rd:Rd (SW W) a (Go.Sw.strs l)
  cap:l.length≤c
  len:l.length≤9223372036854775807
  nil:a=none→l.length=0
  size:∀ t∈l,t.size≤9223372036854775807
theorem add_add1 (a:Addr) (i j:Nat) (h:i≤j):(a.add i).add (j - i)=a.add j:=by
  unfold Addr.add
  by_cases hm0:i=0
  · simp [hm0]
  · by_cases hj0:j - i=0
    · have:j=i:=by omega
      simp [this]
    · have:j≠0:=by omega
      simp [hm0,hj0,this]
      omega
set_option maxRecDepth 100000 in
theorem strs_core {H:Type} {enc:TypeId × Value→H} {W:World} {cs:List Value} {x:DataW H × List MemPlace} {fuel:Nat} (hf:DataW.trod enc Tryz.prog W 0 (fun _=>true) true fuel 32 cs=some x) :
    ∃ (a:Option Addr) (c:Nat) (l:List ByteArray),cs=[.slice a l.length c]∧StrsA W a c l:=by
  have hml:maxLen≤9223372036854775807:=by decide
  rcases DataW.trod_slice Tryz.underlying32 hf with ⟨hcs,_⟩ | ⟨a,len',cap',elems,rest,n,rfl,hcs,_,_,hl,hm,hlen,hel,_,_⟩
  · subst hcs
    exact ⟨none,0,[],rfl,⟨.inl rfl,Nat.le_refl _,by decide,fun _=>rfl,fun _ h=>absurd h List.not_mem_nil⟩⟩
  · rw [cells_str] at hel
    have each:∀ i,i<len'→∃ t:ByteArray,t.size≤9223372036854775807∧W.cell? (a.add i)=some (.string t):=by
      intro i hi
      have h:=hel i hi
      rw [List.getElem?_eq_getElem (by omega)] at h
      obtain ⟨cs,hc,ht⟩:=Option.bind_eq_some_iff.1 h
      obtain ⟨t,e1,_,w1⟩:=DataW.trod_string Tryz.underlying9 ht
      subst e1
      have h0:=(World.cells?_some hc).2.2 0 (by omega)
      refine ⟨t,by omega,?_⟩
      rw [show (a.add (i * 1)).add 0=a.add i by rw [Nat.mul_one]; rfl] at h0
      exact h0
    have build:∀ m,m≤len'→∃ l:List ByteArray,l.length=m∧(∀ o∈l,o.size≤9223372036854775807)∧∀ j u,(Go.Sw.strs l)[j]? = some u→W.cell? (a.add j)=some u:=by
      intro m
      induction m with
      | zero=>intro _; exact ⟨[],rfl,fun _ h=>absurd h List.not_mem_nil,fun j u h=>by simp [Go.Sw.strs] at h⟩
      | succ m ih =>
        intro hm1
        obtain ⟨l,h1,h2,h3⟩:=ih (by omega)
        obtain ⟨o,ho,hc⟩:=each m (by omega)
        have hll:(Go.Sw.strs l).length=m:=by unfold Go.Sw.strs; rw [List.length_map,h1]
        refine ⟨l++[o],by simp [h1],fun x hx=>?_,fun j u hu=>?_⟩
        · rcases List.mem_append.1 hx with hx | hx
          · exact h2 x hx
          · rw [List.mem_singleton.1 hx]; exact ho
        · rw [show Go.Sw.strs (l++[o])=Go.Sw.strs l++[.string o] by simp [Go.Sw.strs]] at hu
          rcases Nat.lt_or_ge j m with hlt | hge
          · rw [List.getElem?_append_left (by omega)] at hu
            exact h3 j u hu
          · rw [List.getElem?_append_right (by omega),hll] at hu
            have hj:j=m:=by
              rcases Nat.lt_or_ge (j - m) 1 with h | h
              · omega
              · rw [List.getElem?_eq_none (by exact h)] at hu; cases hu
            subst hj
            rw [Nat.sub_self] at hu
            rw [hc]; exact hu
    obtain ⟨l,h1,h2,h3⟩:=build len' (Nat.le_refl _)
    refine ⟨some a,cap',l,by rw [h1]; exact hcs,⟨?_,by omega,by omega,(fun h=>by cases h),h2⟩⟩
    by_cases h0:Go.Sw.strs l=[]
    · rw [h0]; exact .inl rfl
    · exact (rd_cells h0 h3).2
end Go.Proofs.YtlaoeiaaeifidaaGreat
namespace Go.Sha
open Go.Sw
abbrev w32 (x:Int):Int:=IntKind.wrap .u32 x
def xor32 (a b:Int):Int:=IntKind.wrap .u32 ((BitVec.ofInt (IntKind.bits .u32) a ^^^ BitVec.ofInt (IntKind.bits .u32) b).toNat)
def or32 (a b:Int):Int:=IntKind.wrap .u32 ((BitVec.ofInt (IntKind.bits .u32) a ||| BitVec.ofInt (IntKind.bits .u32) b).toNat)
def and32 (a b:Int):Int:=IntKind.wrap .u32 ((BitVec.ofInt (IntKind.bits .u32) a &&& BitVec.ofInt (IntKind.bits .u32) b).toNat)
def not32 (a:Int):Int:=IntKind.wrap .u32 ((BitVec.ofInt (IntKind.bits .u32) 4294967295 ^^^ BitVec.ofInt (IntKind.bits .u32) a).toNat)
def V8 (x:Int) (n:Nat):Int:=or32 (w32 (x * 2 ^ (32 - n))) (Int.fdiv x (2 ^ n))
def sg0 (x:Int):Int:=xor32 (xor32 (V8 x 7) (V8 x 18)) (Int.fdiv x (2 ^ 3))
def sg1 (x:Int):Int:=xor32 (xor32 (V8 x 17) (V8 x 19)) (Int.fdiv x (2 ^ 10))
def bs1 (x:Int):Int:=xor32 (xor32 (V8 x 6) (V8 x 11)) (V8 x 25)
def bs0 (x:Int):Int:=xor32 (xor32 (V8 x 2) (V8 x 13)) (V8 x 22)
def chP (e f g:Int):Int:=xor32 (and32 e f) (and32 (not32 e) g)
def majP (a b c:Int):Int:=xor32 (xor32 (and32 a b) (and32 a c)) (and32 b c)
def wordP (a b c d:Int):Int:=or32 (or32 (or32 (w32 (w32 a * 2 ^ 24)) (w32 (w32 b * 2 ^ 16))) (w32 (w32 c * 2 ^ 8))) (w32 d)
def F7 (B:Nat→Int):Nat→List Int
  | 0=>[]
  | i+1=>F7 B i++[if i<16 then wordP (B (4 * i)) (B (4 * i+1)) (B (4 * i+2)) (B (4 * i+3))
      else w32 (w32 (w32 ((F7 B i).getD (i - 16) 0+sg0 ((F7 B i).getD (i - 15) 0))+(F7 B i).getD (i - 7) 0)+sg1 ((F7 B i).getD (i - 2) 0))]
theorem J5 (B:Nat→Int):∀ i,(F7 B i).length=i
  | 0=>rfl
  | i+1=>by simp [F7,J5 B i]
structure S8 where
  a:Int
  b:Int
  c:Int
  d:Int
  e:Int
  f:Int
  g:Int
  h:Int
def t1P (k w:Int) (s:S8):Int:=w32 (w32 (w32 (w32 (s.h+bs1 s.e)+chP s.e s.f s.g)+k)+w)
def t2P (s:S8):Int:=w32 (bs0 s.a+majP s.a s.b s.c)
def rnd (k w:Int) (s:S8):S8 :=
  ⟨w32 (t1P k w s+t2P s),s.a,s.b,s.c,w32 (s.d+t1P k w s),s.e,s.f,s.g⟩
def rnds (K W:Nat→Int) (s:S8):Nat→S8
  | 0=>s
  | i+1=>rnd (K i) (W i) (rnds K W s i)
def addS (s t:S8):S8:=⟨w32 (s.a+t.a),w32 (s.b+t.b),w32 (s.c+t.c),w32 (s.d+t.d),w32 (s.e+t.e),w32 (s.f+t.f),w32 (s.g+t.g),w32 (s.h+t.h)⟩
def kTab:List Int:=[1116352408,1899447441,3049323471,3921009573,961987163,1508970993,2453635748,2870763221,3624381080,310598401,607225278,1426881987,1925078388,2162078206,2614888103,3248222580,3835390401,4022224774,264347078,604807628,770255983,1249150122,1555081692,1996064986,2554220882,2821834349,2952996808,3210313671,3336571891,3584528711,113926993,338241895,666307205,773529912,1294757372,1396182291,1695183700,1986661051,2177026350,2456956037,2730485921,2820302411,3259730800,3345764771,3516065817,3600352804,4094571909,275423344,430227734,506948616,659060556,883997877,958139571,1322822218,1537002063,1747873779,1955562222,2024104815,2227730452,2361852424,2428436474,2756734187,3204031479,3329325298]
def kAt (i:Nat):Int:=kTab.getD i 0
def hIni:S8:=⟨1779033703,3144134277,1013904242,2773480762,1359893119,2600822924,528734635,1541459225⟩
def wAt (B:Nat→Int) (i:Nat):Int:=(F7 B 64).getD i 0
def M0 (B:Nat→Int) (s:S8):S8:=addS s (rnds kAt (wAt B) s 64)
def H6 (l:List Int):List Value:=l.map (Value.int .u32)
def Y5 (B:Nat→Int) (i:Nat):Array Value:=(H6 (F7 B i)++List.replicate (64 - i) (Value.int .u32 0)).toArray
def Z0:Array Value:=(H6 kTab).toArray
theorem wArr_size (B:Nat→Int) {i:Nat} (h:i≤64):(Y5 B i).size=64:=by simp [Y5,H6,J5]; omega
theorem wArr_at (B:Nat→Int) {i j:Nat} {q:Int} (hq:q=j) (h:j<i):(Y5 B i)[0+Int.toNat q * 1]? = some (.int .u32 ((F7 B i).getD j 0)):=by
  subst hq
  simp only [Int.toNat_natCast,Nat.mul_one,Nat.zero_add,Y5,List.getElem?_toArray]
  rw [List.getElem?_append_left (by simp [H6,J5,h])]
  simp [H6,List.getD,J5,h]
theorem wArr_set (B:Nat→Int) {i:Nat} {q:Int} {v:Int} (hq:q=i) (h:i<64)
    (hv:v=if i<16 then wordP (B (4 * i)) (B (4 * i+1)) (B (4 * i+2)) (B (4 * i+3))
      else w32 (w32 (w32 ((F7 B i).getD (i - 16) 0+sg0 ((F7 B i).getD (i - 15) 0))+(F7 B i).getD (i - 7) 0)+sg1 ((F7 B i).getD (i - 2) 0))) :
    setRow (Y5 B i) (0+Int.toNat q * 1) [.int .u32 v]=Y5 B (i+1):=by
  subst hq
  have e:Y5 B i=(H6 (F7 B i)++[Value.int .u32 0]++List.replicate (64 - (i+1)) (Value.int .u32 0)).toArray:=by
    unfold Y5
    rw [show 64 - i=(64 - (i+1))+1 by omega,List.replicate_succ]
    simp
  have hl:(H6 (F7 B i)).length=0+Int.toNat ((i:Nat):Int) * 1:=by simp [H6,J5]
  rw [e,← hl,Z8 [Value.int .u32 v] (H6 (F7 B i)) (List.replicate (64 - (i+1)) (Value.int .u32 0)) [Value.int .u32 0] rfl]
  subst hv
  simp only [Y5,F7,H6,List.map_append,List.map_cons,List.map_nil]
theorem kArr_at {j:Nat} {q:Int} (hq:q=j) (h:j<64):Z0[0+Int.toNat q * 1]? = some (.int .u32 (kAt j)):=by
  subst hq
  have hk:kTab.length=64:=rfl
  simp only [Int.toNat_natCast,Nat.mul_one,Nat.zero_add,Z0,List.getElem?_toArray,H6,kAt]
  simp [List.getD,hk,h]
theorem u8s_at {l:List UInt8} {k:Nat} (h:k<l.length):(u8s l)[k]? = some (.int .u8 ((l.getD k 0).toNat:Int)):=by
  simp [u8s,h,List.getD]
def byt (l:List UInt8) (j:Nat):Int:=((l.getD j 0).toNat:Int)
theorem byt_at {l:List UInt8} {k q:Nat} (hq:q=k) (h:k<l.length):(u8s l)[q]? = some (.int .u8 (byt l k)):=by
  subst hq; exact u8s_at h
theorem byt_rng (l:List UInt8) (j:Nat):0≤byt l j∧byt l j<256:=by
  unfold byt; have:=UInt8.toNat_lt (l.getD j 0); omega
def S8.v (s:S8):Value:=.agg #[.int .u32 s.a,.int .u32 s.b,.int .u32 s.c,.int .u32 s.d,.int .u32 s.e,.int .u32 s.f,.int .u32 s.g,.int .u32 s.h]
def b8 (y:Int):UInt8:=UInt8.ofNat (y % 256).toNat
theorem wrap_b8 (y:Int):IntKind.wrap .u8 y=((b8 y).toNat:Int):=by
  have h1:0≤y % 256:=Int.emod_nonneg _ (by decide)
  have h2:y % 256<256:=Int.emod_lt_of_pos _ (by decide)
  have e:IntKind.wrap .u8 y=y % 256:=by first | rfl | (simp [IntKind.wrap,IntKind.bits,IntKind.signed]; done)
  rw [e]
  unfold b8
  simp only [UInt8.toNat_ofNat']
  omega
def T8 (n:Int):List UInt8:=[b8 (n.fdiv (2 ^ 56)),b8 (n.fdiv (2 ^ 48)),b8 (n.fdiv (2 ^ 40)),b8 (n.fdiv (2 ^ 32)),b8 (n.fdiv (2 ^ 24)),b8 (n.fdiv (2 ^ 16)),b8 (n.fdiv (2 ^ 8)),b8 (n.fdiv (2 ^ 0))]
def wordB (x:Int):List UInt8:=[b8 (x.fdiv (2 ^ 24)),b8 (x.fdiv (2 ^ 16)),b8 (x.fdiv (2 ^ 8)),b8 x]
theorem u8s_cons (y:Int) (l:List UInt8):u8s (b8 y::l)=Value.int .u8 (IntKind.wrap .u8 y)::u8s l:=by unfold u8s; rw [List.map_cons,wrap_b8]
def padZ (n:Nat):Nat:=(119 - n % 64) % 64
def padK (l:List UInt8) (k:Nat):List UInt8:=l++128::List.replicate k 0
def H4 (l:List UInt8):List UInt8:=padK l (padZ l.length)++T8 ((8 * l.length:Nat):Int)
def L6 (p:List UInt8) (k:Nat):List UInt8:=(p.drop (64 * k)).take 64
def L4 (p:List UInt8) {m:Nat} (ks:List (Fin m)):S8:=ks.foldl (fun s k=>M0 (byt (L6 p k.1)) s) hIni
def S3 (l:List UInt8):S8:=L4 (H4 l) (List.finRange ((H4 l).length / 64))
def wd (s:S8) (k:Nat):Int:=[s.a,s.b,s.c,s.d,s.e,s.f,s.g,s.h].getD k 0
def outB (s:S8):List UInt8:=wordB s.a++wordB s.b++wordB s.c++wordB s.d++wordB s.e++wordB s.f++wordB s.g++wordB s.h
def Y0 (l:List UInt8):List UInt8:=outB (S3 l)
theorem padK_len (l:List UInt8) (k:Nat):(padK l k).length=l.length+1+k:=by simp [padK]; omega
theorem padB_len (l:List UInt8):(H4 l).length=l.length+1+padZ l.length+8:=by simp [H4,padK_len,T8]
theorem pad_mod (n:Nat):(n+1+padZ n+8) % 64=0∧padZ n<64:=by unfold padZ; omega
theorem pad_more {n k:Nat} (h:k≤padZ n):((((n+1+k:Nat):Int) % 64 != 56)=true→k<padZ n)∧((((n+1+k:Nat):Int) % 64 != 56)=false→k=padZ n):=by
  unfold padZ at *
  constructor
  · intro h1
    have h2:((n+1+k:Nat):Int) % 64≠56:=by simpa using h1
    omega
  · intro h1
    have h2:((n+1+k:Nat):Int) % 64=56:=by simpa using h1
    omega
theorem padK_zero (l:List UInt8):u8s l++[Value.int .u8 128]=u8s (padK l 0):=by simp [padK,u8s]
theorem padK_succ (l:List UInt8) (k:Nat):u8s (padK l k)++[Value.int .u8 0]=u8s (padK l (k+1)):=by simp [padK,u8s,List.replicate_succ']
theorem Z4 (a b:List UInt8):u8s (a++b)=u8s a++u8s b:=by simp [u8s]
theorem len8 {n:Nat} (h:n≤1099511627776):IntKind.wrap .u64 (IntKind.wrap .u64 (n:Int) * 8)=((8 * n:Nat):Int):=by
  have e:∀ x:Int,IntKind.wrap .u64 x=x % 18446744073709551616:=fun x=>by first | rfl | simp [IntKind.wrap,IntKind.bits,IntKind.signed]
  rw [e,e]; omega
theorem outB_len (s:S8):(outB s).length=32:=rfl
theorem outB_at (s:S8) {k:Nat} (h:k<8):(outB s).getD (4 * k) 0=b8 ((wd s k).fdiv (2 ^ 24))∧(outB s).getD (4 * k+1) 0=b8 ((wd s k).fdiv (2 ^ 16))∧(outB s).getD (4 * k+2) 0=b8 ((wd s k).fdiv (2 ^ 8))∧(outB s).getD (4 * k+3) 0=b8 (wd s k):=by
  match k,h with
  | 0,_ | 1,_ | 2,_ | 3,_ | 4,_ | 5,_ | 6,_ | 7,_=>exact ⟨rfl,rfl,rfl,rfl⟩
  | k+8,h=>exact absurd h (by omega)
def oArr (s:S8) (j:Nat):Array Value:=(u8s ((outB s).take j)++List.replicate (32 - j) (Value.int .u8 0)).toArray
theorem oArr_size (s:S8) {j:Nat} (h:j≤32):(oArr s j).size=32:=by simp [oArr,u8s,outB_len]; omega
theorem oArr_set (s:S8) {j:Nat} {q v:Int} (hq:q=j) (h:j<32) (hv:v=(((outB s).getD j 0).toNat:Int)):setRow (oArr s j) (0+Int.toNat q * 1) [.int .u8 v]=oArr s (j+1):=by
  subst hq
  have e:oArr s j=(u8s ((outB s).take j)++[Value.int .u8 0]++List.replicate (32 - (j+1)) (Value.int .u8 0)).toArray:=by
    unfold oArr
    rw [show 32 - j=(32 - (j+1))+1 by omega,List.replicate_succ]
    simp
  have hl:(u8s ((outB s).take j)).length=0+Int.toNat ((j:Nat):Int) * 1:=by simp [u8s,outB_len]; omega
  rw [e,← hl,Z8 [Value.int .u8 v] (u8s ((outB s).take j)) (List.replicate (32 - (j+1)) (Value.int .u8 0)) [Value.int .u8 0] rfl]
  have hg:(outB s).take (j+1)=(outB s).take j++[(outB s).getD j 0]:=by
    rw [List.take_add_one,List.getD,List.getElem?_eq_getElem (by rw [outB_len]; exact h)]; rfl
  subst hv
  simp only [oArr,hg,u8s,List.map_append,List.map_cons,List.map_nil]
theorem oArr_full (s:S8):oArr s 32=(u8s (outB s)).toArray:=by
  unfold oArr; rw [List.take_of_length_le (by rw [outB_len]; omega)]; simp
theorem wd_at (s:S8) {k:Nat} (h:k<8):(#[.int .u32 s.a,.int .u32 s.b,.int .u32 s.c,.int .u32 s.d,.int .u32 s.e,.int .u32 s.f,.int .u32 s.g,.int .u32 s.h]:Array Value)[k]? = some (.int .u32 (wd s k)):=by
  match k,h with
  | 0,_ | 1,_ | 2,_ | 3,_ | 4,_ | 5,_ | 6,_ | 7,_=>rfl
  | k+8,h=>exact absurd h (by omega)
def z32:Array Value:=(List.replicate 32 (Value.int .u8 0)).toArray
def kz64:Array Value:=(List.replicate 64 (Value.int .u32 0)).toArray
theorem foldB_snoc (p:List UInt8) {m:Nat} (ks:List (Fin m)) (k:Fin m):L4 p (ks++[k])=M0 (byt (L6 p k.1)) (L4 p ks):=by unfold L4; rw [List.foldl_append]; rfl
theorem chunkOf_len {p:List UInt8} {k m:Nat} (h:p.length=64 * m) (hk:k<m):(L6 p k).length=64:=by
  unfold L6; rw [List.length_take,List.length_drop]; omega
theorem chunkOf_u8s (p:List UInt8) (k:Nat):u8s (L6 p k)=((u8s p).drop (64 * k)).take 64:=by
  unfold L6 u8s; rw [List.map_take,List.map_drop]
theorem own_rd_at {et n c b off m:Nat} {g:Grp} {cs:List Value} (h:Sw.Own et 1 (.slice (some ⟨b,0,none⟩) n c) g n cs):Rd (inG g) (some ⟨b,0+off,none⟩) ((cs.drop off).take m):=by
  obtain ⟨hl,⟨h1,_⟩ | ⟨b',cap,junk,h1,rfl,hc,hj⟩⟩:=h
  · injection h1 with h1; cases h1
  · injection h1 with h1 _ h2
    injection h1 with h1
    injection h1 with h1
    subst h1
    refine .inr ⟨b,0+off,_,_,_,rfl,List.mem_singleton.2 rfl,fun j u hu=>?_⟩
    rw [List.getElem?_take] at hu
    split at hu
    · rw [List.getElem?_drop] at hu
      have hlt:off+j<cs.length:=by
        rcases Nat.lt_or_ge (off+j) cs.length with h | h
        · exact h
        · rw [List.getElem?_eq_none h] at hu; simp at hu
      rw [List.getElem?_toArray,Nat.zero_add,List.getElem?_append_left hlt]
      exact hu
    · simp at hu
theorem oload (s:S8):((oArr s 32).toList.drop 0).take (u8s (outB s)).length=u8s (outB s):=by
  rw [oArr_full]; simp
theorem padB_m (l:List UInt8) {k:Nat} (hk:k=padZ l.length):l.length+1+k+8=64 * ((H4 l).length / 64)∧(H4 l).length=64 * ((H4 l).length / 64):=by
  have:=pad_mod l.length
  rw [padB_len]; subst hk; omega
theorem padB_cs (l:List UInt8) {k:Nat} (hk:k=padZ l.length):u8s (padK l k)++u8s (T8 ((8 * l.length:Nat):Int))=u8s (H4 l):=by
  unfold H4; rw [Z4,hk]
def digs:ByteArray:=ByteArray.mk #[48,49,50,51,52,53,54,55,56,57,97,98,99,100,101,102]
def hd (i:Int):UInt8:=UInt8.ofNat (F5 digs i).toNat
theorem hd_eq (i:Int):((hd i).toNat:Int)=F5 digs i:=by
  have:=R0 digs i
  unfold hd; simp only [UInt8.toNat_ofNat']; omega
def low4 (x:Int):Int:=IntKind.wrap .u8 ((BitVec.ofInt (IntKind.bits .u8) x &&& BitVec.ofInt (IntKind.bits .u8) 15).toNat)
def hex2 (x:Int):List UInt8:=[hd (Int.fdiv x (2 ^ 4)),hd (low4 x)]
def hexK (l:List UInt8) (j:Nat):List UInt8:=(l.take j).flatMap fun b=>hex2 (b.toNat:Int)
theorem hexK_succ (l:List UInt8) {j:Nat} (h:j<l.length):u8s (hexK l j)++[.int .u8 (F5 digs (Int.fdiv (byt l j) (2 ^ 4))),.int .u8 (F5 digs (low4 (byt l j)))]=u8s (hexK l (j+1)):=by
  have e:l.take (j+1)=l.take j++[l.getD j 0]:=by
    rw [List.take_add_one,List.getD,List.getElem?_eq_getElem h]; rfl
  unfold hexK
  rw [e,List.flatMap_append,Z4]
  congr 1
  simp only [List.flatMap_cons,List.flatMap_nil,List.append_nil,hex2,u8s,List.map_cons,List.map_nil,hd_eq,byt]
theorem hexK_len (l:List UInt8):∀ {j:Nat},j≤l.length→(hexK l j).length=2 * j
  | 0,_=>rfl
  | j+1,h=>by
    have e:l.take (j+1)=l.take j++[l.getD j 0]:=by
      rw [List.take_add_one,List.getD,List.getElem?_eq_getElem (by omega)]; rfl
    have ih:=hexK_len l (j:=j) (by omega)
    unfold hexK at ih ⊢
    rw [e,List.flatMap_append,List.length_append,ih]
    simp [hex2]; omega
theorem hex_size (l:List UInt8) {j:Nat} (h:j≤32):(ByteArray.mk (hexK (Y0 l) j).toArray).size=2 * j:=by
  show (hexK (Y0 l) j).toArray.size=2 * j
  rw [List.size_toArray]; exact hexK_len _ h
def hexM (l:List UInt8):ByteArray:=⟨(hexK (Y0 l) 32).toArray⟩
theorem own_hex {v:Value} {g:Grp} {n:Nat} {l:List UInt8} (h:Sw.Own 5 1 v g n (u8s l)):Sw.Own 5 1 v g n (u8s (ByteArray.mk l.toArray).data.toList):=by simpa using h
theorem nib:(List.range 256).all (fun n=>decide (0≤Int.fdiv ((n:Nat):Int) (2 ^ 4)∧Int.fdiv ((n:Nat):Int) (2 ^ 4)<16∧0≤low4 ((n:Nat):Int)∧low4 ((n:Nat):Int)<16))=true:=by kernel_rfl
theorem nib_at (l:List UInt8) (j:Nat):0≤Int.fdiv (byt l j) (2 ^ 4)∧Int.fdiv (byt l j) (2 ^ 4)<16∧0≤low4 (byt l j)∧low4 (byt l j)<16 :=
  of_decide_eq_true (List.all_eq_true.1 nib (l.getD j 0).toNat (List.mem_range.2 (UInt8.toNat_lt _)))
theorem T5 {et:TypeId} {sz:Nat} {v:Value} {g:Grp} {n:Nat} {cs:List Value} (h:Go.Sw.Own et sz v g (0+n) ([]++cs)):Go.Sw.Own et sz v g n cs:=by simpa using h
theorem u8_one {l:List UInt8}:∀ u∈u8s l,u.oneCell'=true:=by
  intro u hu
  obtain ⟨b,_,rfl⟩:=List.mem_map.1 hu
  rfl
theorem own_eight {v:Value} {g:Grp} {et k:Nat} (n:Int) {cs:List Value} (h:Go.Sw.Own et 1 v g k cs) (hk:k=8) (hc:cs=u8s (T8 n)):Go.Sw.Own et 1 v g 8 (u8s (T8 n)):=by
  subst hk; subst hc; exact h
theorem eight_cells (n:Int):u8s (T8 n)=[.int .u8 (IntKind.wrap .u8 (n.fdiv (2 ^ 56))),.int .u8 (IntKind.wrap .u8 (n.fdiv (2 ^ 48))),.int .u8 (IntKind.wrap .u8 (n.fdiv (2 ^ 40))),.int .u8 (IntKind.wrap .u8 (n.fdiv (2 ^ 32))),
    .int .u8 (IntKind.wrap .u8 (n.fdiv (2 ^ 24))),.int .u8 (IntKind.wrap .u8 (n.fdiv (2 ^ 16))),.int .u8 (IntKind.wrap .u8 (n.fdiv (2 ^ 8))),.int .u8 (IntKind.wrap .u8 (n.fdiv (2 ^ 0)))]:=by
  simp only [T8,u8s_cons]; rfl
end Go.Sha
namespace Go.Jr
open Go.Sw Go.Vf Go.Sha Go.Lib Go.Proofs.YtlaoeiaaeifidaaGreat
def lf (s:ByteArray):Int:=bIdx s 10
theorem lf_facts {s:ByteArray} (h:¬ lf s<0):(lf s).toNat<s.size∧(s.extract 0 (lf s).toNat).size=(lf s).toNat∧(s.extract ((lf s).toNat+1) s.size).size+((lf s).toNat+1)=s.size:=by
  rcases V1 s (c:=10) (by omega) (by omega) with ⟨k,hk,he,_,_⟩ | ⟨he,_⟩
  · have:lf s=k:=he
    rw [this]
    simp only [ByteArray.size_extract,Int.toNat_natCast]
    omega
  · exact absurd (show lf s<0 by rw [lf,he]; omega) h
theorem lf_or (s:ByteArray):lf s<0∨(lf s).toNat<s.size:=by
  rcases Int.lt_or_le (lf s) 0 with h | h
  · exact .inl h
  · exact .inr (lf_facts (by omega)).1
theorem lf_one {s:ByteArray} (h:(ByteArray.mk #[10]).toList=s.toList):lf s=0:=by
  have:s=ByteArray.mk #[10]:=by
    rw [toList_data,toList_data] at h
    cases s with | mk d=>cases d with | mk l=>simp at h; rw [← h]
  rw [this]; rfl
def hx (t:ByteArray):ByteArray:=(hexM t.data.toList).extract 0 16
theorem A0d (l:List UInt8):(hexM l).size=64:=hex_size l (Nat.le_refl 32)
theorem hx_size (t:ByteArray):(hx t).size=16:=by rw [hx,ByteArray.size_extract,A0d]; rfl
def E8 (t:ByteArray):Bool:=decide ((t.size:Int)≤1048576)&&!decide (lf t ≥ 0)
def B8 (t:ByteArray):ByteArray:=((hx t++ByteArray.mk #[32])++t)++ByteArray.mk #[10]
theorem H9 (t:ByteArray):(B8 t).size=t.size+18:=by
  simp only [B8,ByteArray.size_append,hx_size]
  show 16+1+t.size+1=t.size+18
  omega
def V6 (s:ByteArray):ByteArray:=if (s.size:Int)≤16 then ByteArray.mk #[] else s.extract 17 s.size
def okB (s:ByteArray):Bool:=if (s.size:Int)≤16 then false else E8 (s.extract 17 s.size)&&(B8 (s.extract 17 s.size)).toList==(s++ByteArray.mk #[10]).toList
def A4:List ByteArray→ByteArray
  | []=>.empty
  | t::r=>B8 t++A4 r
structure JM where
  dir:ByteArray
  L:List ByteArray
  size:Int
  down:Bool
  there:Bool
def logB:ByteArray:=ByteArray.mk #[108,111,103]
def G7:ByteArray:=ByteArray.mk #[110,101,119]
def B0 (dir name:ByteArray):ByteArray:=(dir++ByteArray.mk #[47])++name
def tryM:List (DM→Int × DM)→DM→Int × DM
  | [],M=>(0,M)
  | f::r,M=>if (f M).1 != 0 then f M else tryM r (f M).2
def failJ (j:JM) (e:Int):JM:={ j with down:=j.down||(e != 61) }
def M3 (j:JM) (l:ByteArray):List (DM→Int × DM) :=
  if j.there then [fun M=>F4 M (B0 j.dir logB) l,fun M=>L8 M (B0 j.dir logB)]
  else [fun M=>D9 M (B0 j.dir logB) l,fun M=>L8 M (B0 j.dir logB),fun M=>I4 M j.dir]
def addM (j:JM) (M:DM) (t:ByteArray):Int × JM × DM :=
  if !E8 t then (2,j,M) else if j.down then (63,j,M)
  else
    let r:=tryM (M3 j (B8 t)) M
    if r.1 != 0 then (r.1,failJ j r.1,r.2) else (0,{ j with there:=true,L:=j.L++[t],size:=j.size+((B8 t).size:Int) },r.2)
def E4 (dir b:ByteArray):List (DM→Int × DM) :=
  [fun M=>D9 M (B0 dir G7) b,fun M=>L8 M (B0 dir G7),fun M=>J3 M (B0 dir G7) (B0 dir logB),fun M=>I4 M dir]
def E3 (j:JM) (M:DM) (ts:List ByteArray):Int × JM × DM :=
  if ts.any (fun t=>!E8 t) then (2,j,M) else if j.down then (63,j,M)
  else
    let r:=tryM (E4 j.dir (A4 ts)) M
    if r.1 != 0 then (r.1,failJ j r.1,r.2) else (0,{ j with there:=true,L:=ts,size:=((A4 ts).size:Int) },r.2)
def cutL (all:ByteArray):Option (ByteArray × ByteArray) :=
  if lf all<0 then none else if okB (all.extract 0 (lf all).toNat) then some (V6 (all.extract 0 (lf all).toNat),all.extract ((lf all).toNat+1) all.size) else none
theorem cutL_lt {all:ByteArray} {t r:ByteArray} (h:cutL all=some (t,r)):r.size<all.size:=by
  unfold cutL at h
  split at h
  · simp at h
  · rename_i h1
    split at h
    · simp only [Option.some.injEq,Prod.mk.injEq] at h
      obtain ⟨-,rfl⟩:=h
      have:=(lf_facts h1).2.2; omega
    · simp at h
def E7 (all:ByteArray):List ByteArray × ByteArray :=
  match h:cutL all with
  | none=>([],all)
  | some (t,r)=>(t::(E7 r).1,(E7 r).2)
termination_by all.size
decreasing_by all_goals exact cutL_lt h
theorem A0s {all:ByteArray} (h:cutL all=none):E7 all=([],all):=by
  rw [E7]; split
  · rfl
  · rename_i h2; rw [h] at h2; cases h2
theorem parseB_some {all t r:ByteArray} (h:cutL all=some (t,r)):E7 all=(t::(E7 r).1,(E7 r).2):=by
  rw [E7]; split
  · rename_i h2; rw [h] at h2; cases h2
  · rename_i t' r' h2
    rw [h] at h2; cases h2; rfl
def R4 (M:DM) (dir:ByteArray):Int × Option JM × DM :=
  if !A3 dir||decide (G5 dir ≥ 0) then (2,none,M)
  else if (K9 M (B0 dir logB)).2 != 0 then (0,some ⟨dir,[],0,false,false⟩,M)
  else
    let p:=E7 (K9 M (B0 dir logB)).1
    let j:JM:=⟨dir,p.1,((A4 p.1).size:Int),false,true⟩
    if p.2.toList != (ByteArray.mk #[]).toList then
      let r:=E3 j M p.1
      if r.1 != 0 then (r.1,none,r.2.2) else (0,some r.2.1,r.2.2)
    else (0,some j,M)
end Go.Jr
namespace Go.Sw
open Go.RowKit
theorem GL_copy {P:Program} {ops:Array Oper} {i:Nat} {Q:G3} {n:Fr} {E:Env} {W0:World} {H H':List Grp} {o:Oper} {ch:List (Nat × Bool)} {dT sT el:TypeId} {x y:Operand}
    {b o1 n1 c1 n2 c2:Nat} {a:Addr} {c c':Array Value} {e:TypeId} {g:Grp} {j m:Nat} (cs:List Value)
    (ho:ops[i]? = some o) (hop:o.op=.call { callee:=.builtin .copy,args:=#[x,y],argTypes:=#[dT,sT] }) (hx:evO E ch x=some (.slice (some ⟨b,o1,none⟩) n1 c1)) (hy:evO E ch y=some (.slice (some a) n2 c2))
    (hu:P.underlying dT=some (.slice el)) (hs1:(P.info? el).map (·.size)=some 1)
    (hch:F3 ops E o.guard=some ch) (hd:H7 n ch o.dst=true) (hsure:P4 E ch=true)
    (hj:H[j]? = some g) (hi:g[m]? = some (b,.cells c e (0,0))) (hn:cs.length=Nat.min n2 n1)
    (hsrc:∀ w,Sat W0 H w→∀ k v,cs[k]? = some v→w.cell? (a.add k)=some v) (hfit:o1+cs.length≤c.size) (h1:(cs.all Value.oneCell')=true)
    (hc':(c.toList.take o1++cs++c.toList.drop (o1+cs.length)).toArray=c') (hH':H.set j (g.set m (b,.cells c' e (0,0)))=H')
    (k:GL false P ops (i+1) Q n (Env.put E o.dst ch (.int .i64 (cs.length:Int))) W0 H'):GL false P ops i Q n E W0 H:=by
  refine Y4 (R:=fun v H1=>v=.int .i64 (cs.length:Int)∧H1=H') ho hch hd hsure (fun r hr w hs=>?_) (by rintro v H1 ⟨rfl,rfl⟩; exact k)
  have hblk:=hs.has _ (List.mem_flatten.2 ⟨g,List.mem_of_getElem? hj,List.mem_of_getElem? hi⟩)
  have hrun:=run_copy_row (P:=P) w dT sT o.type el b o1 n1 c1 a n2 c2 c e cs hu hs1 hblk hn (hsrc w hs) hfit (fun v hv=>List.all_eq_true.1 h1 v hv)
  rw [hc'] at hrun
  have hwr:Wr b (.cells c' e (0,0)) w (w.setRow b c'):=by
    have hlt:=(Array.getElem?_eq_some_iff.1 hblk).1
    refine ⟨rfl,rfl,rfl,by simp [World.setRow],setRow_heap w b c c' e (0,0) hblk,fun k hk=>?_⟩
    show (w.heap.modify b _)[k]? = w.heap[k]?
    rw [Array.getElem?_modify,if_neg (Ne.symm hk)]
  refine ⟨_,w.setRow b c',H',⟨rfl,rfl⟩,?_,.inl ?_⟩
  · have:=hs.wr hj hi hwr
    rw [hH'] at this; exact this
  · unfold execOp
    simp only [hop,resolve,Array.map,Sem.run_bind,Sem.run_pure,Result.andThen_ok,invoke,Go.builtin]
    simp [hr _ _ hx,hr _ _ hy,hrun,goInt,Result.andThen_ok]
theorem GL_sliceArr {d:Bool} {P:Program} {ops:Array Oper} {i:Nat} {Q:G3} {n:Fr} {E:Env} {W0:World} {H:List Grp} {o:Oper} {ch:List (Nat × Bool)} {t e:TypeId} {x:Operand} {lo hi:Option Operand} {b off len sz:Nat} {vl vh:Option Value} {l h:Int}
    (ho:ops[i]? = some o) (hop:o.op=.slice t x lo hi none) (hx:evO E ch x=some (.pointer (some ⟨b,off,none⟩))) (hvl:evOO (evO E ch) lo=some vl) (hvh:evOO (evO E ch) hi=some vh) (hu:P.underlying t=some (.array len e)) (hsz:Z6 P e=some sz)
    (hl:loV vl=some l) (hh:hiV len vh=some h)
    (hch:F3 ops E o.guard=some ch) (hd:H7 n ch o.dst=true) (hk:K3 E ch=true)
    (hb:chB E ch→0≤l∧l≤h∧h≤len∧l.toNat<len)
    (k:GL d P ops (i+1) Q n (Env.put E o.dst ch (.slice (some ⟨b,off+l.toNat * sz,none⟩) (h.toNat - l.toNat) (len - l.toNat))) W0 H):GL d P ops i Q n E W0 H:=by
  refine J2 ho hch hd hk (fun r hr hcb w _=>?_) k
  obtain ⟨h0,h1,h2,h3⟩:=hb hcb
  have hm:∀ {y:Option Operand} {v:Option Value},evOO (evO E ch) y=some v→y.map r=v:=by
    intro y v hv
    cases y with
    | none=>simp only [evOO,Option.some.injEq] at hv; subst hv; rfl
    | some y =>
      simp only [evOO] at hv
      split at hv
      · rename_i u hu; injection hv with hv; subst hv; simp [hr _ _ hu]
      · simp at hv
  unfold execOp
  simp only [hop]
  rw [hr _ _ hx,hm hvl,hm hvh]
  simp only [Instr.sliceAt,Sem.run_bind,run_underlying hu,Result.andThen_ok,Option.map_none,Instr.sureAddr,Sem.run_pure,
    X5 (P:=P) (isSlice:=false) hl hh h0 h1 h2,K0 hsz]
  rw [if_neg (by omega),N8]
  exact ⟨rfl,rfl⟩
theorem GL_indexV {d:Bool} {P:Program} {ops:Array Oper} {i:Nat} {Q:G3} {n:Fr} {E:Env} {W0:World} {H:List Grp} {o:Oper} {ch:List (Nat × Bool)} {t e:TypeId} {x ix:Operand} {vs:Array Value} {kd:IntKind} {j:Int} {len:Nat} {v:Value}
    (ho:ops[i]? = some o) (hop:o.op=.index t x ix) (hx:evO E ch x=some (.agg vs)) (hix:evO E ch ix=some (.int kd j)) (hu:P.underlying t=some (.array len e)) (hsz:Z6 P e=some 1) (hag:aggB P e=some false)
    (hch:F3 ops E o.guard=some ch) (hd:H7 n ch o.dst=true) (hk:K3 E ch=true)
    (hb:chB E ch→0≤j∧j<len∧vs[j.toNat]? = some v)
    (k:GL d P ops (i+1) Q n (Env.put E o.dst ch v) W0 H):GL d P ops i Q n E W0 H:=by
  refine J2 ho hch hd hk (fun r hr hcb w _=>?_) k
  obtain ⟨h0,h1,h2⟩:=hb hcb
  unfold execOp
  simp only [hop]
  rw [hr _ _ hx,hr _ _ hix]
  simp only [Instr.index,asIntOf,Sem.run_bind,Sem.run_pure,Result.andThen_ok,run_underlying hu,if_pos (⟨h0,h1⟩:0≤j∧j<(len:Int)),K0 hsz,Nat.mul_one]
  rw [partV_sound (v:=v) (by unfold partV; rw [hag]; exact h2)]
  exact ⟨rfl,rfl⟩
theorem GL_appendZ {P:Program} {ops:Array Oper} {i:Nat} {Q:G3} {q:Fr} {E:Env} {W0:World} {H:List Grp} {o:Oper} {ch:List (Nat × Bool)} {c:Call} {t tn e:TypeId} {inf:TypeInfo} {z:Value} {n:Nat} {kn kd:IntKind}
    (ho:ops[i]? = some o) (hop:o.op=.call c) (hce:c.callee=.builtin .append) (hat:c.argTypes=#[t,tn]) (hargs:evL (evO E ch) c.args.toList=some [.slice none 0 0,.int kd (n:Int)])
    (ht:P.underlying t=some (.slice e)) (htn:P.underlying tn=some (.int kn)) (hi:P.info? e=some inf) (hz:inf.zero=some z) (hzs:z.cells.size=inf.size) (h0s:0<inf.size)
    (hch:F3 ops E o.guard=some ch) (hd:H7 q ch o.dst=true) (hsure:P4 E ch=true) (h0:0<n) (h63:(n:Int)≤9223372036854775807) (h48:n * inf.bytes≤281474976710656)
    (k:∀ b cap c,n≤cap→c.length=cap * inf.size→GL false P ops (i+1) Q q (Env.put E o.dst ch (.slice (some ⟨b,0,none⟩) n cap)) W0 ([(b,.cells (List.toArray c) e (0,0))]::H)):GL false P ops i Q q E W0 H:=by
  refine Y4 (R:=fun v H1=>∃ b cap c,n≤cap∧c.length=cap * inf.size∧v=.slice (some ⟨b,0,none⟩) n cap∧H1=[(b,.cells (List.toArray c) e (0,0))]::H) ho hch hd hsure (fun r hr w hs=>?_) (by rintro v H1 ⟨b,cap,c,h1,h2,rfl,rfl⟩; exact k b cap c h1 h2)
  have hrun:=Go.Lib.run_append_nil_zeros (P:=P) w t tn o.type e inf z kd kn ht htn hi hz n h0 h0s h63 h48
  have hge:=grownCap_ge w n 0 e
  refine ⟨_,w.drew.alloc (.cells (Builtin.zeroCells z.cells n++Builtin.zeroCells z.cells (grownCap w n 0 e - n)) e),_,⟨w.heap.size,grownCap w n 0 e,(Builtin.zeroCells z.cells n++Builtin.zeroCells z.cells (grownCap w n 0 e - n)).toList,hge,?_,rfl,rfl⟩,?_,.inl ?_⟩
  · rw [Array.length_toList,Array.size_append,W5,W5,hzs,← Nat.add_mul]
    congr 1; omega
  · rw [Array.toArray_toList]
    exact (hs.drew).new rfl rfl rfl rfl
  · unfold execOp
    simp only [hop,resolve,hce,hat,O6 hr hargs,Sem.run_bind,Sem.run_pure,Result.andThen_ok,invoke,Go.builtin,hrun]
theorem cutA_zero (b cap sz:Nat):J4 (some ⟨b,0,none⟩) cap 0 sz=some ⟨b,0,none⟩:=by
  unfold J4; split
  · rfl
  · simp [N8]
theorem own_cut0 {b cap sz:Nat} {c:List Value} {e:TypeId} (h:c.length=cap * sz):Own e sz (.slice (some ⟨b,0,none⟩) 0 cap) [(b,.cells c.toArray e (0,0))] 0 [] :=
  ⟨by simp,.inr ⟨b,cap,c,rfl,rfl,Nat.zero_le _,h⟩⟩
theorem Z9 {et:TypeId} {sz:Nat} {v:Value} {g:Grp} {n:Nat} {cs cs':List Value} (h:Own et sz v g n cs) (e:cs=cs'):Own et sz v g n cs':=e ▸ h
theorem A0t {et:TypeId} {sz:Nat} {a:Option Addr} {cap:Nat} {g:Grp} {n:Nat} {cs:List Value} (h:Own et sz (.slice a n cap) g n cs):a=none→n=0:=by
  rintro rfl
  obtain ⟨_,⟨h1,_,h2⟩ | ⟨b,cap,junk,h1,_⟩⟩:=h
  · exact h2
  · injection h1 with h1; cases h1
theorem ownC_cap {et:TypeId} {sz:Nat} {a:Option Addr} {cap:Nat} {g:Grp} {n:Nat} {cs:List Value} (h:Own et sz (.slice a n cap) g n cs):n≤cap:=by
  obtain ⟨_,⟨h1,_,h2⟩ | ⟨b,cap',junk,h1,_,h3,_⟩⟩:=h
  · omega
  · injection h1 with h1 h4 h5; omega
theorem own_some {et:TypeId} {sz:Nat} {a:Option Addr} {cap:Nat} {g:Grp} {n:Nat} {cs:List Value} (h:Own et sz (.slice a n cap) g n cs) (hn:0<n):∃ b,a=some ⟨b,0,none⟩:=by
  obtain ⟨_,⟨h1,_,h2⟩ | ⟨b,cap,junk,h1,_⟩⟩:=h
  · omega
  · injection h1 with h1; exact ⟨b,h1⟩
theorem cells_at {w:World} {b off k:Nat} {c:Array Value} {e:TypeId} {fz:Nat × Nat} {cs:List Value} {v:Value} (h:w.heap[b]? = some (.cells c e fz)) (hc:(c.toList.drop off).take cs.length=cs) (hv:cs[k]? = some v) :
    w.cell? ((⟨b,off,none⟩:Addr).add k)=some v:=by
  rw [N8]
  unfold World.cell?
  rw [h]
  rw [← hc,List.getElem?_take] at hv
  split at hv
  · rw [List.getElem?_drop,Array.getElem?_toList] at hv; exact hv
  · simp at hv
end Go.Sw
namespace Go.Sw
open Go.RowKit
theorem shape_of {w:World} {b:Nat} {c:Array Value} {e:TypeId} {fz:Nat × Nat} (h:w.heap[b]? = some (.cells c e fz)):w.shape? b=some (e,c.size):=by simp [World.shape?,h]
theorem GL_toUnsafe {d:Bool} {P:Program} {ops:Array Oper} {i:Nat} {Q:G3} {n:Fr} {E:Env} {W0:World} {H:List Grp} {o:Oper} {ch:List (Nat × Bool)} {src dst t e:TypeId} {x:Operand} {inf:TypeInfo} {b:Nat} {c:Array Value} {fz:Nat × Nat}
    (ho:ops[i]? = some o) (hop:o.op=.convert src dst x) (hx:evO E ch x=some (.pointer (some ⟨b,0,none⟩))) (hs:P.underlying src=some (.pointer t)) (hdd:P.underlying dst=some .unsafePointer) (ht:P.info? t=some inf) (hj:(inf.size != 0)=true)
    (hch:F3 ops E o.guard=some ch) (hd:H7 n ch o.dst=true) (hk:K3 E ch=true)
    (hA:At W0 H b (.cells c e fz)) (hc:(c.size != 0)=true)
    (k:GL d P ops (i+1) Q n (Env.put E o.dst ch (.pointer (some ⟨b,0,none⟩))) W0 H):GL d P ops i Q n E W0 H:=by
  refine J2 ho hch hd hk (fun r hr _ w hsat=>?_) k
  unfold execOp
  simp only [hop]
  rw [hr _ _ hx]
  have:=Go.Lib.run_to_unsafe (P:=P) w ⟨b,0,none⟩ hs hdd ht (by simpa using hj) (shape_of (hsat.at hA)) (Nat.pos_of_ne_zero (by simpa using hc))
  simp only [Sem.run_bind,this,Result.andThen_ok]
  exact ⟨rfl,rfl⟩
theorem GL_fromUnsafe {d:Bool} {P:Program} {ops:Array Oper} {i:Nat} {Q:G3} {n:Fr} {E:Env} {W0:World} {H:List Grp} {o:Oper} {ch:List (Nat × Bool)} {src dst u e:TypeId} {x:Operand} {inf:TypeInfo} {b:Nat} {c:Array Value} {fz:Nat × Nat}
    (ho:ops[i]? = some o) (hop:o.op=.convert src dst x) (hx:evO E ch x=some (.pointer (some ⟨b,0,none⟩))) (hs:P.underlying src=some .unsafePointer) (hdd:P.underlying dst=some (.pointer u)) (ht:P.info? u=some inf)
    (hch:F3 ops E o.guard=some ch) (hd:H7 n ch o.dst=true) (hk:K3 E ch=true)
    (hA:At W0 H b (.cells c e fz)) (hlies:liesAt P P.depth e (c.size / P.cellsOf e) 0 u 1=true)
    (k:GL d P ops (i+1) Q n (Env.put E o.dst ch (.pointer (some ⟨b,0,none⟩))) W0 H):GL d P ops i Q n E W0 H:=by
  refine J2 ho hch hd hk (fun r hr _ w hsat=>?_) k
  unfold execOp
  simp only [hop]
  rw [hr _ _ hx]
  have:=Go.Lib.run_from_unsafe (P:=P) w ⟨b,0,none⟩ hs hdd ht (shape_of (hsat.at hA)) hlies
  simp only [Sem.run_bind,this,Result.andThen_ok]
  exact ⟨rfl,rfl⟩
theorem GL_neqPtr {d:Bool} {P:Program} {ops:Array Oper} {i:Nat} {Q:G3} {n:Fr} {E:Env} {W0:World} {H:List Grp} {o:Oper} {ch:List (Nat × Bool)} {tp te:TypeId} {x y:Operand} {inf:TypeInfo} {a:Addr}
    (ho:ops[i]? = some o) (hop:o.op=.binOp .neq tp x y tp) (hx:evO E ch x=some (.pointer (some a))) (hy:evO E ch y=some (.pointer (some a))) (hp:P.underlying tp=some (.pointer te)) (ht:P.info? te=some inf)
    (hch:F3 ops E o.guard=some ch) (hd:H7 n ch o.dst=true) (hk:K3 E ch=true)
    (k:GL d P ops (i+1) Q n (Env.put E o.dst ch (.bool false)) W0 H):GL d P ops i Q n E W0 H:=by
  refine J2 ho hch hd hk (fun r hr _ w hsat=>?_) k
  unfold execOp
  simp only [hop]
  rw [hr _ _ hx,hr _ _ hy]
  have:=Go.Lib.run_neq_ptr_same (P:=P) w a hp ht
  have hg:(eqGuard .neq tp x y (.pointer (some a)) (.pointer (some a))).run P w=.ok () w:=rfl
  simp only [Sem.run_bind,hg,this,Result.andThen_ok]
  exact ⟨rfl,rfl⟩
theorem GL_sliceData {d:Bool} {P:Program} {ops:Array Oper} {i:Nat} {Q:G3} {n:Fr} {E:Env} {W0:World} {H:List Grp} {o:Oper} {ch:List (Nat × Bool)} {c:Call} {a:Option Addr} {l cap:Nat}
    (ho:ops[i]? = some o:=by exact rfl) (hop:o.op=.call c:=by exact rfl) (hce:c.callee=.builtin .unsafeSliceData:=by exact rfl) (hargs:evL (evO E ch) c.args.toList=some [.slice a l cap]:=by kernel_rfl) (hc:a=none∨cap≠0)
    (hch:F3 ops E o.guard=some ch:=by kernel_rfl) (hd:H7 n ch o.dst=true:=by kernel_rfl) (hk:K3 E ch=true:=by kernel_rfl)
    (k:GL d P ops (i+1) Q n (Env.put E o.dst ch (.pointer a)) W0 H):GL d P ops i Q n E W0 H:=by
  refine J2 ho hch hd hk (fun r hr _ w hsat=>?_) k
  unfold execOp
  have hrun:(Builtin.unsafeSliceData_ c.argTypes o.type #[.slice a l cap]).run P w=.ok (.pointer a) w:=by
    cases a with
    | none=>exact Go.Lib.run_unsafeSliceData_nil (P:=P) w _ _ l cap
    | some a=>exact Go.Lib.run_unsafeSliceData_row (P:=P) w _ _ a l cap (by simpa using hc)
  simp only [hop,resolve,hce,O6 hr hargs,Sem.run_bind,Sem.run_pure,Result.andThen_ok,invoke,Go.builtin,hrun]
  exact ⟨rfl,rfl⟩
theorem GL_sliceData0 {P:Program} {ops:Array Oper} {i:Nat} {Q:G3} {n:Fr} {E:Env} {W0:World} {H:List Grp} {o:Oper} {ch:List (Nat × Bool)} {c:Call} {b:Nat} {l:Nat} {e:TypeId} {cs:Array Value} {et:TypeId} {fz:Nat × Nat}
    (ho:ops[i]? = some o) (hop:o.op=.call c) (hce:c.callee=.builtin .unsafeSliceData) (hargs:evL (evO E ch) c.args.toList=some [.slice (some ⟨b,0,none⟩) l 0]) (hp:P.underlying o.type=some (.pointer e))
    (hch:F3 ops E o.guard=some ch) (hd:H7 n ch o.dst=true) (hsure:P4 E ch=true) (hA:At W0 H b (.cells cs et fz))
    (k:∀ v,GL false P ops (i+1) Q n (Env.put E o.dst ch (.pointer (some ⟨v,0,none⟩))) W0 ([(v,.view ⟨b,0,none⟩ e)]::H)):GL false P ops i Q n E W0 H:=by
  refine Y4 (R:=fun v H1=>∃ q,v=.pointer (some ⟨q,0,none⟩)∧H1=[(q,.view ⟨b,0,none⟩ e)]::H) ho hch hd hsure (fun r hr w hs=>?_) (by rintro v H1 ⟨q,rfl,rfl⟩; exact k q)
  have hrun:=Go.Lib.run_unsafeSliceData_zero (P:=P) w c.argTypes o.type e hp ⟨b,0,none⟩ l _ (shape_of (hs.at hA))
  refine ⟨_,w.alloc (.view ⟨b,0,none⟩ e),_,⟨w.heap.size,rfl,rfl⟩,hs.new rfl rfl rfl rfl,.inl ?_⟩
  unfold execOp
  simp only [hop,resolve,hce,O6 hr hargs,Sem.run_bind,Sem.run_pure,Result.andThen_ok,invoke,Go.builtin,hrun]
theorem A1a {d:Bool} {P:Program} {ops:Array Oper} {i:Nat} {Q:G3} {n:Fr} {E:Env} {W0:World} {H:List Grp} {o:Oper} {ch:List (Nat × Bool)} {c:Call} {p:Option Addr} {pt it:TypeId}
    (ho:ops[i]? = some o:=by exact rfl) (hop:o.op=.call c:=by exact rfl) (hce:c.callee=.builtin .unsafeString:=by exact rfl) (hat:c.argTypes=#[pt,it]:=by exact rfl) (hargs:evL (evO E ch) c.args.toList=some [.pointer p,.int .i64 0]:=by kernel_rfl)
    (hch:F3 ops E o.guard=some ch:=by kernel_rfl) (hd:H7 n ch o.dst=true:=by kernel_rfl) (hk:K3 E ch=true:=by kernel_rfl)
    (k:GL d P ops (i+1) Q n (Env.put E o.dst ch (.string .empty)) W0 H):GL d P ops i Q n E W0 H:=by
  refine J2 ho hch hd hk (fun r hr _ w hsat=>?_) k
  unfold execOp
  simp only [hop,resolve,hce,hat,O6 hr hargs,Sem.run_bind,Sem.run_pure,Result.andThen_ok,invoke,Go.builtin,Go.Lib.run_unsafeString_none]
  exact ⟨rfl,rfl⟩
theorem freeze_wr {w:World} {b n:Nat} {c:Array Value} {e:TypeId} (h:w.heap[b]? = some (.cells c e (0,0))) (hn:n≠0):Wr b (.cells c e (0,n)) w (w.freeze ⟨b,0,none⟩ n):=by
  have hb:b<w.heap.size:=by
    rcases Nat.lt_or_ge b w.heap.size with h' | h'
    · exact h'
    · simp [Array.getElem?_eq_none h'] at h
  unfold World.freeze
  rw [if_neg hn]
  refine ⟨rfl,rfl,rfl,by simp,?_,fun k hk=>?_⟩
  · simp only [Array.getElem?_modify,h]
    simp
  · simp only [Array.getElem?_modify]
    rw [if_neg (Ne.symm hk)]
theorem GL_unsafeStr {P:Program} {ops:Array Oper} {i:Nat} {Q:G3} {n:Fr} {E:Env} {W0:World} {H:List Grp} {o:Oper} {ch:List (Nat × Bool)} {c:Call} {b j:Nat} {pt it e:TypeId} {cs:Array Value} {l:List UInt8}
    (ho:ops[i]? = some o) (hop:o.op=.call c) (hce:c.callee=.builtin .unsafeString) (hat:c.argTypes=#[pt,it]) (hargs:evL (evO E ch) c.args.toList=some [.pointer (some ⟨b,0,none⟩),.int .i64 (l.length:Int)])
    (hp:P.underlying pt=some (.pointer e)) (hc1:(P.cellsOf e==1)=true)
    (hch:F3 ops E o.guard=some ch) (hd:H7 n ch o.dst=true) (hsure:P4 E ch=true)
    (hj:H[j]? = some [(b,.cells cs e (0,0))]) (h0:l≠[]) (hlc:l.length≤cs.size) (hmax:l.length≤9223372036854775807) (hcell:∀ (k:Nat) x,l[k]? = some x→cs[k]? = some (.int .u8 (x.toNat:Int)))
    (k:GL false P ops (i+1) Q n (Env.put E o.dst ch (.string ⟨l.toArray⟩)) W0 (H.set j [(b,.cells cs e (0,l.length))])):GL false P ops i Q n E W0 H:=by
  refine Y4 (R:=fun v H1=>v=.string ⟨l.toArray⟩∧H1=H.set j [(b,.cells cs e (0,l.length))]) ho hch hd hsure (fun r hr w hs=>?_) (by rintro v H1 ⟨rfl,rfl⟩; exact k)
  have hi:([(b,Obj.cells cs e (0,0))]:Grp)[0]? = some (b,.cells cs e (0,0)):=rfl
  have hblk:=hs.has _ (List.mem_flatten.2 ⟨_,List.mem_of_getElem? hj,List.mem_of_getElem? hi⟩)
  have hrun:=Go.Lib.run_unsafeString_row (P:=P) w pt it o.type e hp (by simpa using hc1) b cs.size (shape_of hblk) l h0 hlc hmax (fun k x hx=>by
    have:=hcell k x hx
    rw [N8,Nat.zero_add]
    exact Z1 hblk this)
  refine ⟨_,_,_,⟨rfl,rfl⟩,hs.wr hj hi (freeze_wr hblk (by simpa using h0)),.inl ?_⟩
  unfold execOp
  simp only [hop,resolve,hce,hat,O6 hr hargs,Sem.run_bind,Sem.run_pure,Result.andThen_ok,invoke,Go.builtin,hrun]
def Bld (b:Nat) (p:Value):Prop:=p=.pointer none∨p=.pointer (some ⟨b,0,none⟩)
theorem bld0 {b:Nat}:Bld b (.pointer none):=.inl rfl
theorem bld1 {b:Nat}:Bld b (.pointer (some ⟨b,0,none⟩)):=.inr rfl
end Go.Sw
namespace Go.Proofs.YtlaoeiaaeifidaaGreat
open Go.Sw Go.Sha
theorem bytes_len (t:ByteArray):(u8s t.data.toList).length=t.size:=by
  rw [show (u8s t.data.toList).length=_ from List.length_map _,Array.length_toList]; rfl
theorem own_text {v:Value} {g:Grp} {n m:Nat} {t s:ByteArray} (h:Go.Sw.Own 5 1 v g n (u8s t.data.toList++u8s s.data.toList)) (hn:n=m) (hm:m=(t++s).size):Go.Sw.Own 5 1 v g (t++s).size (u8s (t++s).data.toList):=by
  have e:u8s (t++s).data.toList=u8s t.data.toList++u8s s.data.toList:=by rw [ByteArray.data_append,Array.toList_append]; exact List.map_append
  rw [← hm,← hn,e]; exact h
def bldG (b:Nat) (p v:Value):Grp:=[(b,.cells #[p,v] 95 (0,0))]
def BOwn (v:Value) (g:Grp) (t:ByteArray):Prop:=Go.Sw.Own 5 1 v g t.size (u8s t.data.toList)
theorem cc0 (b:Nat) (v:Value) (W0:World) (H:List Grp):Tri Tryz.prog 88 #[pt b] W0 ([(b,.cells #[.pointer none,v] 95 (0,0))]::H) (fun r H'=>r=.tuple #[]∧H'=bldG b (.pointer (some ⟨b,0,none⟩)) v::H):=by
 refine C8 (args:=[pt b]) (n:=20) Tryz.func88 rfl rfl (Nat.le_of_ble_eq_true rfl) ?_
 refine A1 (A2 ?_)
 refine A7 (j:=3) [0,0,0] (k:=A5 (ch:=[]) (b:=b) (off:=0) (v:=.pointer none) (hA:=At.grp 0 0 rfl rfl) (k:=?_))
 refine D3 (E':=[⟨0,[],pt b⟩,⟨6,[],.bool true⟩]) [0] [0,6] (k:=A0 ?_)
 refine I1 kr (A2 ?_)
 refine A7 (j:=2) [0,0] (k:=GL_toUnsafe (i:=2) (ch:=[]) (inf:=Tryz.t95) (t:=95) (e:=95) (b:=b) rfl rfl kr kr kr kr kr kr kr kr (At.grp 0 0 rfl rfl) rfl ?_)
 refine GL_extern (i:=3) (ch:=[]) (f:=104) (vs:=[pt b]) (v:=pt b) (e:=Extern.AbiNoEscape.same) rfl rfl rfl kr kr Tryz.func104 kr rfl kr kr kr kr kr (fun w=>Go.Lib.run_noEscape w _) (GL_fromUnsafe (i:=4) (ch:=[]) (inf:=Tryz.t95) (u:=95) (e:=95) (b:=b) rfl rfl kr kr kr kr kr kr kr (At.grp 0 0 rfl rfl) kr ?_)
 refine A7 (j:=7) [0,0] (k:=G4 (ch:=[]) (b:=b) (off:=0) (v:=pt b) (j:=0) ([(b,.cells #[pt b,v] 95 (0,0))]::H) (hoff:=Nat.le_of_ble_eq_true rfl) (hfz:=(fun _ _=>F0)) (k:=?_))
 refine D3 (E':=[]) [] [] (k:=C1 [] [] (k:=?_))
 exact ⟨rfl,rfl⟩
theorem cc1 (b:Nat) (v:Value) (W0:World) (H:List Grp):Tri Tryz.prog 88 #[pt b] W0 ([(b,.cells #[pt b,v] 95 (0,0))]::H) (fun r H'=>r=.tuple #[]∧H'=bldG b (.pointer (some ⟨b,0,none⟩)) v::H):=by
 refine C8 (args:=[pt b]) (n:=20) Tryz.func88 rfl rfl (Nat.le_of_ble_eq_true rfl) ?_
 refine A1 (A2 ?_)
 refine A7 (j:=3) [0,0,0] (k:=A5 (ch:=[]) (b:=b) (off:=0) (v:=pt b) (hA:=At.grp 0 0 rfl rfl) (k:=?_))
 refine D3 (E':=[⟨0,[],pt b⟩,⟨6,[],.bool false⟩]) [0] [0,6] (k:=A0 ?_)
 refine I2 kr (A1 ?_)
 refine A2 (A7 (j:=3) [0,0,0] (k:=?_))
 refine A5 (ch:=[]) (b:=b) (off:=0) (v:=pt b) (hA:=At.grp 0 0 rfl rfl) (k:=A7 (j:=5) [0] (k:=?_))
 refine GL_neqPtr (i:=5) (ch:=[]) (inf:=Tryz.t95) (te:=95) (a:=⟨b,0,none⟩) rfl rfl kr kr kr kr kr kr kr (D3 (E':=[⟨19,[],.bool false⟩]) [] [19] (k:=?_))
 refine A0 (I2 kr ?_)
 refine B5 (C1 [] [] (k:=?_))
 exact ⟨rfl,rfl⟩
theorem copyCheck_ (b:Nat) (p v:Value) (hp:Bld b p) (W0:World) (H:List Grp):Tri Tryz.prog 88 #[pt b] W0 (bldG b p v::H) (fun r H'=>r=.tuple #[]∧H'=bldG b (.pointer (some ⟨b,0,none⟩)) v::H):=by
  rcases hp with rfl | rfl
  · exact cc0 b v W0 H
  · exact cc1 b v W0 H
theorem writeString_ (b:Nat) (p v:Value) (g:Grp) (t s:ByteArray) (hp:Bld b p) (hv:BOwn v g t) (hs:t.size+s.size≤140737488355328) (W0:World) (H:List Grp):Tri Tryz.prog 52 #[pt b,.string s] W0 ([(b,.cells #[p,v] 95 (0,0))]::g::H) (fun r H'=>r=.tuple #[.int .i64 (s.size:Int),.nilIface]∧∃ v' g',BOwn v' g' (t++s)∧H'=bldG b (.pointer (some ⟨b,0,none⟩)) v'::g'::H):=by
 refine C8 (args:=[pt b,.string s]) (n:=19) Tryz.func52 rfl rfl (Nat.le_of_ble_eq_true rfl) ?_
 refine A1 (B4 (E':=[⟨0,[],pt b⟩,⟨1,[],.string s⟩]) [0,0] [0,1] (k:=?_))
 refine A0 (A1 ?_)
 refine A2 (A7 (j:=1) [0] (k:=?_))
 refine G2 Tryz.func88 (copyCheck_ b (p) (v) hp _ _) ?_
 rintro r H' ⟨rfl,rfl⟩
 refine D3 (E':=[⟨0,[],pt b⟩,⟨1,[],.string s⟩]) [] [0,1] (k:=A0 ?_)
 refine A1 (A2 ?_)
 refine A7 (j:=4) [0,0,0,0] (k:=A5 (ch:=[]) (b:=b) (off:=1) (v:=v) (hA:=At.grp 0 0 rfl rfl) (k:=?_))
 refine A7 (j:=6) [0] (k:=E9 (i:=6) (ch:=[]) (t:=22) (tx:=9) (e:=5) (inf:=Tryz.t5) (s:=v) (x:=.string s) (n:=t.size) (m:=s.size) (j:=1) (cs:=(u8s t.data.toList)) (news:=(u8s s.data.toList)) (g:=g) (S:=(inB W0)) rfl rfl rfl rfl kr kr kr rfl rfl (.inr ⟨kr,rfl⟩) (fun _=>⟨rfl,kr⟩) (fun ⟨_,_,_,h⟩=>by cases h) kr kr kr rfl hv (SrcOf.str s) at_inB (by rw [show (u8s s.data.toList).length=_ from List.length_map _,Array.length_toList]; exact (Nat.mul_one _).symm) u8_one (by omega) (by show (t.size+s.size) * 1≤140737488355328; omega) (fun v1 g2 hO3=>?_))
 obtain ⟨a4,cap5,rfl,hcap6,hrd7⟩:=hO3.shape
 refine A7 (j:=9) [0,0] (k:=G4 (ch:=[]) (b:=b) (off:=1) (v:=.slice a4 (t.size+s.size) cap5) (j:=0) ([(b,.cells #[pt b,.slice a4 (t.size+s.size) cap5] 95 (0,0))]::g2::H) (hoff:=Nat.le_of_ble_eq_true rfl) (hfz:=(fun _ _=>F0)) (k:=?_))
 refine D3 (E':=[⟨1,[],.string s⟩]) [] [1] (k:=A0 ?_)
 refine A1 (G_p [0,0,0,0] [4,5] (k:=?_))
 refine A0 (C3 ?_)
 refine C1 [.tmp 4,.tmp 5] [.int .i64 (s.size:Int),.nilIface] (k:=?_)
 exact ⟨rfl,_,_,own_text hO3 rfl (by simp [ByteArray.size_append]),rfl⟩
theorem writeString (b:Nat) (p v:Value) (g:Grp) (t s:ByteArray) (hp:Bld b p) (hv:BOwn v g t) (hs:t.size+s.size≤140737488355328) (W0:World) (H:List Grp):Tri Tryz.prog 52 #[pt b,.string s] W0 (bldG b p v::g::H) (fun r H'=>r=.tuple #[.int .i64 (s.size:Int),.nilIface]∧∃ v' g',BOwn v' g' (t++s)∧H'=bldG b (.pointer (some ⟨b,0,none⟩)) v'::g'::H):=writeString_ b p v g t s hp hv hs W0 H
theorem bLen_ (b:Nat) (p:Value) (a:Option Addr) (n c:Nat) (W0:World) (H:List Grp):Tri Tryz.prog 57 #[pt b] W0 ([(b,.cells #[p,.slice a n c] 95 (0,0))]::H) (fun v H'=>v=.int .i64 (n:Int)∧H'=([(b,.cells #[p,.slice a n c] 95 (0,0))]::H)):=by
 refine C8 (args:=[pt b]) (n:=8) Tryz.func57 rfl rfl (Nat.le_of_ble_eq_true rfl) ?_
 refine A1 (B4 (E':=[⟨0,[],pt b⟩]) [0] [0] (k:=?_))
 refine A0 (A1 ?_)
 refine A2 (A7 (j:=3) [0,0,0] (k:=?_))
 refine A5 (ch:=[]) (b:=b) (off:=1) (v:=.slice a n c) (hA:=At.grp 0 0 rfl rfl) (k:=D3 (E':=[⟨2,[],.int .i64 ((n:Nat):Int)⟩]) [0,0] [2] (k:=?_))
 refine A0 (C3 ?_)
 refine C1 [.tmp 2] [.int .i64 ((n:Nat):Int)] (k:=?_)
 exact ⟨rfl,rfl⟩
theorem bStr0 (b:Nat) (p:Value) (W0:World) (H:List Grp):Tri Tryz.prog 54 #[pt b] W0 ([(b,.cells #[p,.slice none 0 0] 95 (0,0))]::H) (fun v H'=>v=.string .empty∧H'=bldG b p (.slice none 0 0)::H):=by
 refine C8 (args:=[pt b]) (n:=14) Tryz.func54 rfl rfl (Nat.le_of_ble_eq_true rfl) ?_
 refine A1 (B4 (E':=[⟨0,[],pt b⟩]) [0] [0] (k:=?_))
 refine A0 (A1 ?_)
 refine K4 (k:=A7 (j:=3) [0,0,0] (k:=?_))
 refine A5 (ch:=[]) (b:=b) (off:=1) (v:=.slice none 0 0) (hA:=At.grp 0 0 rfl rfl) (k:=GL_sliceData (ch:=[]) (a:=none) (l:=0) (cap:=0) (hc:=.inl rfl) (k:=?_))
 refine A7 (j:=8) [0,0,0] (k:=A5 (ch:=[]) (b:=b) (off:=1) (v:=.slice none 0 0) (hA:=At.grp 0 0 rfl rfl) (k:=?_))
 refine A7 (j:=10) [0] (k:=A1a (ch:=[]) (p:=none) (pt:=130) (it:=3) (k:=?_))
 refine D3 (E':=[⟨2,[],.string .empty⟩]) [0] [2] (k:=A0 ?_)
 refine C3 (C1 [.tmp 2] [.string .empty] (k:=?_))
 exact ⟨rfl,rfl⟩
theorem bStr1 (b:Nat) (p:Value) (a:Nat) (cs:Array Value) (W0:World) (H:List Grp):Tri Tryz.prog 54 #[pt b] W0 ([(b,.cells #[p,.slice (some ⟨a,0,none⟩) 0 0] 95 (0,0))]::[(a,.cells cs 5 (0,0))]::H) (fun v H'=>v=.string .empty∧∃ x,H'=x::bldG b p (.slice (some ⟨a,0,none⟩) 0 0)::[(a,.cells cs 5 (0,0))]::H):=by
 refine C8 (args:=[pt b]) (n:=14) Tryz.func54 rfl rfl (Nat.le_of_ble_eq_true rfl) ?_
 refine A1 (B4 (E':=[⟨0,[],pt b⟩]) [0] [0] (k:=?_))
 refine A0 (A1 ?_)
 refine D7 ([(b,.cells #[p,.slice (some ⟨a,0,none⟩) 0 0] 95 (0,0))]::[(a,.cells cs 5 (0,0))]::H) kr (D0 (fuel:=11) [(0,0)] (fun w h=>h) (k:=?_))
 refine G0 (ad:=⟨b,0,none⟩) 1 (hL:=(fun w h=>h)) (k:=D0 (fuel:=9) [(2,0)] (fun w h=>h) (k:=?_))
 refine A9 3 (hL:=(fun w h=>h)) (hy:=A5 (i:=3) (ch:=[]) (b:=b) (off:=1) (v:=.slice (some ⟨a,0,none⟩) 0 0) (hA:=At.grp 0 0 rfl rfl) (k:=B1 kr rfl)) (k:=D0 (fuel:=7) [(5,0)] (fun w h=>h) (k:=?_))
 refine G0 (ad:=⟨b,0,none⟩) 6 (hL:=(fun w h=>h)) (k:=D0 (fuel:=5) [(7,0)] (fun w h=>h) (k:=?_))
 refine A9 8 (hL:=(fun w h=>h)) (hy:=A5 (i:=8) (ch:=[]) (b:=b) (off:=1) (v:=.slice (some ⟨a,0,none⟩) 0 0) (hA:=At.grp 0 0 rfl rfl) (k:=B1 kr rfl)) (k:=R9 (v:=.int .i64 0) 9 (hL:=(fun w h=>h)) (k:=?_))
 refine B9 4 (k:=GL_sliceData0 (i:=4) (ch:=[]) (b:=a) (l:=0) (e:=5) rfl rfl rfl kr kr kr kr kr (At.grp 1 0 rfl rfl) (fun b1=>?_))
 refine A6 kr (fun w h=>(h.erase 0)) (I0 ([(b1,.view ⟨a,0,none⟩ 5)]::[(b,.cells #[p,.slice (some ⟨a,0,none⟩) 0 0] 95 (0,0))]::[(a,.cells cs 5 (0,0))]::H) (fun w h=>(h.erase 0)) ?_)
 refine B9 10 (k:=A1a (ch:=[]) (p:=some ⟨b1,0,none⟩) (pt:=130) (it:=3) (k:=?_))
 refine A6 kr (fun w h=>h) (D0 (fuel:=0) [(11,0)] (fun w h=>h) (k:=?_))
 refine D8 (E':=[⟨2,[],.string .empty⟩]) [2] (k:=A0 ?_)
 refine C3 (C1 [.tmp 2] [.string .empty] (k:=?_))
 exact ⟨rfl,_,rfl⟩
theorem bStr2 (b:Nat) (p:Value) (a:Nat) (cs:Array Value) (c:Nat) (hc:c≠0) (W0:World) (H:List Grp):Tri Tryz.prog 54 #[pt b] W0 ([(b,.cells #[p,.slice (some ⟨a,0,none⟩) 0 c] 95 (0,0))]::[(a,.cells cs 5 (0,0))]::H) (fun v H'=>v=.string .empty∧H'=bldG b p (.slice (some ⟨a,0,none⟩) 0 c)::[(a,.cells cs 5 (0,0))]::H):=by
 refine C8 (args:=[pt b]) (n:=14) Tryz.func54 rfl rfl (Nat.le_of_ble_eq_true rfl) ?_
 refine A1 (B4 (E':=[⟨0,[],pt b⟩]) [0] [0] (k:=?_))
 refine A0 (A1 ?_)
 refine K4 (k:=A7 (j:=3) [0,0,0] (k:=?_))
 refine A5 (ch:=[]) (b:=b) (off:=1) (v:=.slice (some ⟨a,0,none⟩) 0 c) (hA:=At.grp 0 0 rfl rfl) (k:=GL_sliceData (ch:=[]) (a:=(some ⟨a,0,none⟩)) (l:=0) (cap:=c) (hc:=.inr hc) (k:=?_))
 refine A7 (j:=8) [0,0,0] (k:=A5 (ch:=[]) (b:=b) (off:=1) (v:=.slice (some ⟨a,0,none⟩) 0 c) (hA:=At.grp 0 0 rfl rfl) (k:=?_))
 refine A7 (j:=10) [0] (k:=A1a (ch:=[]) (p:=some ⟨a,0,none⟩) (pt:=130) (it:=3) (k:=?_))
 refine D3 (E':=[⟨2,[],.string .empty⟩]) [0] [2] (k:=A0 ?_)
 refine C3 (C1 [.tmp 2] [.string .empty] (k:=?_))
 exact ⟨rfl,rfl⟩
theorem bStr3 (b:Nat) (p:Value) (a:Nat) (cs:Array Value) (c:Nat) (l:List UInt8) (hc:c≠0) (h0:l≠[]) (hlc:l.length≤cs.size) (hmax:l.length≤9223372036854775807) (hcell:∀ (k:Nat) x,l[k]? = some x→cs[k]? = some (.int .u8 (x.toNat:Int))) (W0:World) (H:List Grp):Tri Tryz.prog 54 #[pt b] W0 ([(b,.cells #[p,.slice (some ⟨a,0,none⟩) l.length c] 95 (0,0))]::[(a,.cells cs 5 (0,0))]::H) (fun v H'=>v=.string ⟨l.toArray⟩∧H'=bldG b p (.slice (some ⟨a,0,none⟩) l.length c)::[(a,.cells cs 5 (0,l.length))]::H):=by
 refine C8 (args:=[pt b]) (n:=14) Tryz.func54 rfl rfl (Nat.le_of_ble_eq_true rfl) ?_
 refine A1 (B4 (E':=[⟨0,[],pt b⟩]) [0] [0] (k:=?_))
 refine A0 (A1 ?_)
 refine D7 ([(b,.cells #[p,.slice (some ⟨a,0,none⟩) l.length c] 95 (0,0))]::H) kr (D0 (fuel:=11) [(0,0)] (fun w h=>(h.erase 1)) (k:=?_))
 refine G0 (ad:=⟨b,0,none⟩) 1 (hL:=(fun w h=>(h.erase 1))) (k:=D0 (fuel:=9) [(2,0)] (fun w h=>(h.erase 1)) (k:=?_))
 refine A9 3 (hL:=(fun w h=>(h.erase 1))) (hy:=A5 (i:=3) (ch:=[]) (b:=b) (off:=1) (v:=.slice (some ⟨a,0,none⟩) l.length c) (hA:=At.grp 0 0 rfl rfl) (k:=B1 kr rfl)) (k:=D0 (fuel:=7) [(5,0)] (fun w h=>(h.erase 1)) (k:=?_))
 refine G0 (ad:=⟨b,0,none⟩) 6 (hL:=(fun w h=>(h.erase 1))) (k:=D0 (fuel:=5) [(7,0)] (fun w h=>(h.erase 1)) (k:=?_))
 refine A9 8 (hL:=(fun w h=>(h.erase 1))) (hy:=A5 (i:=8) (ch:=[]) (b:=b) (off:=1) (v:=.slice (some ⟨a,0,none⟩) l.length c) (hA:=At.grp 0 0 rfl rfl) (k:=B1 kr rfl)) (k:=R9 (v:=.int .i64 ((l.length:Nat):Int)) 9 (hL:=(fun w h=>(h.erase 1))) (k:=?_))
 refine B9 4 (k:=GL_sliceData (ch:=[]) (a:=(some ⟨a,0,none⟩)) (l:=l.length) (cap:=c) (hc:=.inr hc) (k:=?_))
 refine A6 kr (fun w h=>(h.erase 1)) (B9 10 (k:=?_))
 refine GL_unsafeStr (i:=10) (ch:=[]) (b:=a) (j:=1) (pt:=130) (it:=3) (e:=5) (cs:=cs) (l:=l) rfl rfl rfl rfl kr kr kr kr kr kr rfl h0 hlc hmax hcell (A6 kr (fun w h=>(h.erase 1)) ?_)
 refine D0 (fuel:=0) [(11,0)] (fun w h=>(h.erase 1)) (k:=D8 (E':=[⟨2,[],.string ⟨l.toArray⟩⟩]) [2] (k:=?_))
 refine A0 (C3 ?_)
 refine C1 [.tmp 2] [.string ⟨l.toArray⟩] (k:=?_)
 exact ⟨rfl,rfl⟩
theorem u8_at (t:ByteArray) (junk:List Value) (k:Nat) (x:UInt8) (h:t.data.toList[k]? = some x):((u8s t.data.toList++junk).toArray)[k]? = some (.int .u8 (x.toNat:Int)):=by
  obtain ⟨hk,hx⟩:=List.getElem?_eq_some_iff.1 h
  rw [List.getElem?_toArray,List.getElem?_append_left (by simpa [u8s] using hk)]
  simp [u8s,h]
theorem builderString (b:Nat) (p v:Value) (g:Grp) (t:ByteArray) (hv:BOwn v g t) (hs:t.size≤140737488355328) (W0:World) (H:List Grp):Tri Tryz.prog 54 #[pt b] W0 (bldG b p v::g::H) (fun r H'=>r=.string t∧H'=bldG b p v::H):=by
  obtain ⟨hl,⟨rfl,rfl,h0⟩ | ⟨a,cap,junk,rfl,rfl,hcap,hj⟩⟩:=hv
  · have ht:t=.empty:=by cases t with | mk d=>(have:d=#[]:=Array.eq_empty_of_size_eq_zero h0); rw [this]; rfl
    subst ht
    exact Tri.heap (fun _ h=>h.erase 1) (bStr0 b p W0 H)
  · by_cases h0:t.size=0
    · have ht:t=.empty:=by cases t with | mk d=>(have:d=#[]:=Array.eq_empty_of_size_eq_zero h0); rw [this]; rfl
      by_cases hc:cap=0
      · subst hc; subst ht
        exact Tri.post (bStr1 b p a _ W0 H) fun v H' ⟨h1,x,h2⟩=>⟨_,⟨h1,rfl⟩,fun w hw=>by rw [h2] at hw; exact (hw.erase 2).erase 0⟩
      · subst ht
        exact Tri.post (bStr2 b p a _ cap hc W0 H) fun v H' ⟨h1,h2⟩=>⟨_,⟨h1,rfl⟩,fun w hw=>by rw [h2] at hw; exact hw.erase 1⟩
    · have hcap0:cap≠0:=by omega
      have hlen:t.data.toList.length=t.size:=Array.length_toList
      have:=bStr3 b p a (u8s t.data.toList++junk).toArray cap t.data.toList hcap0 (fun h=>h0 (by rw [← hlen,h]; rfl)) (by rw [List.size_toArray,List.length_append,bytes_len,hlen]; omega) (by omega) (u8_at t junk) W0 H
      rw [hlen] at this
      exact Tri.post this fun v H' ⟨h1,h2⟩=>⟨_,⟨by rw [h1],rfl⟩,fun w hw=>by rw [h2] at hw; exact hw.erase 1⟩
theorem builderLen (b:Nat) (p v:Value) (g:Grp) (t:ByteArray) (hv:BOwn v g t) (W0:World) (H:List Grp):Tri Tryz.prog 57 #[pt b] W0 (bldG b p v::H) (fun r H'=>r=.int .i64 ((t.size:Nat):Int)∧H'=bldG b p v::H):=by
  obtain ⟨a,c,rfl,_,_⟩:=Go.Sw.Own.shape hv
  exact bLen_ b p a t.size c W0 H
end Go.Proofs.YtlaoeiaaeifidaaGreat
namespace Go.Proofs.YtlaoeiaaeifidaaGreat
open Go.Sw Go.Sha
theorem rot7 (x:Int) (W0:World) (H:List Grp):Tri Tryz.prog 140 #[.int .u32 x,.int .i64 (-7)] W0 H (fun v H'=>v=.int .u32 (V8 x 7)∧H'=H):=by
 refine C8 (args:=[.int .u32 x,.int .i64 (-7)]) (n:=17) Tryz.func140 rfl rfl (Nat.le_of_ble_eq_true rfl) ?_
 refine A1 (G_p [0] [0,1] (k:=?_))
 refine A0 (A1 ?_)
 refine G_p [0,0,0,0] [0,5] (k:=A0 ?_)
 refine A1 (G_p [0,0,0,0,0,0,0,0,0] [4] (k:=?_))
 refine A0 (C3 ?_)
 refine C1 [.tmp 4] [.int .u32 (IntKind.wrap .u32 ((BitVec.ofInt (IntKind.bits .u32) (IntKind.wrap .u32 (x * 2 ^ 25)) ||| BitVec.ofInt (IntKind.bits .u32) (Int.fdiv x (2 ^ 7))).toNat))] (k:=?_)
 exact ⟨rfl,rfl⟩
theorem rot18 (x:Int) (W0:World) (H:List Grp):Tri Tryz.prog 140 #[.int .u32 x,.int .i64 (-18)] W0 H (fun v H'=>v=.int .u32 (V8 x 18)∧H'=H):=by
 refine C8 (args:=[.int .u32 x,.int .i64 (-18)]) (n:=17) Tryz.func140 rfl rfl (Nat.le_of_ble_eq_true rfl) ?_
 refine A1 (G_p [0] [0,1] (k:=?_))
 refine A0 (A1 ?_)
 refine G_p [0,0,0,0] [0,5] (k:=A0 ?_)
 refine A1 (G_p [0,0,0,0,0,0,0,0,0] [4] (k:=?_))
 refine A0 (C3 ?_)
 refine C1 [.tmp 4] [.int .u32 (IntKind.wrap .u32 ((BitVec.ofInt (IntKind.bits .u32) (IntKind.wrap .u32 (x * 2 ^ 14)) ||| BitVec.ofInt (IntKind.bits .u32) (Int.fdiv x (2 ^ 18))).toNat))] (k:=?_)
 exact ⟨rfl,rfl⟩
theorem rot17 (x:Int) (W0:World) (H:List Grp):Tri Tryz.prog 140 #[.int .u32 x,.int .i64 (-17)] W0 H (fun v H'=>v=.int .u32 (V8 x 17)∧H'=H):=by
 refine C8 (args:=[.int .u32 x,.int .i64 (-17)]) (n:=17) Tryz.func140 rfl rfl (Nat.le_of_ble_eq_true rfl) ?_
 refine A1 (G_p [0] [0,1] (k:=?_))
 refine A0 (A1 ?_)
 refine G_p [0,0,0,0] [0,5] (k:=A0 ?_)
 refine A1 (G_p [0,0,0,0,0,0,0,0,0] [4] (k:=?_))
 refine A0 (C3 ?_)
 refine C1 [.tmp 4] [.int .u32 (IntKind.wrap .u32 ((BitVec.ofInt (IntKind.bits .u32) (IntKind.wrap .u32 (x * 2 ^ 15)) ||| BitVec.ofInt (IntKind.bits .u32) (Int.fdiv x (2 ^ 17))).toNat))] (k:=?_)
 exact ⟨rfl,rfl⟩
theorem rot19 (x:Int) (W0:World) (H:List Grp):Tri Tryz.prog 140 #[.int .u32 x,.int .i64 (-19)] W0 H (fun v H'=>v=.int .u32 (V8 x 19)∧H'=H):=by
 refine C8 (args:=[.int .u32 x,.int .i64 (-19)]) (n:=17) Tryz.func140 rfl rfl (Nat.le_of_ble_eq_true rfl) ?_
 refine A1 (G_p [0] [0,1] (k:=?_))
 refine A0 (A1 ?_)
 refine G_p [0,0,0,0] [0,5] (k:=A0 ?_)
 refine A1 (G_p [0,0,0,0,0,0,0,0,0] [4] (k:=?_))
 refine A0 (C3 ?_)
 refine C1 [.tmp 4] [.int .u32 (IntKind.wrap .u32 ((BitVec.ofInt (IntKind.bits .u32) (IntKind.wrap .u32 (x * 2 ^ 13)) ||| BitVec.ofInt (IntKind.bits .u32) (Int.fdiv x (2 ^ 19))).toNat))] (k:=?_)
 exact ⟨rfl,rfl⟩
theorem rot6 (x:Int) (W0:World) (H:List Grp):Tri Tryz.prog 140 #[.int .u32 x,.int .i64 (-6)] W0 H (fun v H'=>v=.int .u32 (V8 x 6)∧H'=H):=by
 refine C8 (args:=[.int .u32 x,.int .i64 (-6)]) (n:=17) Tryz.func140 rfl rfl (Nat.le_of_ble_eq_true rfl) ?_
 refine A1 (G_p [0] [0,1] (k:=?_))
 refine A0 (A1 ?_)
 refine G_p [0,0,0,0] [0,5] (k:=A0 ?_)
 refine A1 (G_p [0,0,0,0,0,0,0,0,0] [4] (k:=?_))
 refine A0 (C3 ?_)
 refine C1 [.tmp 4] [.int .u32 (IntKind.wrap .u32 ((BitVec.ofInt (IntKind.bits .u32) (IntKind.wrap .u32 (x * 2 ^ 26)) ||| BitVec.ofInt (IntKind.bits .u32) (Int.fdiv x (2 ^ 6))).toNat))] (k:=?_)
 exact ⟨rfl,rfl⟩
theorem rot11 (x:Int) (W0:World) (H:List Grp):Tri Tryz.prog 140 #[.int .u32 x,.int .i64 (-11)] W0 H (fun v H'=>v=.int .u32 (V8 x 11)∧H'=H):=by
 refine C8 (args:=[.int .u32 x,.int .i64 (-11)]) (n:=17) Tryz.func140 rfl rfl (Nat.le_of_ble_eq_true rfl) ?_
 refine A1 (G_p [0] [0,1] (k:=?_))
 refine A0 (A1 ?_)
 refine G_p [0,0,0,0] [0,5] (k:=A0 ?_)
 refine A1 (G_p [0,0,0,0,0,0,0,0,0] [4] (k:=?_))
 refine A0 (C3 ?_)
 refine C1 [.tmp 4] [.int .u32 (IntKind.wrap .u32 ((BitVec.ofInt (IntKind.bits .u32) (IntKind.wrap .u32 (x * 2 ^ 21)) ||| BitVec.ofInt (IntKind.bits .u32) (Int.fdiv x (2 ^ 11))).toNat))] (k:=?_)
 exact ⟨rfl,rfl⟩
theorem rot25 (x:Int) (W0:World) (H:List Grp):Tri Tryz.prog 140 #[.int .u32 x,.int .i64 (-25)] W0 H (fun v H'=>v=.int .u32 (V8 x 25)∧H'=H):=by
 refine C8 (args:=[.int .u32 x,.int .i64 (-25)]) (n:=17) Tryz.func140 rfl rfl (Nat.le_of_ble_eq_true rfl) ?_
 refine A1 (G_p [0] [0,1] (k:=?_))
 refine A0 (A1 ?_)
 refine G_p [0,0,0,0] [0,5] (k:=A0 ?_)
 refine A1 (G_p [0,0,0,0,0,0,0,0,0] [4] (k:=?_))
 refine A0 (C3 ?_)
 refine C1 [.tmp 4] [.int .u32 (IntKind.wrap .u32 ((BitVec.ofInt (IntKind.bits .u32) (IntKind.wrap .u32 (x * 2 ^ 7)) ||| BitVec.ofInt (IntKind.bits .u32) (Int.fdiv x (2 ^ 25))).toNat))] (k:=?_)
 exact ⟨rfl,rfl⟩
theorem rot2 (x:Int) (W0:World) (H:List Grp):Tri Tryz.prog 140 #[.int .u32 x,.int .i64 (-2)] W0 H (fun v H'=>v=.int .u32 (V8 x 2)∧H'=H):=by
 refine C8 (args:=[.int .u32 x,.int .i64 (-2)]) (n:=17) Tryz.func140 rfl rfl (Nat.le_of_ble_eq_true rfl) ?_
 refine A1 (G_p [0] [0,1] (k:=?_))
 refine A0 (A1 ?_)
 refine G_p [0,0,0,0] [0,5] (k:=A0 ?_)
 refine A1 (G_p [0,0,0,0,0,0,0,0,0] [4] (k:=?_))
 refine A0 (C3 ?_)
 refine C1 [.tmp 4] [.int .u32 (IntKind.wrap .u32 ((BitVec.ofInt (IntKind.bits .u32) (IntKind.wrap .u32 (x * 2 ^ 30)) ||| BitVec.ofInt (IntKind.bits .u32) (Int.fdiv x (2 ^ 2))).toNat))] (k:=?_)
 exact ⟨rfl,rfl⟩
theorem rot13 (x:Int) (W0:World) (H:List Grp):Tri Tryz.prog 140 #[.int .u32 x,.int .i64 (-13)] W0 H (fun v H'=>v=.int .u32 (V8 x 13)∧H'=H):=by
 refine C8 (args:=[.int .u32 x,.int .i64 (-13)]) (n:=17) Tryz.func140 rfl rfl (Nat.le_of_ble_eq_true rfl) ?_
 refine A1 (G_p [0] [0,1] (k:=?_))
 refine A0 (A1 ?_)
 refine G_p [0,0,0,0] [0,5] (k:=A0 ?_)
 refine A1 (G_p [0,0,0,0,0,0,0,0,0] [4] (k:=?_))
 refine A0 (C3 ?_)
 refine C1 [.tmp 4] [.int .u32 (IntKind.wrap .u32 ((BitVec.ofInt (IntKind.bits .u32) (IntKind.wrap .u32 (x * 2 ^ 19)) ||| BitVec.ofInt (IntKind.bits .u32) (Int.fdiv x (2 ^ 13))).toNat))] (k:=?_)
 exact ⟨rfl,rfl⟩
theorem rot22 (x:Int) (W0:World) (H:List Grp):Tri Tryz.prog 140 #[.int .u32 x,.int .i64 (-22)] W0 H (fun v H'=>v=.int .u32 (V8 x 22)∧H'=H):=by
 refine C8 (args:=[.int .u32 x,.int .i64 (-22)]) (n:=17) Tryz.func140 rfl rfl (Nat.le_of_ble_eq_true rfl) ?_
 refine A1 (G_p [0] [0,1] (k:=?_))
 refine A0 (A1 ?_)
 refine G_p [0,0,0,0] [0,5] (k:=A0 ?_)
 refine A1 (G_p [0,0,0,0,0,0,0,0,0] [4] (k:=?_))
 refine A0 (C3 ?_)
 refine C1 [.tmp 4] [.int .u32 (IntKind.wrap .u32 ((BitVec.ofInt (IntKind.bits .u32) (IntKind.wrap .u32 (x * 2 ^ 10)) ||| BitVec.ofInt (IntKind.bits .u32) (Int.fdiv x (2 ^ 22))).toNat))] (k:=?_)
 exact ⟨rfl,rfl⟩
theorem eight_ (n:Int) (h0:0≤n) (h1:n<18446744073709551616) (W0:World) (H:List Grp):Tri Tryz.prog 124 #[.int .u64 n] W0 H (fun v H'=>∃ g,Go.Sw.Own 5 1 v g 8 (u8s (T8 n))∧H'=g::H):=by
 refine C8 (args:=[.int .u64 n]) (n:=17) Tryz.func124 rfl rfl (Nat.le_of_ble_eq_true rfl) ?_
 refine A1 (B4 (E':=[⟨0,[],.int .u64 n⟩]) [0] [0] (k:=?_))
 refine A0 (A1 ?_)
 refine G_p [0] [0,3] (k:=A0 ?_)
 refine A1 (A1 ?_)
 refine G_p [0] [0,3,4] (k:=A0 ?_)
 refine C5 (G_rounds 9 ?_)
 refine K7 (A1 ?_)
 refine A1 (G_p [0,0] [0,3,4,6] (k:=?_))
 refine A0 (I1 kr ?_)
 refine B5 (A0 ?_)
 refine A1 (C5 ?_)
 refine A2 (A7 (j:=5) [0,0,0,0,0] (k:=?_))
 refine C2 (ch:=[]) (e:=5) (l:=[(0,.int .u8 (IntKind.wrap .u8 (Int.fdiv n (2 ^ 56))))]) (c:=[.int .u8 (IntKind.wrap .u8 (Int.fdiv n (2 ^ 56)))]) (k:=(fun b1=>?_))
 refine I5 rfl (H':=([]::[(b1,.cells #[.int .u8 (IntKind.wrap .u8 (Int.fdiv n (2 ^ 56)))] 5 (0,0))]::H)) (fun w h=>h.flat (List.Perm.refl _)) (E9 (i:=6) (ch:=[]) (t:=22) (tx:=22) (e:=5) (inf:=Tryz.t5) (s:=.slice none 0 0) (x:=.slice (some ⟨b1,0,none⟩) 1 1) (n:=0) (m:=1) (j:=0) (cs:=[]) (news:=[.int .u8 (IntKind.wrap .u8 (Int.fdiv n (2 ^ 56)))]) (g:=[]) (S:=(inG [(b1,.cells #[.int .u8 (IntKind.wrap .u8 (Int.fdiv n (2 ^ 56)))] 5 (0,0))])) rfl rfl rfl rfl kr kr kr rfl rfl (.inl ⟨5,kr⟩) (fun ⟨_,h⟩=>by cases h) (fun _=>⟨5,kr⟩) kr kr kr rfl Go.Sw.Own.nil (SrcOf.slice _ _ _ _ Rd.lit (fun h=>by cases h)) (C9 1 rfl) kr (by intro u hu; simp only [List.mem_cons,List.not_mem_nil,or_false] at hu; rcases hu with rfl; rfl) (by omega) (by show (0+1) * 1≤140737488355328; omega) (fun v2 g3 hO4=>?_))
 replace hO4:=T5 hO4
 refine C4 [0] [0,3,4] (k:=D5 ?_)
 refine A0 (G_p [0,0,0] [0,3,4] (k:=?_))
 refine N_rd (K7 ?_)
 refine A1 (A1 ?_)
 refine B4 (E':=[⟨0,[],.int .u64 n⟩,⟨3,[],v2⟩,⟨4,[],.int .i64 48⟩,⟨6,[],.bool true⟩]) [0,0] [0,3,4,6] (k:=A0 ?_)
 refine I1 kr (B5 ?_)
 refine A0 (A1 ?_)
 refine C5 (A2 ?_)
 refine A7 (j:=5) [0,0,0,0,0] (k:=C2 (ch:=[]) (e:=5) (l:=[(0,.int .u8 (IntKind.wrap .u8 (Int.fdiv n (2 ^ 48))))]) (c:=[.int .u8 (IntKind.wrap .u8 (Int.fdiv n (2 ^ 48)))]) (k:=(fun b5=>?_)))
 refine E9 (i:=6) (ch:=[]) (t:=22) (tx:=22) (e:=5) (inf:=Tryz.t5) (s:=v2) (x:=.slice (some ⟨b5,0,none⟩) 1 1) (n:=1) (m:=1) (j:=1) (cs:=[.int .u8 (IntKind.wrap .u8 (Int.fdiv n (2 ^ 56)))]) (news:=[.int .u8 (IntKind.wrap .u8 (Int.fdiv n (2 ^ 48)))]) (g:=g3) (S:=(inG [(b5,.cells #[.int .u8 (IntKind.wrap .u8 (Int.fdiv n (2 ^ 48)))] 5 (0,0))])) rfl rfl rfl rfl kr kr kr rfl rfl (.inl ⟨5,kr⟩) (fun ⟨_,h⟩=>by cases h) (fun _=>⟨5,kr⟩) kr kr kr rfl hO4 (SrcOf.slice _ _ _ _ Rd.lit (fun h=>by cases h)) (C9 0 rfl) kr (by intro u hu; simp only [List.mem_cons,List.not_mem_nil,or_false] at hu; rcases hu with rfl; rfl) (by omega) (by show (1+1) * 1≤140737488355328; omega) (fun v6 g7 hO8=>C4 [0] [0,3,4] (k:=?_))
 refine D5 (A0 ?_)
 refine G_p [0,0,0] [0,3,4] (k:=N_rd ?_)
 refine K7 (A1 ?_)
 refine A1 (G_p [0,0] [0,3,4,6] (k:=?_))
 refine A0 (I1 kr ?_)
 refine B5 (A0 ?_)
 refine A1 (C5 ?_)
 refine A2 (A7 (j:=5) [0,0,0,0,0] (k:=?_))
 refine C2 (ch:=[]) (e:=5) (l:=[(0,.int .u8 (IntKind.wrap .u8 (Int.fdiv n (2 ^ 40))))]) (c:=[.int .u8 (IntKind.wrap .u8 (Int.fdiv n (2 ^ 40)))]) (k:=(fun b9=>?_))
 refine E9 (i:=6) (ch:=[]) (t:=22) (tx:=22) (e:=5) (inf:=Tryz.t5) (s:=v6) (x:=.slice (some ⟨b9,0,none⟩) 1 1) (n:=(1+1)) (m:=1) (j:=2) (cs:=([.int .u8 (IntKind.wrap .u8 (Int.fdiv n (2 ^ 56)))]++[.int .u8 (IntKind.wrap .u8 (Int.fdiv n (2 ^ 48)))])) (news:=[.int .u8 (IntKind.wrap .u8 (Int.fdiv n (2 ^ 40)))]) (g:=g7) (S:=(inG [(b9,.cells #[.int .u8 (IntKind.wrap .u8 (Int.fdiv n (2 ^ 40)))] 5 (0,0))])) rfl rfl rfl rfl kr kr kr rfl rfl (.inl ⟨5,kr⟩) (fun ⟨_,h⟩=>by cases h) (fun _=>⟨5,kr⟩) kr kr kr rfl hO8 (SrcOf.slice _ _ _ _ Rd.lit (fun h=>by cases h)) (C9 0 rfl) kr (by intro u hu; simp only [List.mem_cons,List.not_mem_nil,or_false] at hu; rcases hu with rfl; rfl) (by omega) (by show ((1+1)+1) * 1≤140737488355328; omega) (fun v10 g11 hO12=>C4 [0] [0,3,4] (k:=?_))
 refine D5 (A0 ?_)
 refine G_p [0,0,0] [0,3,4] (k:=N_rd ?_)
 refine K7 (A1 ?_)
 refine A1 (B4 (E':=[⟨0,[],.int .u64 n⟩,⟨3,[],v10⟩,⟨4,[],.int .i64 32⟩,⟨6,[],.bool true⟩]) [0,0] [0,3,4,6] (k:=?_))
 refine A0 (I1 kr ?_)
 refine B5 (A0 ?_)
 refine A1 (C5 ?_)
 refine A2 (A7 (j:=5) [0,0,0,0,0] (k:=?_))
 refine C2 (ch:=[]) (e:=5) (l:=[(0,.int .u8 (IntKind.wrap .u8 (Int.fdiv n (2 ^ 32))))]) (c:=[.int .u8 (IntKind.wrap .u8 (Int.fdiv n (2 ^ 32)))]) (k:=(fun b13=>?_))
 refine E9 (i:=6) (ch:=[]) (t:=22) (tx:=22) (e:=5) (inf:=Tryz.t5) (s:=v10) (x:=.slice (some ⟨b13,0,none⟩) 1 1) (n:=((1+1)+1)) (m:=1) (j:=3) (cs:=(([.int .u8 (IntKind.wrap .u8 (Int.fdiv n (2 ^ 56)))]++[.int .u8 (IntKind.wrap .u8 (Int.fdiv n (2 ^ 48)))])++[.int .u8 (IntKind.wrap .u8 (Int.fdiv n (2 ^ 40)))])) (news:=[.int .u8 (IntKind.wrap .u8 (Int.fdiv n (2 ^ 32)))]) (g:=g11) (S:=(inG [(b13,.cells #[.int .u8 (IntKind.wrap .u8 (Int.fdiv n (2 ^ 32)))] 5 (0,0))])) rfl rfl rfl rfl kr kr kr rfl rfl (.inl ⟨5,kr⟩) (fun ⟨_,h⟩=>by cases h) (fun _=>⟨5,kr⟩) kr kr kr rfl hO12 (SrcOf.slice _ _ _ _ Rd.lit (fun h=>by cases h)) (C9 0 rfl) kr (by intro u hu; simp only [List.mem_cons,List.not_mem_nil,or_false] at hu; rcases hu with rfl; rfl) (by omega) (by show (((1+1)+1)+1) * 1≤140737488355328; omega) (fun v14 g15 hO16=>C4 [0] [0,3,4] (k:=?_))
 refine D5 (A0 ?_)
 refine G_p [0,0,0] [0,3,4] (k:=N_rd ?_)
 refine K7 (A1 ?_)
 refine A1 (G_p [0,0] [0,3,4,6] (k:=?_))
 refine A0 (I1 kr ?_)
 refine B5 (A0 ?_)
 refine A1 (C5 ?_)
 refine A2 (A7 (j:=5) [0,0,0,0,0] (k:=?_))
 refine C2 (ch:=[]) (e:=5) (l:=[(0,.int .u8 (IntKind.wrap .u8 (Int.fdiv n (2 ^ 24))))]) (c:=[.int .u8 (IntKind.wrap .u8 (Int.fdiv n (2 ^ 24)))]) (k:=(fun b17=>?_))
 refine E9 (i:=6) (ch:=[]) (t:=22) (tx:=22) (e:=5) (inf:=Tryz.t5) (s:=v14) (x:=.slice (some ⟨b17,0,none⟩) 1 1) (n:=(((1+1)+1)+1)) (m:=1) (j:=4) (cs:=((([.int .u8 (IntKind.wrap .u8 (Int.fdiv n (2 ^ 56)))]++[.int .u8 (IntKind.wrap .u8 (Int.fdiv n (2 ^ 48)))])++[.int .u8 (IntKind.wrap .u8 (Int.fdiv n (2 ^ 40)))])++[.int .u8 (IntKind.wrap .u8 (Int.fdiv n (2 ^ 32)))])) (news:=[.int .u8 (IntKind.wrap .u8 (Int.fdiv n (2 ^ 24)))]) (g:=g15) (S:=(inG [(b17,.cells #[.int .u8 (IntKind.wrap .u8 (Int.fdiv n (2 ^ 24)))] 5 (0,0))])) rfl rfl rfl rfl kr kr kr rfl rfl (.inl ⟨5,kr⟩) (fun ⟨_,h⟩=>by cases h) (fun _=>⟨5,kr⟩) kr kr kr rfl hO16 (SrcOf.slice _ _ _ _ Rd.lit (fun h=>by cases h)) (C9 0 rfl) kr (by intro u hu; simp only [List.mem_cons,List.not_mem_nil,or_false] at hu; rcases hu with rfl; rfl) (by omega) (by show ((((1+1)+1)+1)+1) * 1≤140737488355328; omega) (fun v18 g19 hO20=>C4 [0] [0,3,4] (k:=?_))
 refine D5 (A0 ?_)
 refine G_p [0,0,0] [0,3,4] (k:=N_rd ?_)
 refine K7 (A1 ?_)
 refine A1 (B4 (E':=[⟨0,[],.int .u64 n⟩,⟨3,[],v18⟩,⟨4,[],.int .i64 16⟩,⟨6,[],.bool true⟩]) [0,0] [0,3,4,6] (k:=?_))
 refine A0 (I1 kr ?_)
 refine B5 (A0 ?_)
 refine A1 (C5 ?_)
 refine A2 (A7 (j:=5) [0,0,0,0,0] (k:=?_))
 refine C2 (ch:=[]) (e:=5) (l:=[(0,.int .u8 (IntKind.wrap .u8 (Int.fdiv n (2 ^ 16))))]) (c:=[.int .u8 (IntKind.wrap .u8 (Int.fdiv n (2 ^ 16)))]) (k:=(fun b21=>?_))
 refine E9 (i:=6) (ch:=[]) (t:=22) (tx:=22) (e:=5) (inf:=Tryz.t5) (s:=v18) (x:=.slice (some ⟨b21,0,none⟩) 1 1) (n:=((((1+1)+1)+1)+1)) (m:=1) (j:=5) (cs:=(((([.int .u8 (IntKind.wrap .u8 (Int.fdiv n (2 ^ 56)))]++[.int .u8 (IntKind.wrap .u8 (Int.fdiv n (2 ^ 48)))])++[.int .u8 (IntKind.wrap .u8 (Int.fdiv n (2 ^ 40)))])++[.int .u8 (IntKind.wrap .u8 (Int.fdiv n (2 ^ 32)))])++[.int .u8 (IntKind.wrap .u8 (Int.fdiv n (2 ^ 24)))])) (news:=[.int .u8 (IntKind.wrap .u8 (Int.fdiv n (2 ^ 16)))]) (g:=g19) (S:=(inG [(b21,.cells #[.int .u8 (IntKind.wrap .u8 (Int.fdiv n (2 ^ 16)))] 5 (0,0))])) rfl rfl rfl rfl kr kr kr rfl rfl (.inl ⟨5,kr⟩) (fun ⟨_,h⟩=>by cases h) (fun _=>⟨5,kr⟩) kr kr kr rfl hO20 (SrcOf.slice _ _ _ _ Rd.lit (fun h=>by cases h)) (C9 0 rfl) kr (by intro u hu; simp only [List.mem_cons,List.not_mem_nil,or_false] at hu; rcases hu with rfl; rfl) (by omega) (by show (((((1+1)+1)+1)+1)+1) * 1≤140737488355328; omega) (fun v22 g23 hO24=>C4 [0] [0,3,4] (k:=?_))
 refine D5 (A0 ?_)
 refine G_p [0,0,0] [0,3,4] (k:=N_rd ?_)
 refine K7 (A1 ?_)
 refine A1 (G_p [0,0] [0,3,4,6] (k:=?_))
 refine A0 (I1 kr ?_)
 refine B5 (A0 ?_)
 refine A1 (C5 ?_)
 refine A2 (A7 (j:=5) [0,0,0,0,0] (k:=?_))
 refine C2 (ch:=[]) (e:=5) (l:=[(0,.int .u8 (IntKind.wrap .u8 (Int.fdiv n (2 ^ 8))))]) (c:=[.int .u8 (IntKind.wrap .u8 (Int.fdiv n (2 ^ 8)))]) (k:=(fun b25=>?_))
 refine E9 (i:=6) (ch:=[]) (t:=22) (tx:=22) (e:=5) (inf:=Tryz.t5) (s:=v22) (x:=.slice (some ⟨b25,0,none⟩) 1 1) (n:=(((((1+1)+1)+1)+1)+1)) (m:=1) (j:=6) (cs:=((((([.int .u8 (IntKind.wrap .u8 (Int.fdiv n (2 ^ 56)))]++[.int .u8 (IntKind.wrap .u8 (Int.fdiv n (2 ^ 48)))])++[.int .u8 (IntKind.wrap .u8 (Int.fdiv n (2 ^ 40)))])++[.int .u8 (IntKind.wrap .u8 (Int.fdiv n (2 ^ 32)))])++[.int .u8 (IntKind.wrap .u8 (Int.fdiv n (2 ^ 24)))])++[.int .u8 (IntKind.wrap .u8 (Int.fdiv n (2 ^ 16)))])) (news:=[.int .u8 (IntKind.wrap .u8 (Int.fdiv n (2 ^ 8)))]) (g:=g23) (S:=(inG [(b25,.cells #[.int .u8 (IntKind.wrap .u8 (Int.fdiv n (2 ^ 8)))] 5 (0,0))])) rfl rfl rfl rfl kr kr kr rfl rfl (.inl ⟨5,kr⟩) (fun ⟨_,h⟩=>by cases h) (fun _=>⟨5,kr⟩) kr kr kr rfl hO24 (SrcOf.slice _ _ _ _ Rd.lit (fun h=>by cases h)) (C9 0 rfl) kr (by intro u hu; simp only [List.mem_cons,List.not_mem_nil,or_false] at hu; rcases hu with rfl; rfl) (by omega) (by show ((((((1+1)+1)+1)+1)+1)+1) * 1≤140737488355328; omega) (fun v26 g27 hO28=>C4 [0] [0,3,4] (k:=?_))
 refine D5 (A0 ?_)
 refine G_p [0,0,0] [0,3,4] (k:=N_rd ?_)
 refine K7 (A1 ?_)
 refine A1 (B4 (E':=[⟨0,[],.int .u64 n⟩,⟨3,[],v26⟩,⟨4,[],.int .i64 0⟩,⟨6,[],.bool true⟩]) [0,0] [0,3,4,6] (k:=?_))
 refine A0 (I1 kr ?_)
 refine B5 (A0 ?_)
 refine A1 (C5 ?_)
 refine A2 (A7 (j:=5) [0,0,0,0,0] (k:=?_))
 refine C2 (ch:=[]) (e:=5) (l:=[(0,.int .u8 (IntKind.wrap .u8 (Int.fdiv n (2 ^ 0))))]) (c:=[.int .u8 (IntKind.wrap .u8 (Int.fdiv n (2 ^ 0)))]) (k:=(fun b29=>?_))
 refine E9 (i:=6) (ch:=[]) (t:=22) (tx:=22) (e:=5) (inf:=Tryz.t5) (s:=v26) (x:=.slice (some ⟨b29,0,none⟩) 1 1) (n:=((((((1+1)+1)+1)+1)+1)+1)) (m:=1) (j:=7) (cs:=(((((([.int .u8 (IntKind.wrap .u8 (Int.fdiv n (2 ^ 56)))]++[.int .u8 (IntKind.wrap .u8 (Int.fdiv n (2 ^ 48)))])++[.int .u8 (IntKind.wrap .u8 (Int.fdiv n (2 ^ 40)))])++[.int .u8 (IntKind.wrap .u8 (Int.fdiv n (2 ^ 32)))])++[.int .u8 (IntKind.wrap .u8 (Int.fdiv n (2 ^ 24)))])++[.int .u8 (IntKind.wrap .u8 (Int.fdiv n (2 ^ 16)))])++[.int .u8 (IntKind.wrap .u8 (Int.fdiv n (2 ^ 8)))])) (news:=[.int .u8 (IntKind.wrap .u8 (Int.fdiv n (2 ^ 0)))]) (g:=g27) (S:=(inG [(b29,.cells #[.int .u8 (IntKind.wrap .u8 (Int.fdiv n (2 ^ 0)))] 5 (0,0))])) rfl rfl rfl rfl kr kr kr rfl rfl (.inl ⟨5,kr⟩) (fun ⟨_,h⟩=>by cases h) (fun _=>⟨5,kr⟩) kr kr kr rfl hO28 (SrcOf.slice _ _ _ _ Rd.lit (fun h=>by cases h)) (C9 0 rfl) kr (by intro u hu; simp only [List.mem_cons,List.not_mem_nil,or_false] at hu; rcases hu with rfl; rfl) (by omega) (by show (((((((1+1)+1)+1)+1)+1)+1)+1) * 1≤140737488355328; omega) (fun v30 g31 hO32=>C4 [0] [0,3,4] (k:=?_))
 refine D5 (A0 ?_)
 refine G_p [0,0,0] [0,3,4] (k:=N_rd ?_)
 refine K7 (A1 ?_)
 refine A1 (G_p [0,0] [0,3,4,6] (k:=?_))
 refine A0 (I2 kr ?_)
 refine G6 (A8 ?_)
 refine A8 (C7 ?_)
 refine A0 (A1 ?_)
 refine B4 (E':=[⟨2,[],v30⟩]) [0,0] [2] (k:=A0 ?_)
 refine C3 (E0 (H':=(g31::H)) (fun w h=>((((((((h.erase 8).erase 6).erase 5).erase 4).erase 3).erase 2).erase 1).erase 0)) ?_)
 refine C1 [.tmp 2] [v30] (k:=?_)
 exact ⟨_,own_eight n hO32 rfl (by rw [eight_cells]; rfl),rfl⟩
end Go.Proofs.YtlaoeiaaeifidaaGreat
