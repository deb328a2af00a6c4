/- What a crash can't take from a disk: paths that are bound fast, bodies that are synced. What no call on other paths changes. Plain. (and what it stands on) -/
import Derived.Test.YtdolpaagdpeagaaGreatDoorZ2
import Derived.ChangeSlices
import Derived.Carry
import Derived.Lib.ItoaNum
import Derived.Sort.Walk0
import Derived.Laws.CopyRow
import Derived.Lib.AppendZeros
import Derived.Lib.Builder
import Derived.Lib.UnsafeStr
import Derived.Shelf.Strconv.Itoa3
import Derived.Shelf.Strconv.Atoi
import Derived.Shelf.Strings.Search3
import Derived.Shelf.Strings.Cut
import Derived.Shelf.Strings.Prefix
import Derived.Shelf.Small.Wraps
import Derived.Shelf.Small.Strs
import Derived.Lib.IndexLaws
namespace Go.Vf
open Go.Sw Go.RowKit
structure DS where
  nb:Nat
  kb:Nat
  cb:Nat
  nm:SM
  km:SM
  cm:SM
  nc:Nat
  kc:Nat
  cc:Nat
  ba:Option Addr
  bc:Nat
  bg:Grp
  bs:List BE
  rows:List RW
  Z:List Grp
def dkO (M:DM) (s:DS):Obj:=.cells #[.int .i64 M.room,.slice s.ba s.bs.length s.bc,.map (some s.nb),.map (some s.kb),.map (some s.cb),.bool M.fails,.bool M.once,.int .i64 M.calls] 64 (0,0)
def DS.G (s:DS) (d:Nat) (M:DM):List Grp :=
  [(d,dkO M s)]::[(s.nb,.map (B3 s.nm) s.nc)]::[(s.kb,.map (B3 s.km) s.kc)]::[(s.cb,.map (B3 s.cm) s.cc)]::s.bg::G4 s.bs::(F7 s.rows++s.Z)
def inZ (Z:List Grp) (y:Nat) (o:Obj):Prop:=(y,o)∈Z.flatten
theorem inZ_app {K Z:List Grp} {y:Nat} {o:Obj} (h:inZ Z y o):inZ (K++Z) y o:=by
  unfold inZ at h ⊢
  rw [List.flatten_append]; exact List.mem_append_right _ h
def A0e (bs:List BE):List Nat:=bs.map (·.p)
structure BodyR (S:Nat→Obj→Prop) (b:BE) (B:Body):Prop where
  n:b.n=B.now.size
  cn:b.n≤b.cn
  an:(b.an=none∧b.n=0∧b.cn=0)∨∃ k off,b.an=some ⟨k,off,none⟩
  now:Rd S b.an (u8s B.now.data.toList)
  m:b.m=B.kept.size
  cm:b.m≤b.ck
  am:(b.ak=none∧b.m=0∧b.ck=0)∨∃ k off,b.ak=some ⟨k,off,none⟩
  kept:Rd S b.ak (u8s B.kept.data.toList)
theorem BodyR.mono {S S':Nat→Obj→Prop} {b:BE} {B:Body} (h:BodyR S b B) (hs:∀ y o,S y o→S' y o):BodyR S' b B :=
  ⟨h.n,h.cn,h.an,h.now.mono hs,h.m,h.cm,h.am,h.kept.mono hs⟩
def QR (Z:List Grp) (ps:List Nat) (q:Nat) (l:List Nm):Prop:=∃ x c,inZ Z q (.map (B3 x) c)∧MapOk x c∧ChangeR ps x l
structure DS.ok (s:DS) (M:DM):Prop where
  own:Go.Sw.Own 70 1 (.slice s.ba s.bs.length s.bc) s.bg s.bs.length (s.bs.map fun b=>Value.pointer (some ⟨b.p,0,none⟩))
  nok:MapOk s.nm s.nc
  kok:MapOk s.km s.kc
  cok:MapOk s.cm s.cc
  names:NamesR (A0e s.bs) s.nm M.names
  kept:NamesR (A0e s.bs) s.km M.kept
  rows:Y9 s.cm s.rows
  chs:∀ d,All2 (QR s.Z (A0e s.bs)) (M7 s.rows d) (H7 M.changes d)
  bods:All2 (BodyR (inZ s.Z)) s.bs M.bodies
structure Y0 (M:DM):Prop where
  bodies:M.bodies.length≤100000
  size:∀ B∈M.bodies,B.now.size≤10000000∧B.kept.size≤B.now.size
  names:M.names.length≤10000
  changes:M.changes.length≤100000
  calls:-9223372036854775808≤M.calls∧M.calls≤9223372036854775807
  paths:∀ x∈M.names,x.1.size≤1000000
  dirs:∀ c∈M.changes,c.dir.size≤1000000
theorem ok_call {s:DS} {M:DM} (h:s.ok M) (r:Bool):s.ok (J9 M r):=⟨h.own,h.nok,h.kok,h.cok,h.names,h.kept,h.rows,h.chs,h.bods⟩
def szV (bs:List BE):Value→Nat
  | .pointer (some a)=>match bs.find? (fun b=>b.p==a.block) with | some b=>b.n | none=>0
  | _=>0
theorem szV_of {bs:List BE} (hn:(A0e bs).Nodup):∀ i:Nat,i<bs.length→szV bs (ptrV (bs.getD i default).p)=(bs.getD i default).n:=by
  unfold szV ptrV
  simp only
  induction bs with
  | nil=>intro i h; simp at h
  | cons b bs ih =>
    intro i hi
    unfold A0e at hn
    rw [List.map_cons,List.nodup_cons] at hn
    cases i with
    | zero=>simp
    | succ i =>
      have hi':i<bs.length:=by simpa using hi
      have hne:(b.p==(bs.getD i default).p)=false:=by
        rw [beq_eq_false_iff_ne]; intro h
        refine hn.1 (List.mem_map.2 ⟨bs.getD i default,getD_mem hi',h.symm⟩)
      rw [List.getD_cons_succ,List.find?_cons,hne]
      exact ih hn.2 i hi'
theorem ps_getD {bs:List BE} {i:Nat} (h:i<bs.length):(A0e bs).getD i 0=(bs.getD i default).p:=by
  unfold A0e
  rw [List.getD_eq_getElem?_getD,List.getD_eq_getElem?_getD,List.getElem?_map,List.getElem?_eq_getElem h]; rfl
theorem psOf_len (bs:List BE):(A0e bs).length=bs.length:=by unfold A0e; rw [List.length_map]
theorem sz_at {s:DS} {M:DM} (h:s.ok M) (hn:(A0e s.bs).Nodup) {k:Int} (hk:k.toNat<s.bs.length):szV s.bs (ptrOf (A0e s.bs) k)=sizeAt M k:=by
  unfold ptrOf
  rw [ps_getD hk,szV_of hn _ hk]
  exact (h.bods.get default default _ hk).n
theorem sum_used {s:DS} {M:DM} (h:s.ok M) (hn:(A0e s.bs).Nodup):sumN (szV s.bs) s.nm=V0 M:=by
  have hp:=(names_perm h.names h.nok).map fun y=>szV s.bs y.2
  rw [List.map_map,List.map_map] at hp
  have e:=hp.sum_nat
  unfold sumN V0
  rw [show (s.nm.map fun e=>szV s.bs e.2.1)=s.nm.map ((fun y=>szV s.bs y.2) ∘ fun e=>(e.1,e.2.1)) from rfl,e]
  congr 1
  refine List.map_congr_left fun x hx=>?_
  exact sz_at h hn (by have:=(h.names.lt x hx).2; rwa [psOf_len] at this)
theorem used_le {M:DM} (hs:Y0 M) (hl:∀ x∈M.names,x.2.toNat<M.bodies.length):V0 M≤100000000000:=by
  have h:∀ l:List Nm,(∀ x∈l,x.2.toNat<M.bodies.length)→(l.map fun x=>sizeAt M x.2).sum≤l.length * 10000000:=by
    intro l
    induction l with
    | nil=>intro _; simp
    | cons x l ih =>
      intro hx
      have h1:=ih fun y hy=>hx y (List.mem_cons_of_mem _ hy)
      have h2:sizeAt M x.2≤10000000:=by
        have hlt:=hx x List.mem_cons_self
        unfold sizeAt I5
        rw [List.getD_eq_getElem?_getD,List.getElem?_eq_getElem hlt]
        exact (hs.size _ (List.getElem_mem hlt)).1
      rw [List.map_cons,List.sum_cons,List.length_cons]
      omega
  have:=h M.names hl
  have h2:=hs.names
  unfold V0
  omega
theorem names_ptr {s:DS} {M:DM} (h:s.ok M) {e:ByteArray × Value × Nat} (he:e∈s.nm):∃ k:Int,C9 M.names e.1=some k∧k.toNat<s.bs.length∧e.2.1=ptrOf (A0e s.bs) k:=by
  obtain ⟨p,v,c⟩:=e
  have h1:=mget_of h.nok.nodup he
  rw [h.names.look] at h1
  cases hl:C9 M.names p with
  | none=>rw [hl] at h1; cases h1
  | some k =>
    rw [hl] at h1
    injection h1 with h1
    exact ⟨k,rfl,by have:=(h.names.lt _ (X7 hl)).2; rwa [psOf_len] at this,h1.symm⟩
theorem names_at {s:DS} {M:DM} (h:s.ok M) (hn:(A0e s.bs).Nodup) {W0:World} {H:List Grp} (hH:∀ x∈G4 s.bs,x∈H.flatten) :
    ∀ e∈s.nm,∃ p a c kv,e.2.1=.pointer (some ⟨p,0,none⟩)∧At W0 H p (.cells #[.slice a (szV s.bs e.2.1) c,kv] 72 (0,0)):=by
  intro e he
  obtain ⟨k,_,hk,h2⟩:=names_ptr h he
  refine ⟨(s.bs.getD k.toNat default).p,(s.bs.getD k.toNat default).an,(s.bs.getD k.toNat default).cn,.slice (s.bs.getD k.toNat default).ak (s.bs.getD k.toNat default).m (s.bs.getD k.toNat default).ck,?_,.inr (hH _ ?_)⟩
  · rw [h2,ptrOf,ps_getD hk]; rfl
  · rw [h2,ptrOf,ps_getD hk,szV_of hn _ hk]
    exact List.mem_of_getElem? (bodyG_at hk)
theorem ps_nodup {s:DS} {d:Nat} {M:DM} {W0:World} {H:List Grp} {w:World} (h:Sat W0 (s.G d M++H) w):(A0e s.bs).Nodup:=by
  have hn:=h.nodup
  have:(G4 s.bs).Sublist (s.G d M++H).flatten:=List.sublist_flatten_of_mem (List.mem_append_left _ (by simp [DS.G]))
  have h2:=hn.sublist (this.map Prod.fst)
  unfold G4 at h2
  rw [List.map_map] at h2
  exact h2
theorem tri_sat {P:Program} {f:FuncId} {args:Array Value} {W0:World} {H:List Grp} {R:Value→List Grp→Prop} (h:(∃ w,Sat W0 H w)→Tri P f args W0 H R):Tri P f args W0 H R:=fun w hs=>h ⟨w,hs⟩ w hs
theorem qr_mono {K Z:List Grp} {ps:List Nat} {q:Nat} {l:List Nm} (h:QR Z ps q l):QR (K++Z) ps q l:=by
  obtain ⟨x,c,h1,h2,h3⟩:=h
  exact ⟨x,c,inZ_app h1,h2,h3⟩
theorem ok_body {s:DS} {M:DM} (h:s.ok M) {p:Nat} {a1 a2:Option Addr} {n c1 c2:Nat} {g1 bg2:Grp} {b:ByteArray} (hb:b.size=n) (h1:Go.Sw.Own 5 1 (.slice a1 n c1) g1 n (u8s b.data.toList)) (h2:Go.Sw.Own 70 1 (.slice a2 (s.bs.length+1) c2) bg2 (s.bs.length+1) (s.bs.map (fun b=>Value.pointer (some ⟨b.p,0,none⟩))++[.pointer (some ⟨p,0,none⟩)])) :
    DS.ok { s with ba:=a2,bc:=c2,bg:=bg2,bs:=s.bs++[⟨p,a1,n,c1,none,0,0⟩],Z:=g1::s.Z } { M with bodies:=M.bodies++[⟨b,ByteArray.mk #[]⟩] }:=by
  have hps:A0e (s.bs++[⟨p,a1,n,c1,none,0,0⟩])=A0e s.bs++[p]:=by unfold A0e; rw [List.map_append]; rfl
  obtain ⟨a,c,he,hc,hr⟩:=h1.shape
  injection he with e1 e2 e3
  subst e1 e3
  have ha:(a1=none∧n=0∧c1=0)∨∃ k off,a1=some ⟨k,off,none⟩:=by
    obtain ⟨_,⟨he,_,hn⟩ | ⟨k,cap,junk,he,_⟩⟩:=h1
    · injection he with e1 e2 e3; exact .inl ⟨e1,e2,e3⟩
    · injection he with e1 e2 e3; exact .inr ⟨k,0,e1⟩
  refine ⟨?_,h.nok,h.kok,h.cok,?_,?_,h.rows,fun d=>?_,?_⟩
  · simp only [List.length_append,List.length_cons,List.length_nil,List.map_append,List.map_cons,List.map_nil]; exact h2
  · rw [hps]; exact h.names.mono p
  · rw [hps]; exact h.kept.mono p
  · rw [hps]
    refine (h.chs d).imp fun q l ⟨x,c,h1,h2,h3⟩=>⟨x,c,inZ_app (K:=[g1]) h1,h2,h3.mono p⟩
  · refine (h.bods.imp fun b B hb=>hb.mono fun y o h=>inZ_app (K:=[g1]) h).app (.cons ⟨hb.symm,hc,ha,hr.mono fun y o h=>?_,rfl,Nat.le_refl _,.inl ⟨rfl,rfl,rfl⟩,.inl rfl⟩ .nil)
    show (y,o)∈(g1::s.Z).flatten
    rw [List.flatten_cons]; exact List.mem_append_left _ h
theorem chOf_snoc (l:List Ch) (c:Ch) (d:ByteArray):H7 (l++[c]) d=if d==c.dir then H7 l d++[c.l] else H7 l d:=by
  unfold H7
  rw [List.filter_append,List.map_append,List.filter_cons]
  cases d==c.dir <;> simp
theorem ok_change {s:DS} {M:DM} (h:s.ok M) {dir:ByteArray} {l:List Nm} {q xc:Nat} {x dn:SM} {cx:Value} {rows1:List RW} (hx:MapOk x xc) (hc:ChangeR (A0e s.bs) x l) (hd:dn.Perm x) (hR:Y9 (H8 s.cm s.cc dir cx) rows1) (hA:RowsAdd s.rows dir q rows1) :
    DS.ok { s with nm:=(F3 (s.nm,s.nc) dn).1,nc:=(F3 (s.nm,s.nc) dn).2,cm:=H8 s.cm s.cc dir cx,cc:=if T1 s.cm dir then s.cc else s.cc+1,rows:=rows1,Z:=[(q,.map (B3 x) xc)]::s.Z } (P3 M dir l):=by
  refine ⟨h.own,MapOk.fold (s:=(s.nm,s.nc)) h.nok dn,h.kok,h.cok.put _ _,names_apply h.names h.nok hx hc hd,h.kept,hR,fun d=>?_,h.bods.imp fun b B hb=>hb.mono fun y o h=>inZ_app (K:=[[(q,.map (B3 x) xc)]]) h⟩
  show All2 _ (M7 rows1 d) (H7 (M.changes++[⟨dir,l⟩]) d)
  rw [rowsAdd_of hA,chOf_snoc]
  have h0:=(h.chs d).imp fun q' l' hq=>qr_mono (K:=[[(q,.map (B3 x) xc)]]) hq
  have key:All2 (QR ([[(q,.map (B3 x) xc)]]++s.Z) (A0e s.bs)) (if (d==dir)=true then M7 s.rows d++[q] else M7 s.rows d) (if (d==dir)=true then H7 M.changes d++[l] else H7 M.changes d):=by
    split
    · refine h0.app (.cons ⟨x,xc,?_,hx,hc⟩ .nil)
      show (q,_)∈List.flatten ([(q,_)]::s.Z)
      rw [List.flatten_cons]; exact List.mem_append_left _ (List.mem_singleton.2 rfl)
    · exact h0
  exact key
theorem rows_le {s:DS} {M:DM} (h:s.ok M) (hs:Y0 M):∀ r∈s.rows,r.qs.length≤1000000:=by
  intro r hr
  have hk:(s.rows.map (·.dir)).Nodup:=by
    have h1:(s.cm.map (fun e=>(e.1,e.2.1))).map Prod.fst=(s.rows.map (fun r=>(r.dir,r.v))).map Prod.fst:=by rw [h.rows.1]
    rw [List.map_map,List.map_map] at h1
    have h2:=h.cok.nodup
    rw [show (s.cm.map Prod.fst)=s.cm.map (Prod.fst ∘ fun e=>(e.1,e.2.1)) from rfl,h1] at h2
    exact h2
  have hrow:M7 s.rows r.dir=r.qs:=by
    have:∀ rows:List RW,(rows.map (·.dir)).Nodup→r∈rows→M7 rows r.dir=r.qs:=by
      intro rows
      induction rows with
      | nil=>intro _ h; cases h
      | cons y rows ih =>
        intro hn hm
        rw [List.map_cons,List.nodup_cons] at hn
        rw [M7]
        rcases List.mem_cons.1 hm with rfl | hm
        · rw [if_pos (baEq.2 rfl)]
        · rw [if_neg,ih hn.2 hm]
          intro he
          rw [baEq] at he
          exact hn.1 (List.mem_map.2 ⟨r,hm,he⟩)
    exact this s.rows hk hr
  have h1:=(h.chs r.dir).len
  rw [hrow] at h1
  have h2:(H7 M.changes r.dir).length≤M.changes.length:=by
    unfold H7
    rw [List.length_map]; exact List.length_filter_le _ _
  have:=hs.changes
  omega
end Go.Vf
namespace Go.Vf
open Go.Sw Go.RowKit Go.Proofs Go.Proofs.YtdolpaagdpeagaaGreatDoor
def Is (d:Nat) (M:DM) (v0:Value) (H:List Grp):Value→List Grp→Prop:=fun v H'=>v=v0∧∃ s:DS,s.ok M∧H'=s.G d M++H
def BytesV (W0:World) (H:List Grp) (v:Value) (b:ByteArray):Prop :=
  ∃ a cap S,v=.slice a b.size cap∧Sh a b.size cap∧Rd S a (u8s b.data.toList)∧∀ y o,S y o→At W0 H y o
theorem lookN_lt {s:DS} {M:DM} (h:s.ok M) {p:ByteArray} {k:Int} (hl:C9 M.names p=some k):0≤k∧k.toNat<s.bs.length:=by
  have:=h.names.lt _ (X7 hl)
  rw [psOf_len] at this; exact this
theorem small_at {M:DM} (hm:Y0 M) (k:Int):sizeAt M k≤10000000:=by
  unfold sizeAt I5
  rw [List.getD_eq_getElem?_getD]
  by_cases h:k.toNat<M.bodies.length
  · rw [List.getElem?_eq_getElem h]; exact (hm.size _ (List.getElem_mem h)).1
  · rw [List.getElem?_eq_none (by omega)]; exact Nat.zero_le _
theorem used_small {s:DS} {M:DM} (h:s.ok M) (hm:Y0 M):V0 M≤100000000000 :=
  used_le hm fun x hx=>by have:=(h.names.lt x hx).2; rw [psOf_len] at this; rw [← h.bods.len]; exact this
theorem mget_lk {s:DS} {M:DM} (h:s.ok M) {p:ByteArray} {k:Int} (hl:C9 M.names p=some k):R9 s.nm p=some (.pointer (some ⟨(s.bs.getD k.toNat default).p,0,none⟩)):=by
  rw [h.names.look,hl,Option.map_some,ptrOf,ps_getD (lookN_lt h hl).2]; rfl
theorem mget_no {s:DS} {M:DM} (h:s.ok M) {p:ByteArray} (hl:C9 M.names p=none):R9 s.nm p=none:=by rw [h.names.look,hl]; rfl
theorem was_no {M:DM} {p:ByteArray} (hl:C9 M.names p=none):wasM M p=0:=by unfold wasM; rw [hl]
theorem was_yes {s:DS} {M:DM} (h:s.ok M) (hn:(A0e s.bs).Nodup) {p:ByteArray} {k:Int} (hl:C9 M.names p=some k):wasM M p=szV s.bs (.pointer (some ⟨(s.bs.getD k.toNat default).p,0,none⟩)):=by
  unfold wasM
  rw [hl]
  have:=sz_at h hn (lookN_lt h hl).2
  rw [ptrOf,ps_getD (lookN_lt h hl).2] at this
  exact this.symm
theorem get_at {s:DS} {M:DM} (h:s.ok M) (hn:(A0e s.bs).Nodup) {W0:World} {H:List Grp} (hH:∀ x∈G4 s.bs,x∈H.flatten) (p:ByteArray) :
    R9 s.nm p=none∨∃ q a c kv,R9 s.nm p=some (.pointer (some ⟨q,0,none⟩))∧At W0 H q (.cells #[.slice a (szV s.bs (.pointer (some ⟨q,0,none⟩))) c,kv] 72 (0,0)):=by
  cases hl:C9 M.names p with
  | none=>exact .inl (mget_no h hl)
  | some k =>
    have hg:=mget_lk h hl
    obtain ⟨c,he⟩:=mget_mem hg
    obtain ⟨q,a,c,kv,h1,h2⟩:=names_at h hn hH (W0:=W0) _ he
    injection h1 with h1; injection h1 with h1; injection h1 with h1
    refine .inr ⟨_,a,c,kv,hg,?_⟩
    rw [← h1] at h2
    exact h2
theorem change1 {ps:List Nat} {q p:Nat} {path:ByteArray} {k:Nat} (hk:k=ps.length) (hq:q=p):ChangeR (ps++[p]) [(path,.pointer (some ⟨q,0,none⟩),0)] [(path,(k:Int))]:=by
  subst hk hq
  refine ⟨fun x=>?_,by simp,fun y hy _=>by rw [List.mem_singleton.1 hy]; simp⟩
  rw [K9,C9]
  cases x==path
  · rfl
  · simp [chV,ptrOf,ptrV]
theorem change0 {ps:List Nat} {path:ByteArray}:ChangeR ps [(path,.pointer none,0)] [(path,-1)]:=by
  refine ⟨fun x=>?_,by simp,fun y hy h0=>by rw [List.mem_singleton.1 hy] at h0; exact absurd (show (0:Int)≤-1 from h0) (by decide)⟩
  rw [K9,C9]
  cases x==path
  · rfl
  · simp [chV]
theorem body_sub {bs:List BE} {H:List Grp} (h:G4 bs∈H):∀ x∈G4 bs,x∈H.flatten:=fun _ hx=>List.mem_flatten.2 ⟨_,h,hx⟩
def lowW (s:DS) (M:DM) (d:Nat) (H:List Grp):List Grp :=
  [(d,dkO M s)]::[(s.nb,.map (B3 s.nm) s.nc)]::[(s.cb,.map (B3 s.cm) s.cc)]::s.bg::(F7 s.rows++([(s.kb,.map (B3 s.km) s.kc)]::G4 s.bs::(s.Z++H)))
theorem lowW_from {s:DS} {M:DM} {d:Nat} {H:List Grp} {W0:World} {w:World} (hw:Sat W0 (lowW s M d H) w):Sat W0 (s.G d M++H) w:=A8 hw fun _ x=>by
  simp only [DS.G,lowW,List.cons_append,List.append_assoc]
  simp only [List.flatten_cons,List.flatten_append,List.count_append]
  omega
theorem lowW_to {s:DS} {M:DM} {d:Nat} {H:List Grp} {W0:World} {w:World} (hw:Sat W0 (s.G d M++H) w):Sat W0 (lowW s M d H) w:=A8 hw fun _ x=>by
  simp only [DS.G,lowW,List.cons_append,List.append_assoc]
  simp only [List.flatten_cons,List.flatten_append,List.count_append]
  omega
theorem V8 {M:DM} {p b:ByteArray} (h:J0 M (A4 p)≠0):E5 M p b=(J0 M (A4 p),J9 M (A4 p)):=by unfold E5; rw [if_pos h]
theorem Q0 {M:DM} {p b:ByteArray} (h:J0 M (A4 p)=0) (h1:(V0 M:Int) - (wasM M p:Int)+(b.size:Int) > M.room):E5 M p b=(61,J9 M (A4 p)):=by
  unfold E5; rw [if_neg (by simpa using h),if_pos h1]
theorem W7 {M:DM} {p b:ByteArray} (h:J0 M (A4 p)=0) (h1:¬ (V0 M:Int) - (wasM M p:Int)+(b.size:Int) > M.room):E5 M p b=(0,P3 { J9 M (A4 p) with bodies:=M.bodies++[⟨b,ByteArray.mk #[]⟩] } (dirB p) [(p,(M.bodies.length:Int))]):=by
  unfold E5; rw [if_neg (by simpa using h),if_neg h1]
theorem cWrite {s:DS} {M:DM} (h:s.ok M) (hm:Y0 M) (d:Nat) (path b:ByteArray) (hpath:path.size≤9223372036854775807) (hb:b.size≤1000000000) (W0:World) (H:List Grp) {bv:Value} (hbv:BytesV W0 H bv b) :
    Tri Tryz.prog 76 #[.pointer (some ⟨d,0,none⟩),.string path,bv] W0 (s.G d M++H) (Is d (E5 M path b).2 (.int .i64 (E5 M path b).1) H):=by
  refine tri_sat fun ⟨w0,hw0⟩=>?_
  have hn:=ps_nodup hw0
  have hsum:=sum_used h hn
  have hus:=used_small h hm
  have hsub:∀ x∈G4 s.bs,x∈(F7 s.rows++([(s.kb,.map (B3 s.km) s.kc)]::G4 s.bs::(s.Z++H))).flatten:=body_sub (by simp)
  have hw:∀ v,R9 s.nm path=some v→szV s.bs v≤1000000000000:=fun v hv=>by
    obtain ⟨c,he⟩:=mget_mem hv
    obtain ⟨k,_,hk,h2⟩:=names_ptr h he
    rw [show v=_ from h2,sz_at h hn hk]
    have:=small_at hm k
    omega
  have hlen:=h.bods.len
  have hmb:=hm.bodies
  have hfail:∀ (e:Int),(E5 M path b).1=e→(E5 M path b).2=J9 M (A4 path)→∀ (v:Value) (H1:List Grp),v=.int .i64 e→H1=lowW s (J9 M (A4 path)) d H→∃ H2,Is d (E5 M path b).2 (.int .i64 (E5 M path b).1) H v H2∧∀ w,Sat W0 H1 w→Sat W0 H2 w:=by
    intro e e1 e2 v H1 hv hH
    refine ⟨_,⟨by rw [e1]; exact hv,s,by rw [e2]; exact ok_call h _,rfl⟩,fun w hw=>?_⟩
    rw [hH] at hw
    rw [e2]
    exact lowW_from hw
  have hdone:∀ (a1 a2:Option Addr) (n c1 c2 p q:Nat) (g1 bg2:Grp) (cx:Value) (rows1:List RW),(E5 M path b).1=0→(E5 M path b).2=P3 { J9 M (A4 path) with bodies:=M.bodies++[⟨b,ByteArray.mk #[]⟩] } (dirB path) [(path,(M.bodies.length:Int))] →
      b.size=n→Go.Sw.Own 5 1 (.slice a1 n c1) g1 n (u8s b.data.toList)→Go.Sw.Own 70 1 (.slice a2 (s.bs.length+1) c2) bg2 (s.bs.length+1) (s.bs.map (fun b=>Value.pointer (some ⟨b.p,0,none⟩))++[.pointer (some ⟨p,0,none⟩)])→Y9 (H8 s.cm s.cc (dirB path) cx) rows1→RowsAdd s.rows (dirB path) q rows1 →
      ∀ (v:Value) (H1:List Grp),v=.int .i64 0→(∀ w,Sat W0 H1 w→Sat W0 ([(d,.cells #[.int .i64 M.room,.slice a2 (s.bs.length+1) c2,.map (some s.nb),.map (some s.kb),.map (some s.cb),.bool (B7 M.fails M.once M.calls (A4 path)).2.1,.bool M.once,.int .i64 (B7 M.fails M.once M.calls (A4 path)).2.2] 64 (0,0))]::[(s.nb,.map (B3 (F3 (s.nm,s.nc) [(path,.pointer (some ⟨p,0,none⟩),0)]).1) (F3 (s.nm,s.nc) [(path,.pointer (some ⟨p,0,none⟩),0)]).2)]::[(s.cb,.map (B3 (H8 s.cm s.cc (dirB path) cx)) (if T1 s.cm (dirB path) then s.cc else s.cc+1))]::[(q,.map (B3 [(path,.pointer (some ⟨p,0,none⟩),0)]) 1)]::bg2::[(p,.cells #[.slice a1 n c1,.slice none 0 0] 72 (0,0))]::g1::(F7 rows1++([(s.kb,.map (B3 s.km) s.kc)]::G4 s.bs::(s.Z++H)))) w) →
      ∃ H2,Is d (E5 M path b).2 (.int .i64 (E5 M path b).1) H v H2∧∀ w,Sat W0 H1 w→Sat W0 H2 w:=by
    intro a1 a2 n c1 c2 p q g1 bg2 cx rows1 e1 e2 hbn ho1 ho2 hR hA v H1 hv hH
    have k1:=ok_body (ok_call h (A4 path)) hbn ho1 ho2
    have hc:ChangeR (A0e (s.bs++[⟨p,a1,n,c1,none,0,0⟩])) [(path,.pointer (some ⟨p,0,none⟩),0)] [(path,(M.bodies.length:Int))]:=by
      rw [show A0e (s.bs++[⟨p,a1,n,c1,none,0,0⟩])=A0e s.bs++[p] by unfold A0e; rw [List.map_append]; rfl]
      exact change1 (by rw [psOf_len,hlen]) rfl
    have k2:=ok_change (dir:=dirB path) k1 (X5 _ _) hc (List.Perm.refl _) hR hA
    refine ⟨_,⟨by rw [e1]; exact hv,_,by rw [e2]; exact k2,rfl⟩,fun w hw=>?_⟩
    rw [e2]
    refine A8 (hH w hw) fun _ x=>?_
    simp only [DS.G,dkO,P3,J9,G4,beO,List.map_append,List.map_cons,List.map_nil,List.length_append,List.length_cons,List.length_nil,Nat.zero_add,List.cons_append,List.append_assoc]
    simp only [List.flatten_cons,List.flatten_append,List.count_append]
    omega
  obtain ⟨a,cap,S,rfl,hsh,hrd,hS⟩:=hbv
  · refine Tri.heap (fun w hw=>lowW_to hw) (Tri.post (vWriteAny d s.nb s.kb s.cb s.nc s.cc M.room M.calls _ s.bg _ s.bs.length M.fails M.once s.nm s.cm path (szV s.bs) hpath hm.calls h.nok (by rw [hsum]; omega) hw h.own (by omega) s.rows h.rows (rows_le h hm) a b.size cap S b.data.toList hsh hrd (Array.length_toList) hb W0 ([(s.kb,.map (B3 s.km) s.kc)]::G4 s.bs::(s.Z++H)) (get_at h hn hsub path) (fun y o hy=>at_app2 (.cons (.cons (at_app2 (hS y o hy))))) (names_at h hn hsub)) fun v H1 hr=>?_)
    · rw [hsum] at hr
      rcases hr with ⟨hce,hv,hH⟩ | ⟨hce,hro,hv,hH⟩ | ⟨hce,hro,hv,p,q,a1,c1,a2,c2,cx,rows1,g1,bg2,ho1,ho2,hR,hA,hH⟩
      · exact hfail _ (by rw [V8 hce]; rfl) (by rw [V8 hce]) v H1 hv hH
      · have hro':(V0 M:Int) - (wasM M path:Int)+(b.size:Int) > M.room:=by
          cases hl:C9 M.names path with
          | none=>rw [mget_no h hl] at hro; rw [was_no hl]; exact hro
          | some k=>rw [mget_lk h hl] at hro; rw [was_yes h hn hl]; exact hro
        exact hfail 61 (by rw [Q0 hce hro']) (by rw [Q0 hce hro']) v H1 hv hH
      · have hro':¬ (V0 M:Int) - (wasM M path:Int)+(b.size:Int) > M.room:=by
          cases hl:C9 M.names path with
          | none=>rw [mget_no h hl] at hro; rw [was_no hl]; exact hro
          | some k=>rw [mget_lk h hl] at hro; rw [was_yes h hn hl]; exact hro
        refine hdone a1 a2 b.size c1 c2 p q g1 bg2 cx rows1 (by rw [W7 hce hro']) (by rw [W7 hce hro']) rfl ho1 ho2 hR hA v H1 hv fun w hw=>?_
        rw [hH] at hw
        exact hw
end Go.Vf
namespace Go.Vf
open Go.Sw Go.RowKit Go.Proofs Go.Proofs.YtdolpaagdpeagaaGreatDoor
theorem tlEq {a b:ByteArray}:(a.toList==b.toList)=(a==b):=by
  cases h:a==b
  · rw [beq_eq_false_iff_ne]
    intro he
    rw [baNe] at h
    rw [Lib.toList_data,Lib.toList_data] at he
    refine h ?_
    cases a with | mk a=>cases b with | mk b=>cases a with | mk a=>cases b with | mk b=>simpa using he
  · rw [baEq] at h; subst h; exact beq_self_eq_true _
theorem L9 {s:DS} {M M':DM} {d:Nat} {W0:World} {H H1:List Grp} {v v0:Value} (h:s.ok M) (r:Bool) (hM:M'=J9 M r) (hv:v=v0) (hH:∀ w,Sat W0 H1 w→Sat W0 (s.G d (J9 M r)++H) w) :
    ∃ H2,Is d M' v0 H v H2∧∀ w,Sat W0 H1 w→Sat W0 H2 w:=⟨_,⟨hv,s,by rw [hM]; exact ok_call h r,rfl⟩,fun w hw=>by rw [hM]; exact hH w hw⟩
def low3 (s:DS) (M:DM) (d:Nat) (H:List Grp):List Grp :=
  [(d,dkO M s)]::[(s.nb,.map (B3 s.nm) s.nc)]::[(s.cb,.map (B3 s.cm) s.cc)]::(F7 s.rows++(s.bg::[(s.kb,.map (B3 s.km) s.kc)]::G4 s.bs::(s.Z++H)))
theorem X6 {s:DS} {M:DM} {d:Nat} {H:List Grp} {W0:World} {w:World} (hw:Sat W0 (low3 s M d H) w):Sat W0 (s.G d M++H) w:=A8 hw fun _ x=>by
  simp only [DS.G,low3,List.cons_append,List.append_assoc]
  simp only [List.flatten_cons,List.flatten_append,List.count_append]
  omega
theorem low3_to {s:DS} {M:DM} {d:Nat} {H:List Grp} {W0:World} {w:World} (hw:Sat W0 (s.G d M++H) w):Sat W0 (low3 s M d H) w:=A8 hw fun _ x=>by
  simp only [DS.G,low3,List.cons_append,List.append_assoc]
  simp only [List.flatten_cons,List.flatten_append,List.count_append]
  omega
theorem Q1 {M:DM} {p:ByteArray} (h:J0 M (A4 p)≠0):J6 M p=(J0 M (A4 p),J9 M (A4 p)):=by unfold J6; rw [if_pos h]
theorem W4 {M:DM} {p:ByteArray} (h:J0 M (A4 p)=0) (hl:C9 M.names p=none):J6 M p=(60,J9 M (A4 p)):=by unfold J6; rw [if_neg (by simpa using h),hl]
theorem S4 {M:DM} {p:ByteArray} {k:Int} (h:J0 M (A4 p)=0) (hl:C9 M.names p=some k):J6 M p=(0,P3 (J9 M (A4 p)) (dirB p) [(p,-1)]):=by unfold J6; rw [if_neg (by simpa using h),hl]
theorem cRemove {s:DS} {M:DM} (h:s.ok M) (hm:Y0 M) (d:Nat) (path:ByteArray) (hpath:path.size≤9223372036854775807) (W0:World) (H:List Grp) :
    Tri Tryz.prog 42 #[.pointer (some ⟨d,0,none⟩),.string path] W0 (s.G d M++H) (Is d (J6 M path).2 (.int .i64 (J6 M path).1) H):=by
  cases hl:C9 M.names path with
  | none =>
    refine Tri.heap (fun w hw=>low3_to hw) (Tri.post (vRemoveNo d s.nb s.kb s.cb s.nc M.room M.calls _ M.fails M.once s.nm s.cm s.cc h.nok path hpath hm.calls (mget_no h hl) W0 _) fun v H1 hr=>?_)
    rcases hr with ⟨hce,hv,hH⟩ | ⟨hce,hv,hH⟩
    · exact L9 h (A4 path) (by rw [Q1 hce]) (by rw [Q1 hce]; exact hv) fun w hw=>by rw [hH] at hw; exact X6 hw
    · exact L9 h (A4 path) (by rw [W4 hce hl]) (by rw [W4 hce hl]; exact hv) fun w hw=>by rw [hH] at hw; exact X6 hw
  | some k =>
    refine Tri.heap (fun w hw=>low3_to hw) (Tri.post (vRemove d s.nb s.kb s.cb s.nc s.cc M.room M.calls _ M.fails M.once s.nm s.cm path hpath hm.calls h.nok s.rows h.rows (rows_le h hm) _ (mget_lk h hl) W0 _) fun v H1 hr=>?_)
    rcases hr with ⟨hce,hv,hH⟩ | ⟨hce,hv,q,cx,rows1,hR,hA,hH⟩
    · exact L9 h (A4 path) (by rw [Q1 hce]) (by rw [Q1 hce]; exact hv) fun w hw=>by rw [hH] at hw; exact X6 hw
    · have k2:=ok_change (dir:=dirB path) (ok_call h (A4 path)) (X5 path _) (change0 (path:=path)) (List.Perm.refl _) hR hA
      refine ⟨_,⟨by rw [S4 hce hl]; exact hv,_,by rw [S4 hce hl]; exact k2,rfl⟩,fun w hw=>?_⟩
      rw [hH] at hw
      rw [S4 hce hl]
      refine A8 hw fun _ x=>?_
      simp only [DS.G,dkO,P3,J9,List.cons_append,List.append_assoc]
      simp only [List.flatten_cons,List.flatten_append,List.count_append]
      omega
theorem M9 {M:DM} {p q:ByteArray} (h:J0 M (renR p q)≠0):H9 M p q=(J0 M (renR p q),J9 M (renR p q)):=by unfold H9; rw [if_pos h]
theorem Z7 {M:DM} {p q:ByteArray} (h:J0 M (renR p q)=0) (hl:C9 M.names p=none):H9 M p q=(60,J9 M (renR p q)):=by unfold H9; rw [if_neg (by simpa using h),hl]
theorem T0 {M:DM} {p q:ByteArray} {k:Int} (h:J0 M (renR p q)=0) (hl:C9 M.names p=some k) (he:(p==q)=true):H9 M p q=(0,J9 M (renR p q)):=by unfold H9; rw [if_neg (by simpa using h),hl]; simp only; rw [if_pos he]
theorem N4 {M:DM} {p q:ByteArray} {k:Int} (h:J0 M (renR p q)=0) (hl:C9 M.names p=some k) (he:(p==q)=false):H9 M p q=(0,P3 (J9 M (renR p q)) (dirB q) [(p,-1),(q,k)]):=by unfold H9; rw [if_neg (by simpa using h),hl]; simp only; rw [if_neg (by rw [he]; decide)]
theorem ren_change {ps:List Nat} {path to:ByteArray} {p:Nat} {k:Int} (hne:(path==to)=false) {xm:SM} {xc:Nat} (hc:RenC path to p xm xc) (hk:0≤k) (hk2:k.toNat<ps.length) (hp:ptrOf ps k=.pointer (some ⟨p,0,none⟩)) :
    MapOk xm xc∧ChangeR ps xm [(path,-1),(to,k)]:=by
  have hne':(to==path)=false:=by rw [baNe] at hne ⊢; exact fun e=>hne e.symm
  have hkeys:(([(path,-1),(to,k)]:List Nm).map Prod.fst).Nodup:=by
    simp only [List.map_cons,List.map_nil,List.nodup_cons,List.mem_singleton,List.not_mem_nil,not_false_eq_true,List.nodup_nil,and_true]
    rw [baNe] at hne; exact hne
  have hlt:∀ y∈([(path,-1),(to,k)]:List Nm),0≤y.2→y.2.toNat<ps.length:=by
    intro y hy h0
    rcases List.mem_cons.1 hy with rfl | hy
    · exact absurd (show (0:Int)≤-1 from h0) (by decide)
    · rw [List.mem_singleton.1 hy]; exact hk2
  have hchk:chV ps k=.pointer (some ⟨p,0,none⟩):=by unfold chV; rw [if_pos hk]; exact hp
  rcases hc with ⟨rfl,rfl⟩ | ⟨rfl,rfl⟩
  · refine ⟨(X5 _ _).put _ _,fun x=>?_,hkeys,hlt⟩
    rw [mget_put,K9,C9,C9]
    cases h1:x==path
    · cases h2:x==to
      · rfl
      · simp [hchk]
    · simp [chV]
  · refine ⟨(X5 _ _).put _ _,fun x=>?_,hkeys,hlt⟩
    rw [mget_put,K9,C9,C9]
    cases h1:x==path
    · cases h2:x==to
      · rfl
      · simp [hchk]
    · rw [baEq] at h1; subst h1
      simp [hne,chV]
theorem cRename {s:DS} {M:DM} (h:s.ok M) (hm:Y0 M) (d:Nat) (path to:ByteArray) (hpath:path.size≤9223372036854775807) (hto:to.size≤9223372036854775807) (W0:World) (H:List Grp) :
    Tri Tryz.prog 52 #[.pointer (some ⟨d,0,none⟩),.string path,.string to] W0 (s.G d M++H) (Is d (H9 M path to).2 (.int .i64 (H9 M path to).1) H):=by
  cases hl:C9 M.names path with
  | none =>
    refine Tri.heap (fun w hw=>low3_to hw) (Tri.post (vRenameNo d s.nb s.kb s.cb s.nc s.cc M.room M.calls _ M.fails M.once s.nm s.cm path to hpath hto hm.calls h.nok s.rows h.rows (rows_le h hm) (mget_no h hl) W0 _) fun v H1 hr=>?_)
    rcases hr with ⟨hce,hv,hH⟩ | ⟨hce,hv,hH⟩
    · exact L9 h (renR path to) (by rw [M9 hce]) (by rw [M9 hce]; exact hv) fun w hw=>by rw [hH] at hw; exact X6 hw
    · exact L9 h (renR path to) (by rw [Z7 hce hl]) (by rw [Z7 hce hl]; exact hv) fun w hw=>by rw [hH] at hw; exact X6 hw
  | some k =>
    refine Tri.heap (fun w hw=>low3_to hw) (Tri.post (vRename d s.nb s.kb s.cb s.nc s.cc M.room M.calls _ M.fails M.once s.nm s.cm path to hpath hto hm.calls h.nok s.rows h.rows (rows_le h hm) _ (mget_lk h hl) W0 _) fun v H1 hr=>?_)
    rcases hr with ⟨hce,hv,hH⟩ | ⟨hce,⟨he,hv,hH⟩ | ⟨he,hv,dn,xm,xc,q,cx,rows1,hC,hd,hR,hA,hH⟩⟩
    · exact L9 h (renR path to) (by rw [M9 hce]) (by rw [M9 hce]; exact hv) fun w hw=>by rw [hH] at hw; exact X6 hw
    · have he':(path==to)=true:=by rw [tlEq] at he; simpa using he
      exact L9 h (renR path to) (by rw [T0 hce hl he']) (by rw [T0 hce hl he']; exact hv) fun w hw=>by rw [hH] at hw; exact X6 hw
    · have he':(path==to)=false:=by rw [tlEq] at he; simpa using he
      have hlt:=h.names.lt _ (X7 hl)
      obtain ⟨hx,hc⟩:=ren_change (ps:=A0e s.bs) he' hC hlt.1 hlt.2 (by rw [ptrOf,ps_getD (lookN_lt h hl).2]; rfl)
      have k2:=ok_change (dir:=dirB to) (ok_call h (renR path to)) hx hc hd hR hA
      refine ⟨_,⟨by rw [N4 hce hl he']; exact hv,_,by rw [N4 hce hl he']; exact k2,rfl⟩,fun w hw=>?_⟩
      rw [hH] at hw
      rw [N4 hce hl he']
      refine A8 hw fun _ x=>?_
      simp only [DS.G,dkO,P3,J9,renR,List.cons_append,List.append_assoc]
      simp only [List.flatten_cons,List.flatten_append,List.count_append]
      omega
theorem cUsed {s:DS} {M:DM} (h:s.ok M) (hm:Y0 M) (d:Nat) (W0:World) (H:List Grp) :
    Tri Tryz.prog 11 #[.pointer (some ⟨d,0,none⟩)] W0 (s.G d M++H) (fun v H'=>v=.int .i64 (V0 M:Int)∧H'=s.G d M++H):=by
  refine tri_sat fun ⟨w0,hw0⟩=>?_
  have hn:=ps_nodup hw0
  have hus:=used_small h hm
  have:=vUsed d s.nb s.kb s.cb s.nc M.room M.calls (.slice s.ba s.bs.length s.bc) M.fails M.once s.nm (szV s.bs) h.nok (by rw [sum_used h hn]; omega) W0 ([(s.kb,.map (B3 s.km) s.kc)]::[(s.cb,.map (B3 s.cm) s.cc)]::s.bg::G4 s.bs::((F7 s.rows++s.Z)++H)) (names_at h hn (body_sub (by simp)))
  rw [sum_used h hn] at this
  exact this
theorem cFail {s:DS} {M:DM} (h:s.ok M) (d:Nat) (n:Int) (o:Bool) (W0:World) (H:List Grp) :
    Tri Tryz.prog 14 #[.pointer (some ⟨d,0,none⟩),.int .i64 n,.bool o] W0 (s.G d M++H) (Is d (failM M n o) (.tuple #[]) H):=by
  refine (vFail d s.nb s.kb s.cb M.room M.calls (.slice s.ba s.bs.length s.bc) M.fails M.once n o W0 _).mono fun v H' ⟨hv,hH⟩=>⟨hv,s,⟨h.own,h.nok,h.kok,h.cok,h.names,h.kept,h.rows,h.chs,h.bods⟩,hH⟩
theorem cNew (room:Int) (W0:World) (H:List Grp):Tri Tryz.prog 8 #[.int .i64 room] W0 H (fun v H'=>∃ d,v=.pointer (some ⟨d,0,none⟩)∧∃ s:DS,s.ok (newM room)∧H'=s.G d (newM room)++H):=by
  refine Tri.post (vNew room W0 H) fun v H1 ⟨d,nb,kb,cb,hv,hH⟩=>?_
  have h0:MapOk [] 0:=⟨List.Pairwise.nil,List.nodup_nil,fun _ h=>absurd h List.not_mem_nil⟩
  have hN:NamesR [] [] []:=⟨fun _=>rfl,List.nodup_nil,fun _ h=>absurd h List.not_mem_nil⟩
  refine ⟨_,⟨d,hv,⟨nb,kb,cb,[],[],[],0,0,0,none,0,[],[],[],[]⟩,⟨Go.Sw.Own.nil,h0,h0,h0,hN,hN,⟨rfl,fun _ h=>absurd h List.not_mem_nil⟩,fun _=>.nil,.nil⟩,rfl⟩,fun w hw=>?_⟩
  rw [hH] at hw
  refine A8 hw fun _ x=>?_
  simp only [DS.G,dkO,newM,G4,F7,List.map_nil,List.length_nil,List.nil_append,List.cons_append]
  simp only [List.flatten_cons,List.count_append,List.count_nil]
  omega
end Go.Vf
namespace Go.Vf
open Go.Sw Go.RowKit Go.Proofs Go.Proofs.YtdolpaagdpeagaaGreatDoor
theorem sortL_pw (l:List (List UInt8)):(l.mergeSort fun x y=>decide (x≤y)).Pairwise fun a b=>a≤b:=by
  have:=List.pairwise_mergeSort (le:=fun x y:List UInt8=>decide (x≤y)) (fun a b c h1 h2=>by
    rw [decide_eq_true_eq] at h1 h2 ⊢; exact List.le_trans h1 h2) (fun a b=>by
    rw [Bool.or_eq_true,decide_eq_true_eq,decide_eq_true_eq]; exact List.le_total a b) l
  exact this.imp fun h=>by rwa [decide_eq_true_eq] at h
theorem sortB_congr {a b:List ByteArray} (h:a.Perm b):R1 a=R1 b:=by
  unfold R1
  have hp:((a.map fun s=>s.data.toList).mergeSort fun x y=>decide (x≤y)).Perm ((b.map fun s=>s.data.toList).mergeSort fun x y=>decide (x≤y)) :=
    (List.mergeSort_perm _ _).trans ((h.map _).trans (List.mergeSort_perm _ _).symm)
  rw [hp.eq_of_pairwise (le:=fun a b=>a≤b) (fun a b _ _ h1 h2=>List.le_antisymm h1 h2) (sortL_pw _) (sortL_pw _)]
theorem split_at {l:List BE}:∀ {k:Nat},k<l.length→∃ A C,l=A++l.getD k default::C∧∀ b,l.set k b=A++b::C:=by
  induction l with
  | nil=>intro k h; simp at h
  | cons x l ih =>
    intro k h
    cases k with
    | zero=>exact ⟨[],l,rfl,fun _=>rfl⟩
    | succ k =>
      obtain ⟨A,C,h1,h2⟩:=ih (k:=k) (by simpa using h)
      refine ⟨x::A,C,?_,fun b=>?_⟩
      · rw [List.getD_cons_succ,List.cons_append,← h1]
      · rw [List.set_cons_succ,h2]; rfl
theorem bodyG_app (A C:List BE) (b:BE):G4 (A++b::C)=G4 A++([beO b]++G4 C):=by unfold G4; simp
theorem psOf_set {bs:List BE} {k:Nat} {b:BE} (hk:k<bs.length) (hb:b.p=(bs.getD k default).p):A0e (bs.set k b)=A0e bs:=by
  obtain ⟨A,C,h1,h2⟩:=split_at hk
  rw [h2]
  have h3:=congrArg A0e h1
  rw [h3]
  unfold A0e
  rw [List.map_append,List.map_append,List.map_cons,List.map_cons,hb]
theorem ok_set {s:DS} {M:DM} (h:s.ok M) {k:Int} {b:BE} {B:Body} (K:List Grp) (hk:k.toNat<s.bs.length) (hb:BodyR (inZ (K++s.Z)) b B) (hp:b.p=(s.bs.getD k.toNat default).p) :
    DS.ok { s with bs:=s.bs.set k.toNat b,Z:=K++s.Z } (setBody M k B):=by
  have hps:=psOf_set hk hp
  refine ⟨?_,h.nok,h.kok,h.cok,?_,?_,h.rows,fun d=>?_,(h.bods.imp fun b B hb=>hb.mono fun y o h=>inZ_app h).set hb _⟩
  · have e:(s.bs.set k.toNat b).map (fun b=>Value.pointer (some ⟨b.p,0,none⟩))=s.bs.map fun b=>Value.pointer (some ⟨b.p,0,none⟩):=by
      have e1:∀ l:List BE,l.map (fun b=>Value.pointer (some ⟨b.p,0,none⟩))=(A0e l).map fun p=>Value.pointer (some ⟨p,0,none⟩):=fun l=>by unfold A0e; rw [List.map_map]; rfl
      rw [e1,e1,hps]
    simp only [List.length_set]
    rw [e]; exact h.own
  · rw [hps]; exact h.names
  · rw [hps]; exact h.kept
  · rw [hps]; exact (h.chs d).imp fun q l hq=>qr_mono hq
def lowP (s:DS) (M:DM) (d:Nat) (H:List Grp) (A C:List BE) (b:BE):List Grp :=
  [(d,dkO M s)]::[(s.nb,.map (B3 s.nm) s.nc)]::[beO b]::(G4 A::G4 C::[(s.kb,.map (B3 s.km) s.kc)]::[(s.cb,.map (B3 s.cm) s.cc)]::s.bg::(F7 s.rows++(s.Z++H)))
theorem lowP_to {s:DS} {M:DM} {d:Nat} {H:List Grp} {A C:List BE} {b:BE} (hb:s.bs=A++b::C) {W0:World} {w:World} (hw:Sat W0 (s.G d M++H) w):Sat W0 (lowP s M d H A C b) w:=A8 hw fun _ x=>by
  simp only [DS.G,lowP,List.cons_append,List.append_assoc]
  simp only [List.flatten_cons,List.flatten_append,List.count_append,hb,bodyG_app]
  omega
theorem lowP_from {s:DS} {M:DM} {d:Nat} {H:List Grp} {A C:List BE} {b:BE} (hb:s.bs=A++b::C) {W0:World} {w:World} (hw:Sat W0 (lowP s M d H A C b) w):Sat W0 (s.G d M++H) w:=A8 hw fun _ x=>by
  simp only [DS.G,lowP,List.cons_append,List.append_assoc]
  simp only [List.flatten_cons,List.flatten_append,List.count_append,hb,bodyG_app]
  omega
theorem S9 {M:DM} {p:ByteArray} (h:J0 M (A4 p)≠0):N5 M p=(J0 M (A4 p),J9 M (A4 p)):=by unfold N5; rw [if_pos h]
theorem syncM_no {M:DM} {p:ByteArray} (h:J0 M (A4 p)=0) (hl:C9 M.names p=none):N5 M p=(60,J9 M (A4 p)):=by unfold N5; rw [if_neg (by simpa using h),hl]
theorem Y4 {M:DM} {p:ByteArray} {k:Int} (h:J0 M (A4 p)=0) (hl:C9 M.names p=some k):N5 M p=(0,setBody (J9 M (A4 p)) k ⟨(I5 M k).now,(I5 M k).now⟩):=by unfold N5; rw [if_neg (by simpa using h),hl]
theorem cSync {s:DS} {M:DM} (h:s.ok M) (hm:Y0 M) (d:Nat) (path:ByteArray) (hpath:path.size≤9223372036854775807) (W0:World) (H:List Grp) :
    Tri Tryz.prog 77 #[.pointer (some ⟨d,0,none⟩),.string path] W0 (s.G d M++H) (Is d (N5 M path).2 (.int .i64 (N5 M path).1) H):=by
  cases hl:C9 M.names path with
  | none =>
    refine Tri.post (vSyncNo d s.nb s.kb s.cb s.nc M.room M.calls (.slice s.ba s.bs.length s.bc) M.fails M.once s.nm path hpath hm.calls (mget_no h hl) W0 _) fun v H1 hr=>?_
    rcases hr with ⟨hce,hv,hH⟩ | ⟨hce,hv,hH⟩
    · exact L9 h (A4 path) (by rw [S9 hce]) (by rw [S9 hce]; exact hv) fun w hw=>by rw [hH] at hw; exact hw
    · exact L9 h (A4 path) (by rw [syncM_no hce hl]) (by rw [syncM_no hce hl]; exact hv) fun w hw=>by rw [hH] at hw; exact hw
  | some k =>
    have hk:=(lookN_lt h hl).2
    obtain ⟨A,C,hs,hset⟩:=split_at hk
    have hB:=h.bods.get default default _ hk
    refine Tri.heap (fun w hw=>lowP_to hs hw) (Tri.post (vSyncYes d s.nb s.kb s.cb s.nc M.room M.calls (.slice s.ba s.bs.length s.bc) M.fails M.once s.nm path hpath hm.calls (s.bs.getD k.toNat default).p _ _ _ _ _ _ (mget_lk h hl) W0 _) fun v H1 hr=>?_)
    rcases hr with ⟨hce,hv,hH⟩ | ⟨hce,hv,hH⟩
    · exact L9 h (A4 path) (by rw [S9 hce]) (by rw [S9 hce]; exact hv) fun w hw=>by rw [hH] at hw; exact lowP_from hs hw
    · have k2:=ok_set (k:=k) (b:=⟨(s.bs.getD k.toNat default).p,(s.bs.getD k.toNat default).an,(s.bs.getD k.toNat default).n,(s.bs.getD k.toNat default).cn,(s.bs.getD k.toNat default).an,(s.bs.getD k.toNat default).n,(s.bs.getD k.toNat default).cn⟩) (B:=⟨(I5 M k).now,(I5 M k).now⟩) (ok_call h (A4 path)) [] hk ⟨hB.n,hB.cn,hB.an,hB.now,hB.n,hB.cn,hB.an,hB.now⟩ rfl
      refine ⟨_,⟨by rw [Y4 hce hl]; exact hv,_,by rw [Y4 hce hl]; exact k2,rfl⟩,fun w hw=>?_⟩
      rw [hH] at hw
      rw [Y4 hce hl]
      refine A8 hw fun _ x=>?_
      simp only [DS.G,dkO,setBody,J9,List.cons_append,List.append_assoc,List.length_set]
      simp only [List.flatten_cons,List.flatten_append,List.count_append,List.nil_append,hset,bodyG_app]
      simp only [beO]
      omega
end Go.Vf
namespace Go.Vf
open Go.Sw Go.RowKit Go.Proofs Go.Proofs.YtdolpaagdpeagaaGreatDoor
theorem readM_no {M:DM} {p:ByteArray} (hl:C9 M.names p=none):P1 M p=(ByteArray.mk #[],60):=by unfold P1; rw [hl]
theorem readM_ok {M:DM} {p:ByteArray} {k:Int} (hl:C9 M.names p=some k):P1 M p=((I5 M k).now,0):=by unfold P1; rw [hl]
theorem cRead {s:DS} {M:DM} (h:s.ok M) (hm:∀ B∈M.bodies,B.now.size≤10000000) (d:Nat) (path:ByteArray) (W0:World) (H:List Grp) :
    Tri Tryz.prog 21 #[.pointer (some ⟨d,0,none⟩),.string path] W0 (s.G d M++H) (fun v H'=>∃ x g,v=.tuple #[x,.int .i64 (P1 M path).2]∧Go.Sw.Own 5 1 x g (P1 M path).1.size (u8s (P1 M path).1.data.toList)∧H'=g::(s.G d M++H)):=by
  cases hl:C9 M.names path with
  | none =>
    rw [readM_no hl]
    refine Tri.post (vReadNo d s.nb s.kb s.cb s.nc M.room M.calls (.slice s.ba s.bs.length s.bc) M.fails M.once s.nm path (mget_no h hl) W0 _) fun v H1 ⟨hv,hH⟩=>⟨_,⟨_,[],hv,Go.Sw.Own.nil,rfl⟩,fun w hw=>?_⟩
    rw [hH] at hw
    exact flat_nil' (A:=[]) hw
  | some k =>
    rw [readM_ok hl]
    have hk:=(lookN_lt h hl).2
    have hB:=h.bods.get default default _ hk
    have hsz:(s.bs.getD k.toNat default).n≤1000000000:=by
      rw [hB.n,List.getD_eq_getElem?_getD,List.getElem?_eq_getElem (by rw [← h.bods.len]; exact hk)]
      have:=hm _ (List.getElem_mem (by rw [← h.bods.len]; exact hk))
      simp only [Option.getD_some]
      omega
    have hp:At W0 ([(s.kb,.map (B3 s.km) s.kc)]::[(s.cb,.map (B3 s.cm) s.cc)]::s.bg::G4 s.bs::((F7 s.rows++s.Z)++H)) (s.bs.getD k.toNat default).p (.cells #[.slice (s.bs.getD k.toNat default).an (s.bs.getD k.toNat default).n (s.bs.getD k.toNat default).cn,.slice (s.bs.getD k.toNat default).ak (s.bs.getD k.toNat default).m (s.bs.getD k.toNat default).ck] 72 (0,0)) :=
      .cons (.cons (.cons (At.mem List.mem_cons_self (List.mem_of_getElem? (bodyG_at hk)))))
    have hz:∀ y o,inZ s.Z y o→At W0 ([(s.kb,.map (B3 s.km) s.kc)]::[(s.cb,.map (B3 s.cm) s.cc)]::s.bg::G4 s.bs::((F7 s.rows++s.Z)++H)) y o:=fun y o hy=>.cons (.cons (.cons (.cons (.inr (by rw [List.flatten_append,List.flatten_append]; exact List.mem_append_left _ (List.mem_append_right _ hy))))))
    have hlen:(I5 M k).now.data.toList.length=(s.bs.getD k.toNat default).n:=by rw [hB.n]; exact Array.length_toList
    have hnow:=hB.now
    have hn0:=hB.n
    rcases hB.an with ⟨h1,h2,h3⟩ | ⟨b,off,h1⟩
    · rw [h1,h2,h3] at hp
      have he:(I5 M k).now=ByteArray.mk #[]:=by
        have h0:(I5 M k).now.size=0:=by rw [← h2]; exact hn0.symm
        generalize (I5 M k).now=x at h0
        cases x with | mk d =>
        have:d=#[]:=Array.eq_empty_of_size_eq_zero h0
        rw [this]
      rw [he]
      refine Tri.post (vReadNil d s.nb s.kb s.cb s.nc M.room M.calls (.slice s.ba s.bs.length s.bc) M.fails M.once s.nm path _ _ (mget_lk h hl) W0 _ hp) fun v H1 ⟨hv,hH⟩=>⟨_,⟨_,[],hv,Go.Sw.Own.nil,rfl⟩,fun w hw=>?_⟩
      rw [hH] at hw
      exact flat_nil' (A:=[]) hw
    · rw [h1] at hp hnow
      refine (vReadYes d s.nb s.kb s.cb s.nc M.room M.calls (.slice s.ba s.bs.length s.bc) M.fails M.once s.nm path b off (s.bs.getD k.toNat default).n (s.bs.getD k.toNat default).cn (inZ s.Z) _ hnow hlen hsz _ _ (mget_lk h hl) W0 _ hz hp).mono fun v H' ⟨x,g,hv,ho,hH⟩=>⟨x,g,hv,?_,hH⟩
      rw [hn0] at ho
      exact ho
theorem listK_perm {d:ByteArray} {dn:SM} {names:List Nm} {ps:List Nat} {nm:SM} {nc:Nat} (hn:NamesR ps nm names) (ho:MapOk nm nc) (hd:dn.Perm nm):(Y3 d dn).Perm ((names.filter fun n=>(dirB n.1).toList==d.toList).map Prod.fst):=by
  have h1:(nm.map Prod.fst).Perm (names.map Prod.fst):=by
    have:=(names_perm hn ho).map Prod.fst
    rw [List.map_map,List.map_map] at this
    exact this
  have h2:(dn.map Prod.fst).Perm (names.map Prod.fst):=(hd.map _).trans h1
  have h3:=h2.filter fun p=>(dirB p).toList==d.toList
  rw [List.filter_map,List.filter_map] at h3
  exact h3
theorem cList {s:DS} {M:DM} (h:s.ok M) (hm:Y0 M) (d:Nat) (dir:ByteArray) (W0:World) (H:List Grp) :
    Tri Tryz.prog 20 #[.pointer (some ⟨d,0,none⟩),.string dir] W0 (s.G d M++H) (fun v H'=>∃ g,Go.Sw.Own 9 1 v g (P2 M dir).length (Y5 (P2 M dir))∧H'=g::(s.G d M++H)):=by
  have hp:=names_perm h.names h.nok
  have hlen:s.nm.length≤1000000:=by
    have:=hp.length_eq
    rw [List.length_map,List.length_map] at this
    have:=hm.names
    omega
  have hks:∀ e∈s.nm,e.1.size≤9223372036854775807:=fun e he=>by
    obtain ⟨k,hk,_⟩:=names_ptr h he
    have:=hm.paths _ (X7 hk)
    simp only at this
    omega
  refine Tri.post (vList d s.nb s.kb s.cb s.nc M.room M.calls (.slice s.ba s.bs.length s.bc) M.fails M.once s.nm dir h.nok hks hlen W0 ([(s.kb,.map (B3 s.km) s.kc)]::[(s.cb,.map (B3 s.cm) s.cc)]::s.bg::G4 s.bs::((F7 s.rows++s.Z)++H))) fun v H1 ⟨dn,g,hd,ho,hH⟩=>?_
  have hq:=listK_perm (d:=dir) h.names h.nok hd
  have e1:R1 (Y3 dir dn)=P2 M dir:=sortB_congr hq
  have e2:(Y3 dir dn).length=(P2 M dir).length:=by rw [← e1,sortB_len]
  rw [e1,e2] at ho
  refine ⟨_,⟨g,ho,rfl⟩,fun w hw=>?_⟩
  rw [hH] at hw
  refine A8 hw fun _ x=>?_
  simp only [DS.G,dkO,List.cons_append,List.append_assoc]
  simp only [List.flatten_cons,List.flatten_append,List.count_append]
  omega
theorem chOf_filter {l:List Ch} {d d':ByteArray}:H7 (l.filter fun c=>!(d==c.dir)) d'=if d'==d then [] else H7 l d':=by
  unfold H7
  induction l with
  | nil=>simp
  | cons c l ih =>
    rw [List.filter_cons]
    cases h1:d==c.dir
    · simp only [Bool.not_false,if_true]
      rw [List.filter_cons,List.filter_cons]
      cases h2:d'==c.dir
      · simp only [Bool.false_eq_true,if_false]; exact ih
      · simp only [if_true,List.map_cons,ih]
        rw [baEq] at h2; subst h2
        rw [if_neg,if_neg]
        · intro h; rw [baEq] at h; rw [baNe] at h1; exact h1 h.symm
        · intro h; rw [baEq] at h; rw [baNe] at h1; exact h1 h.symm
    · simp only [Bool.not_true,Bool.false_eq_true,if_false,ih]
      rw [baEq] at h1; subst h1
      rw [List.filter_cons]
      cases h2:d'==c.dir <;> simp only [Bool.false_eq_true,if_false,if_true]
theorem mdel_none {m:SM} {k:ByteArray} (h:R9 m k=none):mdel m k=m:=by
  induction m with
  | nil=>rfl
  | cons e m ih =>
    have h:=mget_none.1 h
    rw [mdel,if_neg (by rw [h e List.mem_cons_self]; decide),ih (mget_none.2 fun x hx=>h x (List.mem_cons_of_mem _ hx))]
theorem K7 {M:DM} {p:ByteArray} (h:J0 M (dirR p)≠0):H5 M p=(J0 M (dirR p),J9 M (dirR p)):=by unfold H5; rw [if_pos h]
theorem K2 {M:DM} {p:ByteArray} (h:J0 M (dirR p)=0):H5 M p=(0,{ J9 M (dirR p) with kept:=(H7 M.changes p).foldl E7 M.kept,changes:=M.changes.filter fun c=>!(p==c.dir) }):=by unfold H5; rw [if_neg (by simpa using h)]
theorem all2_none {α β:Type} {R:α→β→Prop} {l:List β} (h:All2 R [] l):l=[]:=by cases h; rfl
theorem filter_none {l:List Ch} {d:ByteArray} (h:H7 l d=[]):l.filter (fun c=>!(d==c.dir))=l:=by
  unfold H7 at h
  rw [List.map_eq_nil_iff,List.filter_eq_nil_iff] at h
  exact List.filter_eq_self.2 fun c hc=>by have:=h c hc; simpa using this
theorem row_read {Z:List Grp} {ps:List Nat} {qs:List Nat} {ls:List (List Nm)} (h:All2 (QR Z ps) qs ls):∃ (xs:List SM) (xcs:List Nat),xs.length=qs.length∧All2 (fun x l=>(∃ c,MapOk x c)∧ChangeR ps x l) xs ls ∧
    ∀ i,i<qs.length→inZ Z (qs.getD i 0) (.map (B3 (xs.getD i [])) (xcs.getD i 0))∧MapOk (xs.getD i []) (xcs.getD i 0)∧∀ e∈xs.getD i [],e.2.1=.pointer none∨∃ p,e.2.1=.pointer (some ⟨p,0,none⟩):=by
  induction h with
  | nil=>exact ⟨[],[],rfl,.nil,fun i h=>by simp at h⟩
  | cons hq _ ih =>
    obtain ⟨x,c,h1,h2,h3⟩:=hq
    obtain ⟨xs,xcs,e1,e2,e3⟩:=ih
    refine ⟨x::xs,c::xcs,by simp [e1],.cons ⟨⟨c,h2⟩,h3⟩ e2,fun i hi=>?_⟩
    cases i with
    | zero =>
      refine ⟨h1,h2,fun e he=>?_⟩
      obtain ⟨p,v,n⟩:=e
      have:=mget_of h2.nodup he
      rw [h3.look] at this
      obtain ⟨k,_,hk⟩:=Option.map_eq_some_iff.1 this
      simp only
      rw [← hk]
      unfold chV
      split
      · exact .inr ⟨_,rfl⟩
      · exact .inl rfl
    | succ i=>exact e3 i (by simpa using hi)
theorem cSyncDir {s:DS} {M:DM} (h:s.ok M) (hm:Y0 M) (d:Nat) (dir:ByteArray) (hdir:dir.size≤9223372036854775807) (W0:World) (H:List Grp) :
    Tri Tryz.prog 49 #[.pointer (some ⟨d,0,none⟩),.string dir] W0 (s.G d M++H) (Is d (H5 M dir).2 (.int .i64 (H5 M dir).1) H):=by
  have hto:∀ {s:DS} {M:DM} {w:World},Sat W0 (s.G d M++H) w→Sat W0 ([(d,dkO M s)]::[(s.kb,.map (B3 s.km) s.kc)]::[(s.cb,.map (B3 s.cm) s.cc)]::([(s.nb,.map (B3 s.nm) s.nc)]::s.bg::G4 s.bs::(F7 s.rows++(s.Z++H)))) w:=fun hw=>A8 hw fun _ x=>by
    simp only [DS.G,List.cons_append,List.append_assoc]
    simp only [List.flatten_cons,List.flatten_append,List.count_append]
    omega
  have hfrom:∀ {s:DS} {M:DM} {w:World},Sat W0 ([(d,dkO M s)]::[(s.kb,.map (B3 s.km) s.kc)]::[(s.cb,.map (B3 s.cm) s.cc)]::([(s.nb,.map (B3 s.nm) s.nc)]::s.bg::G4 s.bs::(F7 s.rows++(s.Z++H)))) w→Sat W0 (s.G d M++H) w:=fun hw=>A8 hw fun _ x=>by
    simp only [DS.G,List.cons_append,List.append_assoc]
    simp only [List.flatten_cons,List.flatten_append,List.count_append]
    omega
  cases hg:R9 s.cm dir with
  | none =>
    have hrow:=rowOf_none (rows_none h.rows hg)
    have hch:=h.chs dir
    rw [hrow] at hch
    have hch:=all2_none hch
    refine Tri.heap (fun w hw=>hto hw) (Tri.post (vSyncDirNo d s.nb s.kb s.cb s.kc s.cc M.room M.calls (.slice s.ba s.bs.length s.bc) M.fails M.once s.km s.cm dir hdir hm.calls h.kok hg W0 _) fun v H1 hr=>?_)
    rcases hr with ⟨hce,hv,hH⟩ | ⟨hce,hv,hH⟩
    · exact L9 h (dirR dir) (by rw [K7 hce]) (by rw [K7 hce]; exact hv) fun w hw=>by rw [hH] at hw; exact hfrom hw
    · refine L9 h (dirR dir) ?_ (by rw [K2 hce]; exact hv) fun w hw=>?_
      · rw [K2 hce,hch,filter_none hch]; rfl
      · rw [hH,mdel_none hg] at hw; exact hfrom hw
  | some rv =>
    obtain ⟨pre,r,post,c,p1,p2,hrows,hcm,hp1,hpre,hd,hrv,e1,e2⟩:=rows_some h.rows hg
    obtain ⟨ho,hpos⟩:=h.rows.2 r (by rw [hrows]; exact List.mem_append_right _ List.mem_cons_self)
    have hq:=rows_le h hm r (by rw [hrows]; exact List.mem_append_right _ List.mem_cons_self)
    rw [hrv] at ho
    obtain ⟨ra,rc,hra,hrc,hrd⟩:=ho.shape
    have hrow:M7 s.rows dir=r.qs:=by rw [hrows,X2 hpre,M7,hd,if_pos (baEq.2 rfl)]
    have hch:=h.chs dir
    rw [hrow] at hch
    obtain ⟨xs,xcs,x1,x2,x3⟩:=row_read hch
    have hin:∀ y o,inZ s.Z y o→At W0 ([(s.nb,.map (B3 s.nm) s.nc)]::s.bg::G4 s.bs::(F7 s.rows++(s.Z++H))) y o:=fun y o hy=>.cons (.cons (.cons (at_app2 (.inr (by rw [List.flatten_append]; exact List.mem_append_left _ hy)))))
    refine Tri.heap (fun w hw=>hto hw) (Tri.post (vSyncDir d s.nb s.kb s.cb s.kc s.cc M.room M.calls (.slice s.ba s.bs.length s.bc) M.fails M.once s.km s.cm dir hdir hm.calls h.kok ra rc (inG r.g) r.qs xs xcs x1 hq hrd (by rw [hg,hra]) W0 _ (fun y o hy=>.cons (.cons (.cons (at_app (At.mem (g:=r.g) (by rw [hrows]; simp [F7]) hy))))) (fun i hi=>⟨hin _ _ (x3 i hi).1,(x3 i hi).2⟩)) fun v H1 hr=>?_)
    rcases hr with ⟨hce,hv,hH⟩ | ⟨hce,hv,km1,kc1,hmade,hH⟩
    · exact L9 h (dirR dir) (by rw [K7 hce]) (by rw [K7 hce]; exact hv) fun w hw=>by rw [hH] at hw; exact hfrom hw
    · have hdel:mdel s.cm dir=p1++p2:=by
        rw [hcm]
        clear hcm e1
        induction p1 with
        | nil=>rw [List.nil_append,mdel,if_pos (baEq.2 rfl)]; rfl
        | cons e p1 ih =>
          rw [List.cons_append,mdel,if_neg (by rw [hp1 e List.mem_cons_self]; decide),ih fun x hx=>hp1 x (List.mem_cons_of_mem _ hx)]; rfl
      have hpost:∀ x∈post,(dir==x.dir)=false:=by
        have hn:=h.cok.nodup
        rw [hcm,List.map_append,List.map_cons,List.nodup_append,List.nodup_cons] at hn
        intro x hx
        rw [baNe]
        intro he
        refine hn.2.1.1 ?_
        have:(x.dir,x.v)∈p2.map (fun e=>(e.1,e.2.1)):=by rw [e2]; exact List.mem_map.2 ⟨x,hx,rfl⟩
        obtain ⟨e,he1,he2⟩:=List.mem_map.1 this
        injection he2 with he2 _
        exact List.mem_map.2 ⟨e,he1,by rw [he2,← he]⟩
      refine ⟨_,⟨by rw [K2 hce]; exact hv,{ s with km:=km1,kc:=kc1,cm:=mdel s.cm dir,rows:=pre++post,Z:=r.g::s.Z },?_,rfl⟩,fun w hw=>?_⟩
      · rw [K2 hce]
        refine ⟨h.own,h.nok,made_ok (s:=(s.km,s.kc)) (s':=(km1,kc1)) hmade h.kok,h.cok.del _,h.names,names_made h.kept h.kok x2 hmade,⟨?_,fun x hx=>?_⟩,fun d'=>?_,h.bods.imp fun b B hb=>hb.mono fun y o h=>inZ_app (K:=[r.g]) h⟩
        · show (mdel s.cm dir).map _=_
          rw [hdel,List.map_append,List.map_append,e1,e2]
        · refine h.rows.2 x ?_
          rw [hrows]
          rcases List.mem_append.1 hx with hx | hx
          · exact List.mem_append_left _ hx
          · exact List.mem_append_right _ (List.mem_cons_of_mem _ hx)
        · have hold:=(h.chs d').imp fun q l hq=>qr_mono (K:=[r.g]) hq
          show All2 (QR ([r.g]++s.Z) (A0e s.bs)) (M7 (pre++post) d') (H7 (M.changes.filter fun c=>!(dir==c.dir)) d')
          rw [chOf_filter]
          cases hk:d'==dir
          · simp only [Bool.false_eq_true,if_false]
            rw [hrows] at hold
            have:M7 (pre++post) d'=M7 (pre++r::post) d':=rowOf_app' (by rw [M7,hd,hk]; rfl)
            rw [this]; exact hold
          · simp only [if_true]
            rw [baEq] at hk; subst hk
            rw [rowOf_none fun x hx=>by rcases List.mem_append.1 hx with hx | hx; exact hpre x hx; exact hpost x hx]
            exact .nil
      · rw [hH] at hw
        rw [K2 hce]
        refine A8 hw fun _ x=>?_
        simp only [DS.G,dkO,J9,dirR,hrows,F7,List.map_append,List.map_cons,List.cons_append,List.append_assoc]
        simp only [List.flatten_cons,List.flatten_append,List.count_append]
        omega
end Go.Vf
namespace Go.Vf
open Go.Sw Go.RowKit Go.Proofs Go.Proofs.YtdolpaagdpeagaaGreatDoor
def S1:List BE→KS→List BE × KS
  | [],k=>([],k)
  | b::r,k=>((T2 b k).1::(S1 r (T2 b k).2).1,(S1 r (T2 b k).2).2)
theorem crashL_len:∀ (l:List BE) (k:KS),(S1 l k).1.length=l.length
  | [],_=>rfl
  | b::r,k=>by rw [S1,List.length_cons,crashL_len r,List.length_cons]
theorem crashL_snoc (b:BE):∀ (l:List BE) (k:KS),S1 (l++[b]) k=((S1 l k).1++[(T2 b (S1 l k).2).1],(T2 b (S1 l k).2).2)
  | [],_=>rfl
  | x::r,k=>by rw [List.cons_append,S1,crashL_snoc b r]; rfl
theorem stB_L (bs:List BE) (k:KS):∀ j:Nat,j≤bs.length→stB bs k j=((S1 (bs.take j) k).1++bs.drop j,(S1 (bs.take j) k).2)
  | 0,_=>rfl
  | j+1,h=>by
    have hj:j<bs.length:=h
    rw [stB,stB_at bs k j j (Nat.le_refl _),stB_L bs k j (by omega),take_snoc (d:=default) hj,crashL_snoc]
    have hd:bs.drop j=bs.getD j default::bs.drop (j+1):=by
      rw [List.getD_eq_getElem?_getD,List.getElem?_eq_getElem hj,List.drop_eq_getElem_cons hj]; rfl
    have hl:(S1 (bs.take j) k).1.length=j:=by rw [crashL_len,List.length_take]; omega
    rw [hd,List.set_append_right _ _ (by omega),hl,Nat.sub_self]
    simp
theorem crashL_p:∀ (l:List BE) (k:KS),A0e (S1 l k).1=A0e l
  | [],_=>rfl
  | b::r,k=>by
    have:=crashL_p r (T2 b k).2
    unfold A0e at this ⊢
    rw [S1,List.map_cons,List.map_cons,this]
    congr 1
    unfold T2
    split <;> rfl
theorem extract_u8s (x:ByteArray) (m:Nat):u8s (x.extract 0 m).data.toList=(u8s x.data.toList).take m:=by
  unfold u8s
  rw [← List.map_take]
  congr 1
  rw [ByteArray.data_extract,Array.toList_extract]
  simp [List.extract]
theorem crash1_r {S:Nat→Obj→Prop} {b:BE} {B:Body} (h:BodyR S b B) (k:KS) (hkm:B.kept.size≤B.now.size) :
    BodyR S (T2 b k).1 (if (B.now.size:Int) - (B.kept.size:Int) > 0 then ⟨B.now.extract 0 (B.kept.size+(E3 (k.l.headD 0) ((B.now.size:Int) - (B.kept.size:Int)+1)).toNat),B.now.extract 0 (B.kept.size+(E3 (k.l.headD 0) ((B.now.size:Int) - (B.kept.size:Int)+1)).toNat)⟩ else ⟨B.kept,B.kept⟩) ∧
    (T2 b k).2.l=if (B.now.size:Int) - (B.kept.size:Int) > 0 then k.l.drop 1 else k.l:=by
  have hn:=h.n
  have hm:=h.m
  unfold T2
  by_cases hc:(b.n:Int) - (b.m:Int) > 0
  · have hc':(B.now.size:Int) - (B.kept.size:Int) > 0:=by omega
    rw [if_pos hc,if_pos hc',if_pos hc']
    obtain ⟨q0,q1⟩:=A0h (k:=k.l.headD 0) (n:=(b.n:Int) - (b.m:Int)+1) (by omega)
    have e1:(B.now.size:Int) - (B.kept.size:Int)+1=(b.n:Int) - (b.m:Int)+1:=by omega
    rw [e1]
    have e2:B.kept.size+(E3 (k.l.headD 0) ((b.n:Int) - (b.m:Int)+1)).toNat=Int.toNat ((b.m:Int)+E3 (k.l.headD 0) ((b.n:Int) - (b.m:Int)+1)) - Int.toNat 0:=by
      have:Int.toNat 0=0:=rfl
      omega
    rw [e2]
    have e3:Int.toNat ((b.m:Int)+E3 (k.l.headD 0) ((b.n:Int) - (b.m:Int)+1)) - Int.toNat 0≤b.n:=by
      have:Int.toNat 0=0:=rfl
      omega
    have hcn:=h.cn
    have hlen:(u8s B.now.data.toList).length=b.n:=by rw [u8s_len,hn]; exact Array.length_toList
    have hrd:=rd_cut0 h.now (m:=Int.toNat ((b.m:Int)+E3 (k.l.headD 0) ((b.n:Int) - (b.m:Int)+1)) - Int.toNat 0) (c:=b.cn) (by rw [hlen]; exact e3) (by rw [hlen]; exact hcn)
    rw [← extract_u8s] at hrd
    have hsz:(B.now.extract 0 (Int.toNat ((b.m:Int)+E3 (k.l.headD 0) ((b.n:Int) - (b.m:Int)+1)) - Int.toNat 0)).size=Int.toNat ((b.m:Int)+E3 (k.l.headD 0) ((b.n:Int) - (b.m:Int)+1)) - Int.toNat 0:=by
      rw [ByteArray.size_extract]; omega
    have han:(I9 b.an b.cn (Int.toNat 0) 1=none∧Int.toNat ((b.m:Int)+E3 (k.l.headD 0) ((b.n:Int) - (b.m:Int)+1)) - Int.toNat 0=0∧b.cn - Int.toNat 0=0)∨∃ q off,I9 b.an b.cn (Int.toNat 0) 1=some ⟨q,off,none⟩:=by
      rcases h.an with ⟨h1,h2,_⟩ | ⟨q,off,h1⟩
      · omega
      · refine .inr ⟨q,off,?_⟩
        rw [h1]
        unfold I9
        split
        · rfl
        · simp [L5]
    have hcm:Int.toNat ((b.m:Int)+E3 (k.l.headD 0) ((b.n:Int) - (b.m:Int)+1)) - Int.toNat 0≤b.cn - Int.toNat 0:=by
      have:Int.toNat 0=0:=rfl
      omega
    exact ⟨⟨hsz.symm,hcm,han,hrd,hsz.symm,hcm,han,hrd⟩,rfl⟩
  · have hc':¬ (B.now.size:Int) - (B.kept.size:Int) > 0:=by omega
    rw [if_neg hc,if_neg hc',if_neg hc']
    exact ⟨⟨h.m,h.cm,h.am,h.kept,h.m,h.cm,h.am,h.kept⟩,rfl⟩
theorem crashL_r {S:Nat→Obj→Prop} {bs:List BE} {Bs:List Body} (h:All2 (BodyR S) bs Bs) (hk:∀ B∈Bs,B.kept.size≤B.now.size):∀ k:KS,All2 (BodyR S) (S1 bs k).1 (O8 Bs k.l).1∧(S1 bs k).2.l=(O8 Bs k.l).2:=by
  induction h with
  | nil=>intro k; exact ⟨.nil,rfl⟩
  | @cons b B bs Bs hb _ ih =>
    intro k
    obtain ⟨h1,h2⟩:=crash1_r hb k (hk _ List.mem_cons_self)
    obtain ⟨h3,h4⟩:=ih (fun B hB=>hk B (List.mem_cons_of_mem _ hB)) (T2 b k).2
    rw [S1,O8]
    split
    · rename_i hc
      rw [if_pos hc] at h1 h2
      rw [h2] at h3 h4
      exact ⟨.cons h1 h3,h4⟩
    · rename_i hc
      rw [if_neg hc] at h1 h2
      rw [h2] at h3 h4
      exact ⟨.cons h1 h3,h4⟩
theorem crashB_size {n:Nat}:∀ {Bs:List Body} {ks:List Int},(∀ B∈Bs,B.now.size≤n∧B.kept.size≤B.now.size)→∀ B∈(O8 Bs ks).1,B.now.size≤n∧B.kept.size=B.now.size
  | [],_,_,B,hB=>by cases hB
  | x::r,ks,h,B,hB=>by
    obtain ⟨h1,h2⟩:=h x List.mem_cons_self
    have ih:=fun ks=>crashB_size (n:=n) (Bs:=r) (ks:=ks) fun B hB=>h B (List.mem_cons_of_mem _ hB)
    rw [O8] at hB
    split at hB
    · rcases List.mem_cons.1 hB with rfl | hB
      · exact ⟨by simp only [ByteArray.size_extract]; omega,rfl⟩
      · exact ih _ B hB
    · rcases List.mem_cons.1 hB with rfl | hB
      · exact ⟨by show x.kept.size≤n; omega,rfl⟩
      · exact ih _ B hB
theorem crashB_len:∀ {Bs:List Body} {ks:List Int},(O8 Bs ks).1.length=Bs.length
  | [],_=>rfl
  | x::r,ks=>by
    rw [O8]
    split <;> rw [List.length_cons,crashB_len,List.length_cons]
theorem All2.mem {α β:Type} {R:α→β→Prop} {l:List α} {m:List β} (h:All2 R l m) {a:α} (ha:a∈l):∃ b∈m,R a b:=by
  induction h with
  | nil=>cases ha
  | cons hab _ ih =>
    rcases List.mem_cons.1 ha with rfl | ha
    · exact ⟨_,List.mem_cons_self,hab⟩
    · obtain ⟨b,hb,hr⟩:=ih ha
      exact ⟨b,List.mem_cons_of_mem _ hb,hr⟩
theorem once_mem {x:ByteArray}:∀ {l:List ByteArray},x∈onceL l ↔ x∈l
  | []=>Iff.rfl
  | y::r=>by
    rw [onceL]
    split
    · rename_i h
      rw [once_mem,List.mem_cons]
      constructor
      · exact .inr
      · rintro (rfl | h2)
        · exact once_mem.1 h
        · exact h2
    · rw [List.mem_cons,List.mem_cons,once_mem]
theorem once_nodup:∀ (l:List ByteArray),(onceL l).Nodup
  | []=>List.nodup_nil
  | y::r=>by
    rw [onceL]
    split
    · exact once_nodup r
    · rename_i h; exact List.nodup_cons.2 ⟨h,once_nodup r⟩
theorem once_le:∀ (l:List ByteArray),(onceL l).length≤l.length
  | []=>Nat.le_refl _
  | y::r=>by
    have:=once_le r
    rw [onceL]
    split <;> simp <;> omega
theorem chOf_ne {l:List Ch} {d:ByteArray}:H7 l d≠[] ↔ d∈l.map (·.dir):=by
  unfold H7
  constructor
  · intro h
    obtain ⟨x,hx⟩:=List.exists_mem_of_ne_nil _ h
    obtain ⟨c,hc,_⟩:=List.mem_map.1 hx
    obtain ⟨h1,h2⟩:=List.mem_filter.1 hc
    rw [baEq] at h2
    exact List.mem_map.2 ⟨c,h1,h2.symm⟩
  · intro h
    obtain ⟨c,hc,rfl⟩:=List.mem_map.1 h
    intro he
    rw [List.map_eq_nil_iff,List.filter_eq_nil_iff] at he
    exact he c hc (by simp)
theorem rowOf_ne {rows:List RW} (h:∀ r∈rows,0<r.qs.length) {d:ByteArray}:M7 rows d≠[] ↔ d∈rows.map (·.dir):=by
  induction rows with
  | nil=>simp [M7]
  | cons r rows ih =>
    rw [M7,List.map_cons,List.mem_cons]
    split
    · rename_i hk
      rw [baEq] at hk
      have:=h r List.mem_cons_self
      constructor
      · intro _; exact .inl hk
      · intro _ he; rw [he] at this; simp at this
    · rename_i hk
      rw [ih fun x hx=>h x (List.mem_cons_of_mem _ hx)]
      constructor
      · exact .inr
      · rintro (rfl | h2)
        · exact absurd (baEq.2 rfl) hk
        · exact h2
theorem rows_keys {s:DS} {M:DM} (h:s.ok M):s.cm.map Prod.fst=s.rows.map (·.dir):=by
  have h1:(s.cm.map (fun e=>(e.1,e.2.1))).map Prod.fst=(s.rows.map (fun r=>(r.dir,r.v))).map Prod.fst:=by rw [h.rows.1]
  rw [List.map_map,List.map_map] at h1
  exact h1
theorem keys_perm {s:DS} {M:DM} (h:s.ok M):(s.cm.map Prod.fst).Perm (onceL (M.changes.map (·.dir))):=by
  refine (List.perm_ext_iff_of_nodup h.cok.nodup (once_nodup _)).2 fun d=>?_
  rw [once_mem,← chOf_ne,rows_keys h,← rowOf_ne fun r hr=>(h.rows.2 r hr).2]
  have:=(h.chs d).len
  constructor
  · intro h1 h2
    rw [h2] at this
    exact h1 (List.eq_nil_of_length_eq_zero this)
  · intro h1 h2
    rw [h2] at this
    exact h1 (List.eq_nil_of_length_eq_zero this.symm)
theorem crash_names {ps:List Nat} {rows:ByteArray→RowC} {l:List Ch}:∀ {ds:List ByteArray} {km km1:SM} {kc kc1:Nat} {ks ks1:KS} {names:List Nm},
    (∀ d∈ds,All2 (fun x l=>(∃ c,MapOk x c)∧ChangeR ps x l) (rows d).xs (H7 l d)∧(rows d).qs.length=(H7 l d).length)→NamesR ps km names→MapOk km kc →
    CrashK rows ds ((km,kc),ks) ((km1,kc1),ks1)→NamesR ps km1 (Q8 l ds ks.l names)∧MapOk km1 kc1
  | [],_,_,_,_,_,_,_,_,hn,ho,hc=>by
    injection (show (_,_)=(_,_) from hc) with e1 e2
    injection e1 with e3 e4
    subst e3 e4
    exact ⟨hn,ho⟩
  | d::ds,km,km1,kc,kc1,ks,ks1,names,hr,hn,ho,⟨s1,hm,hc⟩=>by
    obtain ⟨h1,h2⟩:=hr d List.mem_cons_self
    obtain ⟨m1,c1⟩:=s1
    have e:keptN (rows d) ks=(E3 (ks.l.headD 0) (((H7 l d).length:Int)+1)).toNat:=by unfold keptN; rw [h2]
    have h3:=names_made hn ho (h1.take (keptN (rows d) ks)) hm
    rw [e] at h3
    exact crash_names (ds:=ds) (fun d' hd'=>hr d' (List.mem_cons_of_mem _ hd')) h3 (made_ok (s:=(km,kc)) (s':=(m1,c1)) hm ho) hc
theorem cCrash {s:DS} {M:DM} (h:s.ok M) (hm:Y0 M) (d:Nat) (ks:KS) (S0:Nat→Obj→Prop) (hks:KsOk S0 ks) (W0:World) (H:List Grp) (hS0:∀ y o,S0 y o→At W0 H y o) :
    Tri Tryz.prog 17 #[.pointer (some ⟨d,0,none⟩),.slice ks.a ks.l.length ks.c] W0 (s.G d M++H) (Is d (N3 M ks.l) (.tuple #[]) H):=by
  have hlen:=h.bods.len
  have hmb:=hm.bodies
  have hkp:=keys_perm h
  have hrd:∀ d',∃ r:RowC,d'∈s.cm.map Prod.fst→RowOk (fun y o=>S0 y o∨inG s.bg y o∨(y,o)∈(F7 s.rows).flatten) W0 ([(s.nb,.map (B3 s.nm) s.nc)]::s.bg::(F7 s.rows++(s.Z++H))) s.cm d' r∧All2 (fun x l=>(∃ c,MapOk x c)∧ChangeR (A0e s.bs) x l) r.xs (H7 M.changes d')∧r.qs.length=(H7 M.changes d').length:=by
    intro d'
    by_cases hd:d'∈s.cm.map Prod.fst
    · obtain ⟨⟨k,rv,c⟩,he,rfl⟩:=List.mem_map.1 hd
      have hg:=mget_of h.cok.nodup he
      obtain ⟨pre,r,post,c,p1,p2,hrows,hcm,hp1,hpre,hdd,hrv,e1,e2⟩:=rows_some h.rows hg
      have hmem:r∈s.rows:=by rw [hrows]; exact List.mem_append_right _ List.mem_cons_self
      obtain ⟨ho,hpos⟩:=h.rows.2 r hmem
      have hq:=rows_le h hm r hmem
      rw [hrv] at ho
      obtain ⟨ra,rc,hra,hrc,hrd⟩:=ho.shape
      have hrow:M7 s.rows k=r.qs:=by rw [hrows,X2 hpre,M7,hdd,if_pos (baEq.2 rfl)]
      have hch:=h.chs k
      rw [hrow] at hch
      obtain ⟨xs,xcs,x1,x2,x3⟩:=row_read hch
      refine ⟨⟨ra,rc,r.qs,xs,xcs⟩,fun _=>⟨⟨?_,hrd.mono fun y o hy=>.inr (.inr (List.mem_flatten.2 ⟨r.g,List.mem_map.2 ⟨r,hmem,rfl⟩,hy⟩)),x1,hq,hrc,fun i hi=>⟨?_,(x3 i hi).2⟩⟩,x2,hch.len⟩⟩
      · rw [show R9 s.cm k=some rv from hg,hra]
      · exact .cons (.cons (at_app2 (.inr (by rw [List.flatten_append]; exact List.mem_append_left _ (x3 i hi).1))))
    · exact ⟨⟨none,0,[],[],[]⟩,fun h=>absurd h hd⟩
  have hbn:∀ b∈s.bs,b.n≤b.cn∧b.n≤1000000000∧b.m≤b.n:=fun b hb=>by
    obtain ⟨B,hB,hr⟩:=h.bods.mem hb
    have:=hm.size B hB
    have h1:=hr.n
    have h2:=hr.m
    exact ⟨hr.cn,by omega,by omega⟩
  obtain ⟨ra,rc,hra,_,hrb⟩:=h.own.shape
  injection hra with e1 e2 e3
  subst e1
  have hcs:∀ e∈s.cm,e.1.size≤9223372036854775807:=fun e he=>by
    have h1:e.1∈M.changes.map (·.dir):=once_mem.1 (hkp.mem_iff.1 (List.mem_map.2 ⟨e,he,rfl⟩))
    obtain ⟨c,hc,h2⟩:=List.mem_map.1 h1
    have:=hm.dirs c hc
    rw [← h2]; omega
  have hcl:s.cm.length≤1000000000:=by
    have h1:=hkp.length_eq
    rw [List.length_map] at h1
    have h2:=once_le (M.changes.map (·.dir))
    rw [List.length_map] at h2
    have:=hm.changes
    omega
  have hto:∀ {w:World},Sat W0 (s.G d M++H) w→Sat W0 ([(d,dkO M s)]::G4 s.bs::[(s.kb,.map (B3 s.km) s.kc)]::[(s.cb,.map (B3 s.cm) s.cc)]::([(s.nb,.map (B3 s.nm) s.nc)]::s.bg::(F7 s.rows++(s.Z++H)))) w:=fun hw=>A8 hw fun _ x=>by
    simp only [DS.G,List.cons_append,List.append_assoc]
    simp only [List.flatten_cons,List.flatten_append,List.count_append]
    omega
  refine Tri.heap (fun w hw=>hto hw) (Tri.post (vCrash d s.nb s.kb s.cb s.kc s.cc M.room M.calls M.fails M.once s.km s.cm s.bs s.ba s.bc ks (fun d'=>Classical.choose (hrd d')) (fun y o=>S0 y o∨inG s.bg y o∨(y,o)∈(F7 s.rows).flatten) ⟨hks.1.mono fun _ _=>.inl,hks.2⟩ (by omega) hbn (hrb.mono fun _ _ hy=>.inr (.inl hy)) h.kok h.cok hcs hcl W0 ([(s.nb,.map (B3 s.nm) s.nc)]::s.bg::(F7 s.rows++(s.Z++H))) (fun y o hy=>?_) (fun d' hd'=>(Classical.choose_spec (hrd d') hd').1)) fun v H1 hr=>?_)
  · rcases hy with hy | hy | hy
    · exact .cons (.cons (at_app2 (at_app2 (hS0 y o hy))))
    · exact .cons (At.mem List.mem_cons_self hy)
    · exact .cons (.cons (at_app (.inr hy)))
  · obtain ⟨hv,b,b2,km1,kc1,ks1,hk,hH⟩:=hr
    rw [stB_L s.bs ks s.bs.length (Nat.le_refl _),List.take_length,List.drop_length,List.append_nil] at hk hH
    obtain ⟨hb1,hb2⟩:=crashL_r h.bods (fun B hB=>(hm.size B hB).2) ks
    have hds:R1 (s.cm.map Prod.fst)=dirsOf M.changes:=sortB_congr hkp
    obtain ⟨hN,hO⟩:=crash_names (l:=M.changes) (fun d' hd'=>(Classical.choose_spec (hrd d') ((L8 _).mem_iff.1 hd')).2) h.kept h.kok hk
    simp only at hN
    rw [hds,hb2] at hN
    have hps:=crashL_p s.bs ks
    have h0:MapOk [] 0:=⟨List.Pairwise.nil,List.nodup_nil,fun _ h=>absurd h List.not_mem_nil⟩
    refine ⟨_,⟨hv,⟨b,s.kb,b2,km1,km1,[],kc1,kc1,0,s.ba,s.bc,s.bg,(S1 s.bs ks).1,[],[(s.nb,.map (B3 s.nm) s.nc)]::(F7 s.rows++s.Z)⟩,⟨?_,hO,hO,h0,?_,?_,⟨rfl,fun _ h=>absurd h List.not_mem_nil⟩,fun _=>.nil,?_⟩,rfl⟩,fun w hw=>?_⟩
    · have e1:∀ l:List BE,l.map (fun b=>Value.pointer (some ⟨b.p,0,none⟩))=(A0e l).map fun p=>Value.pointer (some ⟨p,0,none⟩):=fun l=>by unfold A0e; rw [List.map_map]; rfl
      simp only [crashL_len]
      rw [e1,hps,← e1]; exact h.own
    · rw [hps]; exact hN
    · rw [hps]; exact hN
    · exact hb1.imp fun b B hb=>hb.mono fun y o hy=>by
        show (y,o)∈List.flatten ([(s.nb,.map (B3 s.nm) s.nc)]::(F7 s.rows++s.Z))
        rw [List.flatten_cons,List.flatten_append]
        exact List.mem_append_right _ (List.mem_append_right _ hy)
    · rw [hH] at hw
      refine A8 hw fun _ x=>?_
      simp only [DS.G,dkO,N3,crashL_len,F7,List.map_nil,List.cons_append,List.append_assoc,List.nil_append]
      simp only [List.flatten_cons,List.flatten_append,List.count_append]
      omega
end Go.Vf
namespace Go.Sw
open Go.RowKit
theorem K6 {d:Bool} {P:Program} {ops:Array Oper} {i:Nat} {Q:D7} {n:Fr} {E:Env} {W0:World} {H:List Grp} {o:Oper} {ch:List (Nat × Bool)} {src dst e:TypeId} {x:Operand} {a:Option Addr} {cap:Nat} {S:Nat→Obj→Prop} (b:ByteArray)
    (ho:ops[i]? = some o:=by exact rfl) (hop:o.op=.convert src dst x:=by exact rfl) (hx:evO E ch x=some (.slice a b.size cap):=by kernel_rfl) (hs:P.underlying src=some (.slice e):=by kernel_rfl) (he:P.underlying e=some (.int .u8):=by kernel_rfl) (hds:P.underlying dst=some .string:=by kernel_rfl)
    (hch:D4 ops E o.guard=some ch:=by kernel_rfl) (hd:F5 n ch o.dst=true:=by kernel_rfl) (hk:J3 E ch=true:=by kernel_rfl)
    (hrd:Rd S a (u8s b.data.toList)) (hS:∀ b o,S b o→At W0 H b o)
    (k:GL d P ops (i+1) Q n (Env.put E o.dst ch (.string b)) W0 H):GL d P ops i Q n E W0 H:=by
  cases a with
  | some a =>
    refine GL_bytesStr (cap:=cap) b.data.toList ho hop ?_ hs he hds hch hd hk hrd hS ?_
    · rw [hx,show b.data.toList.length=b.size from Array.length_toList]
    · have:(⟨b.data.toList.toArray⟩:ByteArray)=b:=by cases b; simp
      rw [this]; exact k
  | none =>
    have h0:b=ByteArray.empty:=by
      rcases hrd with h | ⟨_,_,_,_,_,h,_⟩
      · have h1:=congrArg List.length h
        unfold u8s at h1
        rw [List.length_map] at h1
        cases b with | mk d =>
        have:d=#[]:=Array.eq_empty_of_size_eq_zero (by simpa using h1)
        rw [this]; rfl
      · cases h
    refine I2 ho hch hd hk (fun r hr _ w _=>?_) k
    unfold execOp
    simp only [hop]
    rw [hr _ _ hx,h0]
    have:=run_convert_bytes_string (P:=P) w src dst e none ByteArray.empty.size cap hs he hds
    simp only [Sem.run_bind,this]
    exact ⟨rfl,rfl⟩
end Go.Sw
namespace Go.Sw
theorem frozen_end {w:World} {b:Nat} {c:Array Value} {e:TypeId} (h:w.heap[b]? = some (.cells c e (0,0))):Wr b (.cells c e (c.size,c.size+1)) w (w.freeze ⟨b,c.size,none⟩ 1):=by
  have hlt:b<w.heap.size:=by
    rcases Nat.lt_or_ge b w.heap.size with h' | h'
    · exact h'
    · rw [Array.getElem?_eq_none h'] at h; cases h
  have hb:w.heap[b]=.cells c e (0,0):=by rw [Array.getElem?_eq_getElem hlt] at h; exact Option.some.inj h
  unfold World.freeze
  rw [if_neg (by decide)]
  refine ⟨rfl,rfl,rfl,Array.size_modify,?_,fun k hk=>?_⟩
  · show (w.heap.modify b _)[b]? = _
    rw [Array.getElem?_modify,if_pos rfl,h]
    rfl
  · show (w.heap.modify b _)[k]? = _
    rw [Array.getElem?_modify,if_neg (by omega)]
theorem GL_sameBytes {P:Program} {ops:Array Oper} {i:Nat} {Q:D7} {n:Fr} {E:Env} {W0:World} {H H':List Grp} {o:Oper} {ch:List (Nat × Bool)} {t e:TypeId} {x:Operand} {b off l cap:Nat} {c:Array Value} {e':TypeId} {g:Grp} {j m:Nat}
    (ho:ops[i]? = some o) (hop:o.op=.convert t t x) (hx:evO E ch x=some (.slice (some ⟨b,off,none⟩) l cap)) (ht:P.underlying t=some (.slice e)) (he:P.underlying e=some (.int .u8))
    (hch:D4 ops E o.guard=some ch) (hd:F5 n ch o.dst=true) (hsure:N9 E ch=true)
    (hj:H[j]? = some g) (hi:g[m]? = some (b,.cells c e' (0,0))) (hH':H.set j (g.set m (b,.cells c e' (c.size,c.size+1)))=H')
    (k:GL false P ops (i+1) Q n (Env.put E o.dst ch (.slice (some ⟨b,off,none⟩) l cap)) W0 H'):GL false P ops i Q n E W0 H:=by
  refine Z1 (R:=fun v H1=>v=.slice (some ⟨b,off,none⟩) l cap∧H1=H') ho hch hd hsure (fun r hr w hs=>?_) (by rintro v H1 ⟨rfl,rfl⟩; exact k)
  have hblk:=hs.has _ (List.mem_flatten.2 ⟨g,List.mem_of_getElem? hj,List.mem_of_getElem? hi⟩)
  have hw:=frozen_end hblk
  have hsh:w.shape? b=some (e',c.size):=by unfold World.shape?; rw [hblk]
  refine ⟨_,w.freeze ⟨b,c.size,none⟩ 1,H',⟨rfl,rfl⟩,?_,.inl ?_⟩
  · have:=hs.wr hj hi hw
    rw [hH'] at this; exact this
  · unfold execOp
    simp only [hop]
    rw [hr _ _ hx]
    simp [convert,run_underlying ht,run_underlying he,markStringish,hsh]
end Go.Sw
namespace Go.Vf
open Go.Sw Go.RowKit Go.Proofs Go.Proofs.YtdolpaagdpeagaaGreatDoor
def IsK (K:List Grp) (d:Nat) (M:DM) (v0:Value) (H:List Grp):Value→List Grp→Prop:=fun v H'=>v=v0∧∃ s:DS,s.ok M∧H'=K++(s.G d M++H)
theorem A0k {K X H:List Grp} {W0:World} {w:World} (hw:Sat W0 (K++(X++H)) w):Sat W0 (X++(K++H)) w:=A8 hw fun _ x=>by
  simp only [List.flatten_append,List.count_append]; omega
theorem A0j {f:FuncId} {args:Array Value} {W0:World} {s:DS} {d:Nat} {M M':DM} {v0:Value} {K H:List Grp} (h:Tri Tryz.prog f args W0 (s.G d M++(K++H)) (Is d M' v0 (K++H))):Tri Tryz.prog f args W0 (K++(s.G d M++H)) (IsK K d M' v0 H) :=
  Tri.heap (fun _ hw=>A0k hw) (Tri.post h fun v H1 ⟨hv,s',hs,hH⟩=>⟨_,⟨hv,s',hs,rfl⟩,fun w hw=>by rw [hH] at hw; exact A0k hw⟩)
theorem BytesV.up {W0:World} {H:List Grp} {v:Value} {b:ByteArray} (h:BytesV W0 [] v b):BytesV W0 H v b:=by
  obtain ⟨a,cap,S,h1,h2,h3,h4⟩:=h
  refine ⟨a,cap,S,h1,h2,h3,fun y o hy=>?_⟩
  rcases h4 y o hy with h | h
  · exact .inl h
  · cases h
theorem at_up {W0:World} {H:List Grp} {y:Nat} {o:Obj} (h:At W0 [] y o):At W0 H y o:=by
  rcases h with h | h
  · exact .inl h
  · cases h
structure BytesA (W0:World) (H:List Grp) (a:Option Addr) (c:Nat) (S:Nat→Obj→Prop) (b:ByteArray):Prop where
  sh:Sh a b.size c
  rd:Rd S a (u8s b.data.toList)
  at_:∀ y o,S y o→At W0 H y o
theorem BytesA.v {W0:World} {H:List Grp} {a:Option Addr} {c:Nat} {S:Nat→Obj→Prop} {b:ByteArray} (h:BytesA W0 H a c S b):BytesV W0 H (.slice a b.size c) b:=⟨a,c,S,rfl,h.sh,h.rd,h.at_⟩
theorem dWrite {s:DS} {M M':DM} {e:Int} (h:s.ok M) (hm:Y0 M) (d:Nat) (path b:ByteArray) (hpath:path.size≤9223372036854775807) (hb:b.size≤1000000000) (K:List Grp) (W0:World) (H:List Grp) {bv:Value} (hbv:BytesV W0 (K++H) bv b) (he:E5 M path b=(e,M')) :
    Tri Tryz.prog 76 #[.pointer (some ⟨d,0,none⟩),.string path,bv] W0 (K++(s.G d M++H)) (IsK K d M' (.int .i64 e) H):=by
  have:=cWrite h hm d path b hpath hb W0 (K++H) hbv
  rw [he] at this
  exact A0j this
theorem dSync {s:DS} {M M':DM} {e:Int} (h:s.ok M) (hm:Y0 M) (d:Nat) (path:ByteArray) (hpath:path.size≤9223372036854775807) (K:List Grp) (W0:World) (H:List Grp) (he:N5 M path=(e,M')) :
    Tri Tryz.prog 77 #[.pointer (some ⟨d,0,none⟩),.string path] W0 (K++(s.G d M++H)) (IsK K d M' (.int .i64 e) H):=by
  have:=cSync h hm d path hpath W0 (K++H)
  rw [he] at this
  exact A0j this
theorem dRemove {s:DS} {M M':DM} {e:Int} (h:s.ok M) (hm:Y0 M) (d:Nat) (path:ByteArray) (hpath:path.size≤9223372036854775807) (K:List Grp) (W0:World) (H:List Grp) (he:J6 M path=(e,M')) :
    Tri Tryz.prog 42 #[.pointer (some ⟨d,0,none⟩),.string path] W0 (K++(s.G d M++H)) (IsK K d M' (.int .i64 e) H):=by
  have:=cRemove h hm d path hpath W0 (K++H)
  rw [he] at this
  exact A0j this
theorem dSyncDir {s:DS} {M M':DM} {e:Int} (h:s.ok M) (hm:Y0 M) (d:Nat) (path:ByteArray) (hpath:path.size≤9223372036854775807) (K:List Grp) (W0:World) (H:List Grp) (he:H5 M path=(e,M')) :
    Tri Tryz.prog 49 #[.pointer (some ⟨d,0,none⟩),.string path] W0 (K++(s.G d M++H)) (IsK K d M' (.int .i64 e) H):=by
  have:=cSyncDir h hm d path hpath W0 (K++H)
  rw [he] at this
  exact A0j this
theorem dRename {s:DS} {M M':DM} {e:Int} (h:s.ok M) (hm:Y0 M) (d:Nat) (path to:ByteArray) (hpath:path.size≤9223372036854775807) (hto:to.size≤9223372036854775807) (K:List Grp) (W0:World) (H:List Grp) (he:H9 M path to=(e,M')) :
    Tri Tryz.prog 52 #[.pointer (some ⟨d,0,none⟩),.string path,.string to] W0 (K++(s.G d M++H)) (IsK K d M' (.int .i64 e) H):=by
  have:=cRename h hm d path to hpath hto W0 (K++H)
  rw [he] at this
  exact A0j this
theorem dFail {s:DS} {M M':DM} (h:s.ok M) (d:Nat) (n:Int) (o:Bool) (K:List Grp) (W0:World) (H:List Grp) (he:failM M n o=M') :
    Tri Tryz.prog 14 #[.pointer (some ⟨d,0,none⟩),.int .i64 n,.bool o] W0 (K++(s.G d M++H)) (IsK K d M' (.tuple #[]) H):=by
  have:=cFail h d n o W0 (K++H)
  rw [he] at this
  exact A0j this
theorem dCrash {s:DS} {M M':DM} (h:s.ok M) (hm:Y0 M) (d:Nat) (l:List Int) (a:Option Addr) (c:Nat) (S0:Nat→Obj→Prop) (hks:KsOk S0 ⟨l,a,c⟩) (K:List Grp) (W0:World) (H:List Grp) (hS0:∀ y o,S0 y o→At W0 (K++H) y o) (he:N3 M l=M') :
    Tri Tryz.prog 17 #[.pointer (some ⟨d,0,none⟩),.slice a l.length c] W0 (K++(s.G d M++H)) (IsK K d M' (.tuple #[]) H):=by
  subst he
  exact A0j (cCrash h hm d ⟨l,a,c⟩ S0 hks W0 (K++H) hS0)
theorem dNew (room:Int) {M:DM} (W0:World) (H:List Grp) (he:newM room=M):Tri Tryz.prog 8 #[.int .i64 room] W0 H (fun v H'=>∃ d,v=.pointer (some ⟨d,0,none⟩)∧∃ s:DS,s.ok M∧H'=s.G d M++H):=by
  subst he; exact cNew room W0 H
theorem dRead {s:DS} {M:DM} {b:ByteArray} {e:Int} (h:s.ok M) (hm:∀ B∈M.bodies,B.now.size≤10000000) (d:Nat) (path:ByteArray) (K:List Grp) (W0:World) (H:List Grp) (he:P1 M path=(b,e)) :
    Tri Tryz.prog 21 #[.pointer (some ⟨d,0,none⟩),.string path] W0 (K++(s.G d M++H)) (fun v H'=>∃ a c g,v=.tuple #[.slice a b.size c,.int .i64 e]∧b.size≤c∧Rd (inG g) a (u8s b.data.toList)∧H'=g::(K++(s.G d M++H))):=by
  have:=cRead h hm d path W0 (K++H)
  rw [he] at this
  refine Tri.heap (fun _ hw=>A0k hw) (Tri.post this fun v H1 ⟨x,g,hv,ho,hH⟩=>?_)
  obtain ⟨a,c,rfl,hc,hr⟩:=ho.shape
  refine ⟨_,⟨a,c,g,hv,hc,hr,rfl⟩,fun w hw=>?_⟩
  rw [hH] at hw
  refine A8 hw fun _ x=>?_
  simp only [List.flatten_cons,List.flatten_append,List.count_append]
  omega
theorem dUsed {s:DS} {M:DM} {n:Nat} (h:s.ok M) (hm:Y0 M) (d:Nat) (K:List Grp) (W0:World) (H:List Grp) (he:V0 M=n) :
    Tri Tryz.prog 11 #[.pointer (some ⟨d,0,none⟩)] W0 (K++(s.G d M++H)) (fun v H'=>v=.int .i64 (n:Int)∧H'=K++(s.G d M++H)):=by
  subst he
  exact Tri.heap (fun _ hw=>A0k hw) (Tri.post (cUsed h hm d W0 (K++H)) fun _ _ ⟨hv,hH⟩=>⟨_,⟨hv,rfl⟩,fun w hw=>by rw [hH] at hw; exact A0k hw⟩)
theorem dList {s:DS} {M:DM} {L:List ByteArray} (h:s.ok M) (hm:Y0 M) (d:Nat) (dir:ByteArray) (K:List Grp) (W0:World) (H:List Grp) (he:P2 M dir=L) :
    Tri Tryz.prog 20 #[.pointer (some ⟨d,0,none⟩),.string dir] W0 (K++(s.G d M++H)) (fun v H'=>∃ a c g,v=.slice a L.length c∧L.length≤c∧Rd (inG g) a (Y5 L)∧H'=g::(K++(s.G d M++H))):=by
  subst he
  refine Tri.heap (fun _ hw=>A0k hw) (Tri.post (cList h hm d dir W0 (K++H)) fun v H1 ⟨g,ho,hH⟩=>?_)
  obtain ⟨a,c,hv,hc,hr⟩:=ho.shape
  refine ⟨_,⟨a,c,g,hv,hc,hr,rfl⟩,fun w hw=>?_⟩
  rw [hH] at hw
  refine A8 hw fun _ x=>?_
  simp only [List.flatten_cons,List.flatten_append,List.count_append]
  omega
end Go.Vf
namespace Go.Proofs.YtdolpaagdpeagaaGreatDoor
open Go Go.ChangeShapes Go.WideShapes Go.ChangeAt Go.RowKit Go.Sw Go.Vf
theorem laidOut_:laidOutB Tryz.prog=true:=by kernel_rfl
def SW (W:World) (y:Nat) (o:Obj):Prop:=y<W.heap.size∧W.heap[y]? = some o
theorem sw_at {W:World} {y:Nat} {o:Obj} (h:SW W y o):At W [] y o:=.inl h
theorem rd_cells {W:World} {a:Addr} {cs:List Value} (hn:cs≠[]) (h:∀ j u,cs[j]? = some u→W.cell? (a.add j)=some u):(∃ b off,a=⟨b,off,none⟩)∧Rd (SW W) (some a) cs:=by
  obtain ⟨b,off,sp⟩:=a
  cases cs with
  | nil=>exact absurd rfl hn
  | cons v r =>
    have h0:=h 0 v rfl
    unfold World.cell? at h0
    rw [show (Addr.add ⟨b,off,sp⟩ 0)=⟨b,off,sp⟩ from rfl] at h0
    cases hb:W.heap[b]? with
    | none=>rw [show (⟨b,off,sp⟩:Addr).block=b from rfl,hb] at h0; cases h0
    | some o =>
      rw [show (⟨b,off,sp⟩:Addr).block=b from rfl,hb] at h0
      cases o with
      | cells c e fz =>
        cases sp with
        | some s=>simp at h0
        | none =>
          refine ⟨⟨b,off,rfl⟩,.inr ⟨b,off,c,e,fz,rfl,⟨?_,hb⟩,fun j u hu=>?_⟩⟩
          · rcases Nat.lt_or_ge b W.heap.size with h | h
            · exact h
            · rw [Array.getElem?_eq_none h] at hb; cases hb
          · have hj:=h j u hu
            rw [L5] at hj
            unfold World.cell? at hj
            rw [show (⟨b,off+j,none⟩:Addr).block=b from rfl,hb] at hj
            simpa using hj
      | _=>cases h0
theorem wf_u8 {n:Int} (h:(Lit.int .u8 n).wf=true):0≤n∧n<256:=by
  simp [Lit.wf,IntKind.min,IntKind.max,IntKind.bits,IntKind.signed] at h
  omega
theorem wf_i64 {n:Int} (h:(Lit.int .i64 n).wf=true):-9223372036854775808≤n∧n≤9223372036854775807:=by
  simp [Lit.wf,IntKind.min,IntKind.max,IntKind.bits,IntKind.signed] at h
  omega
def bytesZ (zs:List Int):ByteArray:=⟨(zs.map fun z=>UInt8.ofNat z.toNat).toArray⟩
theorem u8s_bytesZ {zs:List Int} (h:∀ n∈zs,0≤n∧n<256):u8s (bytesZ zs).data.toList=zs.map (Value.int .u8):=by
  unfold u8s bytesZ
  simp only [List.map_map]
  refine List.map_congr_left fun z hz=>?_
  obtain ⟨h0,h1⟩:=h z hz
  simp only [Function.comp]
  congr 1
  rw [UInt8.toNat_ofNat']
  omega
theorem A0m (zs:List Int):(bytesZ zs).size=zs.length:=by
  show (zs.map fun z=>UInt8.ofNat z.toNat).toArray.size=_
  simp
theorem cells_str:Tryz.prog.cellsOf 9=1:=by kernel_rfl
theorem cells_bs:Tryz.prog.cellsOf 31=1:=by kernel_rfl
theorem cells_u8:Tryz.prog.cellsOf 5=1:=by kernel_rfl
theorem cells_int:Tryz.prog.cellsOf 3=1:=by kernel_rfl
set_option maxRecDepth 100000 in
theorem bytes_core {H:Type} {enc:TypeId × Value→H} {W:World} {cs:List Value} {x:DataW H × List MemPlace} {fuel:Nat} (hf:DataW.trod enc Tryz.prog W 0 (fun _=>true) true fuel 31 cs=some x) :
    ∃ (a:Option Addr) (c:Nat) (b:ByteArray),cs=[.slice a b.size c]∧BytesA W [] a c (SW W) b∧b.size≤9223372036854775807∧b.size≤c:=by
  rcases open_ints Tryz.underlying31 Tryz.underlying5 cells_u8 hf with ⟨hcs,hx⟩ | ⟨a,len,cap,zs,hcs,_,hl,hm,hz,hx,hcell,hwz⟩
  · subst hcs
    exact ⟨none,0,ByteArray.mk #[],rfl,⟨.inl ⟨rfl,rfl,rfl⟩,.inl rfl,fun y o h=>sw_at h⟩,by decide,by decide⟩
  · subst hcs
    simp only [if_true] at hz
    have hlen:(zs.take len).length=len:=by rw [List.length_take]; omega
    have hu:u8s (bytesZ (zs.take len)).data.toList=(zs.take len).map (Value.int .u8):=u8s_bytesZ fun n hn=>wf_u8 (hwz n (List.mem_of_mem_take hn))
    have hml:maxLen≤9223372036854775807:=by decide
    refine ⟨some a,cap,bytesZ (zs.take len),by rw [A0m,hlen],?_,by rw [A0m,hlen]; omega,by rw [A0m,hlen]; omega⟩
    by_cases h0:len=0
    · subst h0
      exact ⟨.inr (.inl ⟨a,rfl,by rw [A0m]; simp⟩),.inl (by rw [hu]; simp),fun y o h=>sw_at h⟩
    · obtain ⟨⟨b,off,rfl⟩,hrd⟩:=rd_cells (W:=W) (a:=a) (cs:=(zs.take len).map (Value.int .u8)) (by intro he; rw [List.map_eq_nil_iff] at he; rw [he] at hlen; simp at hlen; omega) (fun j u hu=>by
        rw [List.getElem?_map] at hu
        obtain ⟨z,hz1,rfl⟩:=Option.map_eq_some_iff.1 hu
        have hj:j<len:=by
          rcases Nat.lt_or_ge j (zs.take len).length with h | h
          · omega
          · rw [List.getElem?_eq_none h] at hz1; cases hz1
        rw [List.getElem?_take_of_lt hj] at hz1
        rw [hcell j (by omega),List.getD_eq_getElem?_getD,hz1]; rfl)
      exact ⟨.inr (.inr ⟨b,off,rfl⟩),by rw [hu]; exact hrd,fun y o h=>sw_at h⟩
set_option maxRecDepth 100000 in
theorem ints_core {H:Type} {enc:TypeId × Value→H} {W:World} {cs:List Value} {x:DataW H × List MemPlace} {fuel:Nat} (hf:DataW.trod enc Tryz.prog W 0 (fun _=>true) true fuel 42 cs=some x) :
    ∃ (a:Option Addr) (c:Nat) (l:List Int),cs=[.slice a l.length c]∧Rd (SW W) a (l.map (Value.int .i64))∧l.length≤c∧(∀ x∈l,-9223372036854775808≤x∧x≤9223372036854775807)∧l.length≤9223372036854775807:=by
  rcases open_ints Tryz.underlying42 Tryz.underlying3 cells_int hf with ⟨hcs,hx⟩ | ⟨a,len,cap,zs,hcs,_,hl,hm,hz,hx,hcell,hwz⟩
  · subst hcs
    exact ⟨none,0,[],rfl,.inl rfl,Nat.le_refl _,fun _ h=>absurd h List.not_mem_nil,by decide⟩
  · subst hcs
    simp only [if_true] at hz
    have hlen:(zs.take len).length=len:=by rw [List.length_take]; omega
    have hml:maxLen≤9223372036854775807:=by decide
    refine ⟨some a,cap,zs.take len,by rw [hlen],?_,by rw [hlen]; exact hl,fun x hx=>wf_i64 (hwz x (List.mem_of_mem_take hx)),by rw [hlen]; omega⟩
    by_cases h0:len=0
    · subst h0; exact .inl (by simp)
    · exact (rd_cells (W:=W) (a:=a) (cs:=(zs.take len).map (Value.int .i64)) (by intro he; rw [List.map_eq_nil_iff] at he; rw [he] at hlen; simp at hlen; omega) (fun j u hu=>by
        rw [List.getElem?_map] at hu
        obtain ⟨z,hz1,rfl⟩:=Option.map_eq_some_iff.1 hu
        have hj:j<len:=by
          rcases Nat.lt_or_ge j (zs.take len).length with h | h
          · omega
          · rw [List.getElem?_eq_none h] at hz1; cases hz1
        rw [List.getElem?_take_of_lt hj] at hz1
        rw [hcell j (by omega),List.getD_eq_getElem?_getD,hz1]; rfl)).2
set_option maxRecDepth 100000 in
theorem open_intsA {H:Type} {enc:TypeId × Value→H} {W:World} {v:Value} {d:DataW H} {p:List MemPlace} {r:Reach} {b0:Nat} (hval:Value.okWide Tryz.prog W r b0 42 v) (h0:DataW.Trod enc Tryz.prog W 0 (fun _=>true) true 42 v d p) :
    ∃ (a:Option Addr) (c:Nat) (l:List Int),v=.slice a l.length c∧Rd (SW W) a (l.map (Value.int .i64))∧l.length≤c∧(∀ x∈l,-9223372036854775808≤x∧x≤9223372036854775807)∧l.length≤9223372036854775807:=by
  obtain ⟨a0,len,cap,rfl⟩:=okWide_slice Tryz.underlying42 hval
  obtain ⟨fuel,hf⟩:=h0
  obtain ⟨a,c,l,h1,h2⟩:=ints_core hf
  exact ⟨a,c,l,by simpa [Value.cells] using h1,h2⟩
end Go.Proofs.YtdolpaagdpeagaaGreatDoor
namespace Go.Sha
open Go.Sw
abbrev w32 (x:Int):Int:=IntKind.wrap .u32 x
def xor32 (a b:Int):Int:=IntKind.wrap .u32 ((BitVec.ofInt (IntKind.bits .u32) a ^^^ BitVec.ofInt (IntKind.bits .u32) b).toNat)
def or32 (a b:Int):Int:=IntKind.wrap .u32 ((BitVec.ofInt (IntKind.bits .u32) a ||| BitVec.ofInt (IntKind.bits .u32) b).toNat)
def and32 (a b:Int):Int:=IntKind.wrap .u32 ((BitVec.ofInt (IntKind.bits .u32) a &&& BitVec.ofInt (IntKind.bits .u32) b).toNat)
def not32 (a:Int):Int:=IntKind.wrap .u32 ((BitVec.ofInt (IntKind.bits .u32) 4294967295 ^^^ BitVec.ofInt (IntKind.bits .u32) a).toNat)
def rotr (x:Int) (n:Nat):Int:=or32 (w32 (x * 2 ^ (32 - n))) (Int.fdiv x (2 ^ n))
def sg0 (x:Int):Int:=xor32 (xor32 (rotr x 7) (rotr x 18)) (Int.fdiv x (2 ^ 3))
def sg1 (x:Int):Int:=xor32 (xor32 (rotr x 17) (rotr x 19)) (Int.fdiv x (2 ^ 10))
def bs1 (x:Int):Int:=xor32 (xor32 (rotr x 6) (rotr x 11)) (rotr x 25)
def bs0 (x:Int):Int:=xor32 (xor32 (rotr x 2) (rotr x 13)) (rotr x 22)
def chP (e f g:Int):Int:=xor32 (and32 e f) (and32 (not32 e) g)
def majP (a b c:Int):Int:=xor32 (xor32 (and32 a b) (and32 a c)) (and32 b c)
def wordP (a b c d:Int):Int:=or32 (or32 (or32 (w32 (w32 a * 2 ^ 24)) (w32 (w32 b * 2 ^ 16))) (w32 (w32 c * 2 ^ 8))) (w32 d)
def V7 (B:Nat→Int):Nat→List Int
  | 0=>[]
  | i+1=>V7 B i++[if i<16 then wordP (B (4 * i)) (B (4 * i+1)) (B (4 * i+2)) (B (4 * i+3))
      else w32 (w32 (w32 ((V7 B i).getD (i - 16) 0+sg0 ((V7 B i).getD (i - 15) 0))+(V7 B i).getD (i - 7) 0)+sg1 ((V7 B i).getD (i - 2) 0))]
theorem wsch_len (B:Nat→Int):∀ i,(V7 B i).length=i
  | 0=>rfl
  | i+1=>by simp [V7,wsch_len B i]
structure S8 where
  a:Int
  b:Int
  c:Int
  d:Int
  e:Int
  f:Int
  g:Int
  h:Int
def t1P (k w:Int) (s:S8):Int:=w32 (w32 (w32 (w32 (s.h+bs1 s.e)+chP s.e s.f s.g)+k)+w)
def t2P (s:S8):Int:=w32 (bs0 s.a+majP s.a s.b s.c)
def rnd (k w:Int) (s:S8):S8 :=
  ⟨w32 (t1P k w s+t2P s),s.a,s.b,s.c,w32 (s.d+t1P k w s),s.e,s.f,s.g⟩
def rnds (K W:Nat→Int) (s:S8):Nat→S8
  | 0=>s
  | i+1=>rnd (K i) (W i) (rnds K W s i)
def addS (s t:S8):S8:=⟨w32 (s.a+t.a),w32 (s.b+t.b),w32 (s.c+t.c),w32 (s.d+t.d),w32 (s.e+t.e),w32 (s.f+t.f),w32 (s.g+t.g),w32 (s.h+t.h)⟩
def kTab:List Int:=[1116352408,1899447441,3049323471,3921009573,961987163,1508970993,2453635748,2870763221,3624381080,310598401,607225278,1426881987,1925078388,2162078206,2614888103,3248222580,3835390401,4022224774,264347078,604807628,770255983,1249150122,1555081692,1996064986,2554220882,2821834349,2952996808,3210313671,3336571891,3584528711,113926993,338241895,666307205,773529912,1294757372,1396182291,1695183700,1986661051,2177026350,2456956037,2730485921,2820302411,3259730800,3345764771,3516065817,3600352804,4094571909,275423344,430227734,506948616,659060556,883997877,958139571,1322822218,1537002063,1747873779,1955562222,2024104815,2227730452,2361852424,2428436474,2756734187,3204031479,3329325298]
def kAt (i:Nat):Int:=kTab.getD i 0
def hIni:S8:=⟨1779033703,3144134277,1013904242,2773480762,1359893119,2600822924,528734635,1541459225⟩
def wAt (B:Nat→Int) (i:Nat):Int:=(V7 B 64).getD i 0
def P9 (B:Nat→Int) (s:S8):S8:=addS s (rnds kAt (wAt B) s 64)
def u32s (l:List Int):List Value:=l.map (Value.int .u32)
def wArr (B:Nat→Int) (i:Nat):Array Value:=(u32s (V7 B i)++List.replicate (64 - i) (Value.int .u32 0)).toArray
def kArr:Array Value:=(u32s kTab).toArray
theorem wArr_size (B:Nat→Int) {i:Nat} (h:i≤64):(wArr B i).size=64:=by simp [wArr,u32s,wsch_len]; omega
theorem wArr_at (B:Nat→Int) {i j:Nat} {q:Int} (hq:q=j) (h:j<i):(wArr B i)[0+Int.toNat q * 1]? = some (.int .u32 ((V7 B i).getD j 0)):=by
  subst hq
  simp only [Int.toNat_natCast,Nat.mul_one,Nat.zero_add,wArr,List.getElem?_toArray]
  rw [List.getElem?_append_left (by simp [u32s,wsch_len,h])]
  simp [u32s,List.getD,wsch_len,h]
theorem wArr_set (B:Nat→Int) {i:Nat} {q:Int} {v:Int} (hq:q=i) (h:i<64)
    (hv:v=if i<16 then wordP (B (4 * i)) (B (4 * i+1)) (B (4 * i+2)) (B (4 * i+3))
      else w32 (w32 (w32 ((V7 B i).getD (i - 16) 0+sg0 ((V7 B i).getD (i - 15) 0))+(V7 B i).getD (i - 7) 0)+sg1 ((V7 B i).getD (i - 2) 0))) :
    setRow (wArr B i) (0+Int.toNat q * 1) [.int .u32 v]=wArr B (i+1):=by
  subst hq
  have e:wArr B i=(u32s (V7 B i)++[Value.int .u32 0]++List.replicate (64 - (i+1)) (Value.int .u32 0)).toArray:=by
    unfold wArr
    rw [show 64 - i=(64 - (i+1))+1 by omega,List.replicate_succ]
    simp
  have hl:(u32s (V7 B i)).length=0+Int.toNat ((i:Nat):Int) * 1:=by simp [u32s,wsch_len]
  rw [e,← hl,V9 [Value.int .u32 v] (u32s (V7 B i)) (List.replicate (64 - (i+1)) (Value.int .u32 0)) [Value.int .u32 0] rfl]
  subst hv
  simp only [wArr,V7,u32s,List.map_append,List.map_cons,List.map_nil]
theorem kArr_at {j:Nat} {q:Int} (hq:q=j) (h:j<64):kArr[0+Int.toNat q * 1]? = some (.int .u32 (kAt j)):=by
  subst hq
  have hk:kTab.length=64:=rfl
  simp only [Int.toNat_natCast,Nat.mul_one,Nat.zero_add,kArr,List.getElem?_toArray,u32s,kAt]
  simp [List.getD,hk,h]
theorem u8s_at {l:List UInt8} {k:Nat} (h:k<l.length):(u8s l)[k]? = some (.int .u8 ((l.getD k 0).toNat:Int)):=by
  simp [u8s,h,List.getD]
def byt (l:List UInt8) (j:Nat):Int:=((l.getD j 0).toNat:Int)
theorem byt_at {l:List UInt8} {k q:Nat} (hq:q=k) (h:k<l.length):(u8s l)[q]? = some (.int .u8 (byt l k)):=by
  subst hq; exact u8s_at h
def S8.v (s:S8):Value:=.agg #[.int .u32 s.a,.int .u32 s.b,.int .u32 s.c,.int .u32 s.d,.int .u32 s.e,.int .u32 s.f,.int .u32 s.g,.int .u32 s.h]
def b8 (y:Int):UInt8:=UInt8.ofNat (y % 256).toNat
theorem wrap_b8 (y:Int):IntKind.wrap .u8 y=((b8 y).toNat:Int):=by
  have h1:0≤y % 256:=Int.emod_nonneg _ (by decide)
  have h2:y % 256<256:=Int.emod_lt_of_pos _ (by decide)
  have e:IntKind.wrap .u8 y=y % 256:=by first | rfl | (simp [IntKind.wrap,IntKind.bits,IntKind.signed]; done)
  rw [e]
  unfold b8
  simp only [UInt8.toNat_ofNat']
  omega
def eightB (n:Int):List UInt8:=[b8 (n.fdiv (2 ^ 56)),b8 (n.fdiv (2 ^ 48)),b8 (n.fdiv (2 ^ 40)),b8 (n.fdiv (2 ^ 32)),b8 (n.fdiv (2 ^ 24)),b8 (n.fdiv (2 ^ 16)),b8 (n.fdiv (2 ^ 8)),b8 (n.fdiv (2 ^ 0))]
def wordB (x:Int):List UInt8:=[b8 (x.fdiv (2 ^ 24)),b8 (x.fdiv (2 ^ 16)),b8 (x.fdiv (2 ^ 8)),b8 x]
theorem u8s_cons (y:Int) (l:List UInt8):u8s (b8 y::l)=Value.int .u8 (IntKind.wrap .u8 y)::u8s l:=by unfold u8s; rw [List.map_cons,wrap_b8]
def padZ (n:Nat):Nat:=(119 - n % 64) % 64
def padK (l:List UInt8) (k:Nat):List UInt8:=l++128::List.replicate k 0
def I8 (l:List UInt8):List UInt8:=padK l (padZ l.length)++eightB ((8 * l.length:Nat):Int)
def Q2 (p:List UInt8) (k:Nat):List UInt8:=(p.drop (64 * k)).take 64
def N6 (p:List UInt8) {m:Nat} (ks:List (Fin m)):S8:=ks.foldl (fun s k=>P9 (byt (Q2 p k.1)) s) hIni
def W9 (l:List UInt8):S8:=N6 (I8 l) (List.finRange ((I8 l).length / 64))
def wd (s:S8) (k:Nat):Int:=[s.a,s.b,s.c,s.d,s.e,s.f,s.g,s.h].getD k 0
def outB (s:S8):List UInt8:=wordB s.a++wordB s.b++wordB s.c++wordB s.d++wordB s.e++wordB s.f++wordB s.g++wordB s.h
def sumB (l:List UInt8):List UInt8:=outB (W9 l)
theorem padK_len (l:List UInt8) (k:Nat):(padK l k).length=l.length+1+k:=by simp [padK]; omega
theorem padB_len (l:List UInt8):(I8 l).length=l.length+1+padZ l.length+8:=by simp [I8,padK_len,eightB]
theorem pad_mod (n:Nat):(n+1+padZ n+8) % 64=0∧padZ n<64:=by unfold padZ; omega
theorem pad_more {n k:Nat} (h:k≤padZ n):((((n+1+k:Nat):Int) % 64 != 56)=true→k<padZ n)∧((((n+1+k:Nat):Int) % 64 != 56)=false→k=padZ n):=by
  unfold padZ at *
  constructor
  · intro h1
    have h2:((n+1+k:Nat):Int) % 64≠56:=by simpa using h1
    omega
  · intro h1
    have h2:((n+1+k:Nat):Int) % 64=56:=by simpa using h1
    omega
theorem padK_zero (l:List UInt8):u8s l++[Value.int .u8 128]=u8s (padK l 0):=by simp [padK,u8s]
theorem padK_succ (l:List UInt8) (k:Nat):u8s (padK l k)++[Value.int .u8 0]=u8s (padK l (k+1)):=by simp [padK,u8s,List.replicate_succ']
theorem u8s_append (a b:List UInt8):u8s (a++b)=u8s a++u8s b:=by simp [u8s]
theorem len8 {n:Nat} (h:n≤1099511627776):IntKind.wrap .u64 (IntKind.wrap .u64 (n:Int) * 8)=((8 * n:Nat):Int):=by
  have e:∀ x:Int,IntKind.wrap .u64 x=x % 18446744073709551616:=fun x=>by first | rfl | simp [IntKind.wrap,IntKind.bits,IntKind.signed]
  rw [e,e]; omega
theorem outB_len (s:S8):(outB s).length=32:=rfl
theorem outB_at (s:S8) {k:Nat} (h:k<8):(outB s).getD (4 * k) 0=b8 ((wd s k).fdiv (2 ^ 24))∧(outB s).getD (4 * k+1) 0=b8 ((wd s k).fdiv (2 ^ 16))∧(outB s).getD (4 * k+2) 0=b8 ((wd s k).fdiv (2 ^ 8))∧(outB s).getD (4 * k+3) 0=b8 (wd s k):=by
  match k,h with
  | 0,_ | 1,_ | 2,_ | 3,_ | 4,_ | 5,_ | 6,_ | 7,_=>exact ⟨rfl,rfl,rfl,rfl⟩
  | k+8,h=>exact absurd h (by omega)
def oArr (s:S8) (j:Nat):Array Value:=(u8s ((outB s).take j)++List.replicate (32 - j) (Value.int .u8 0)).toArray
theorem oArr_size (s:S8) {j:Nat} (h:j≤32):(oArr s j).size=32:=by simp [oArr,u8s,outB_len]; omega
theorem oArr_set (s:S8) {j:Nat} {q v:Int} (hq:q=j) (h:j<32) (hv:v=(((outB s).getD j 0).toNat:Int)):setRow (oArr s j) (0+Int.toNat q * 1) [.int .u8 v]=oArr s (j+1):=by
  subst hq
  have e:oArr s j=(u8s ((outB s).take j)++[Value.int .u8 0]++List.replicate (32 - (j+1)) (Value.int .u8 0)).toArray:=by
    unfold oArr
    rw [show 32 - j=(32 - (j+1))+1 by omega,List.replicate_succ]
    simp
  have hl:(u8s ((outB s).take j)).length=0+Int.toNat ((j:Nat):Int) * 1:=by simp [u8s,outB_len]; omega
  rw [e,← hl,V9 [Value.int .u8 v] (u8s ((outB s).take j)) (List.replicate (32 - (j+1)) (Value.int .u8 0)) [Value.int .u8 0] rfl]
  have hg:(outB s).take (j+1)=(outB s).take j++[(outB s).getD j 0]:=by
    rw [List.take_add_one,List.getD,List.getElem?_eq_getElem (by rw [outB_len]; exact h)]; rfl
  subst hv
  simp only [oArr,hg,u8s,List.map_append,List.map_cons,List.map_nil]
theorem oArr_full (s:S8):oArr s 32=(u8s (outB s)).toArray:=by
  unfold oArr; rw [List.take_of_length_le (by rw [outB_len]; omega)]; simp
theorem wd_at (s:S8) {k:Nat} (h:k<8):(#[.int .u32 s.a,.int .u32 s.b,.int .u32 s.c,.int .u32 s.d,.int .u32 s.e,.int .u32 s.f,.int .u32 s.g,.int .u32 s.h]:Array Value)[k]? = some (.int .u32 (wd s k)):=by
  match k,h with
  | 0,_ | 1,_ | 2,_ | 3,_ | 4,_ | 5,_ | 6,_ | 7,_=>rfl
  | k+8,h=>exact absurd h (by omega)
def z32:Array Value:=(List.replicate 32 (Value.int .u8 0)).toArray
def kz64:Array Value:=(List.replicate 64 (Value.int .u32 0)).toArray
theorem foldB_snoc (p:List UInt8) {m:Nat} (ks:List (Fin m)) (k:Fin m):N6 p (ks++[k])=P9 (byt (Q2 p k.1)) (N6 p ks):=by unfold N6; rw [List.foldl_append]; rfl
theorem chunkOf_len {p:List UInt8} {k m:Nat} (h:p.length=64 * m) (hk:k<m):(Q2 p k).length=64:=by
  unfold Q2; rw [List.length_take,List.length_drop]; omega
theorem chunkOf_u8s (p:List UInt8) (k:Nat):u8s (Q2 p k)=((u8s p).drop (64 * k)).take 64:=by
  unfold Q2 u8s; rw [List.map_take,List.map_drop]
theorem own_rd_at {et n c b off m:Nat} {g:Grp} {cs:List Value} (h:Sw.Own et 1 (.slice (some ⟨b,0,none⟩) n c) g n cs):Rd (inG g) (some ⟨b,0+off,none⟩) ((cs.drop off).take m):=by
  obtain ⟨hl,⟨h1,_⟩ | ⟨b',cap,junk,h1,rfl,hc,hj⟩⟩:=h
  · injection h1 with h1; cases h1
  · injection h1 with h1 _ h2
    injection h1 with h1
    injection h1 with h1
    subst h1
    refine .inr ⟨b,0+off,_,_,_,rfl,List.mem_singleton.2 rfl,fun j u hu=>?_⟩
    rw [List.getElem?_take] at hu
    split at hu
    · rw [List.getElem?_drop] at hu
      have hlt:off+j<cs.length:=by
        rcases Nat.lt_or_ge (off+j) cs.length with h | h
        · exact h
        · rw [List.getElem?_eq_none h] at hu; simp at hu
      rw [List.getElem?_toArray,Nat.zero_add,List.getElem?_append_left hlt]
      exact hu
    · simp at hu
theorem oload (s:S8):((oArr s 32).toList.drop 0).take (u8s (outB s)).length=u8s (outB s):=by
  rw [oArr_full]; simp
theorem padB_m (l:List UInt8) {k:Nat} (hk:k=padZ l.length):l.length+1+k+8=64 * ((I8 l).length / 64)∧(I8 l).length=64 * ((I8 l).length / 64):=by
  have:=pad_mod l.length
  rw [padB_len]; subst hk; omega
theorem padB_cs (l:List UInt8) {k:Nat} (hk:k=padZ l.length):u8s (padK l k)++u8s (eightB ((8 * l.length:Nat):Int))=u8s (I8 l):=by
  unfold I8; rw [u8s_append,hk]
def digs:ByteArray:=ByteArray.mk #[48,49,50,51,52,53,54,55,56,57,97,98,99,100,101,102]
def hd (i:Int):UInt8:=UInt8.ofNat (G9 digs i).toNat
theorem hd_eq (i:Int):((hd i).toNat:Int)=G9 digs i:=by
  have:=A0b digs i
  unfold hd; simp only [UInt8.toNat_ofNat']; omega
def low4 (x:Int):Int:=IntKind.wrap .u8 ((BitVec.ofInt (IntKind.bits .u8) x &&& BitVec.ofInt (IntKind.bits .u8) 15).toNat)
def hex2 (x:Int):List UInt8:=[hd (Int.fdiv x (2 ^ 4)),hd (low4 x)]
def hexK (l:List UInt8) (j:Nat):List UInt8:=(l.take j).flatMap fun b=>hex2 (b.toNat:Int)
theorem hexK_succ (l:List UInt8) {j:Nat} (h:j<l.length):u8s (hexK l j)++[.int .u8 (G9 digs (Int.fdiv (byt l j) (2 ^ 4))),.int .u8 (G9 digs (low4 (byt l j)))]=u8s (hexK l (j+1)):=by
  have e:l.take (j+1)=l.take j++[l.getD j 0]:=by
    rw [List.take_add_one,List.getD,List.getElem?_eq_getElem h]; rfl
  unfold hexK
  rw [e,List.flatMap_append,u8s_append]
  congr 1
  simp only [List.flatMap_cons,List.flatMap_nil,List.append_nil,hex2,u8s,List.map_cons,List.map_nil,hd_eq,byt]
theorem hexK_len (l:List UInt8):∀ {j:Nat},j≤l.length→(hexK l j).length=2 * j
  | 0,_=>rfl
  | j+1,h=>by
    have e:l.take (j+1)=l.take j++[l.getD j 0]:=by
      rw [List.take_add_one,List.getD,List.getElem?_eq_getElem (by omega)]; rfl
    have ih:=hexK_len l (j:=j) (by omega)
    unfold hexK at ih ⊢
    rw [e,List.flatMap_append,List.length_append,ih]
    simp [hex2]; omega
theorem hex_size (l:List UInt8) {j:Nat} (h:j≤32):(ByteArray.mk (hexK (sumB l) j).toArray).size=2 * j:=by
  show (hexK (sumB l) j).toArray.size=2 * j
  rw [List.size_toArray]; exact hexK_len _ h
def hexM (l:List UInt8):ByteArray:=⟨(hexK (sumB l) 32).toArray⟩
theorem own_hex {v:Value} {g:Grp} {n:Nat} {l:List UInt8} (h:Sw.Own 5 1 v g n (u8s l)):Sw.Own 5 1 v g n (u8s (ByteArray.mk l.toArray).data.toList):=by simpa using h
theorem nib:(List.range 256).all (fun n=>decide (0≤Int.fdiv ((n:Nat):Int) (2 ^ 4)∧Int.fdiv ((n:Nat):Int) (2 ^ 4)<16∧0≤low4 ((n:Nat):Int)∧low4 ((n:Nat):Int)<16))=true:=by kernel_rfl
theorem nib_at (l:List UInt8) (j:Nat):0≤Int.fdiv (byt l j) (2 ^ 4)∧Int.fdiv (byt l j) (2 ^ 4)<16∧0≤low4 (byt l j)∧low4 (byt l j)<16 :=
  of_decide_eq_true (List.all_eq_true.1 nib (l.getD j 0).toNat (List.mem_range.2 (UInt8.toNat_lt _)))
theorem own_from0 {et:TypeId} {sz:Nat} {v:Value} {g:Grp} {n:Nat} {cs:List Value} (h:Go.Sw.Own et sz v g (0+n) ([]++cs)):Go.Sw.Own et sz v g n cs:=by simpa using h
theorem u8_one {l:List UInt8}:∀ u∈u8s l,u.oneCell'=true:=by
  intro u hu
  obtain ⟨b,_,rfl⟩:=List.mem_map.1 hu
  rfl
theorem own_eight {v:Value} {g:Grp} {et k:Nat} (n:Int) {cs:List Value} (h:Go.Sw.Own et 1 v g k cs) (hk:k=8) (hc:cs=u8s (eightB n)):Go.Sw.Own et 1 v g 8 (u8s (eightB n)):=by
  subst hk; subst hc; exact h
theorem eight_cells (n:Int):u8s (eightB n)=[.int .u8 (IntKind.wrap .u8 (n.fdiv (2 ^ 56))),.int .u8 (IntKind.wrap .u8 (n.fdiv (2 ^ 48))),.int .u8 (IntKind.wrap .u8 (n.fdiv (2 ^ 40))),.int .u8 (IntKind.wrap .u8 (n.fdiv (2 ^ 32))),
    .int .u8 (IntKind.wrap .u8 (n.fdiv (2 ^ 24))),.int .u8 (IntKind.wrap .u8 (n.fdiv (2 ^ 16))),.int .u8 (IntKind.wrap .u8 (n.fdiv (2 ^ 8))),.int .u8 (IntKind.wrap .u8 (n.fdiv (2 ^ 0)))]:=by
  simp only [eightB,u8s_cons]; rfl
end Go.Sha
namespace Go.Pr
open Go.Sw Go.Vf Go.Sha Go.Lib Go.Proofs.YtdolpaagdpeagaaGreatDoor
abbrev FB:=ByteArray × ByteArray
def itB (n:Int):ByteArray:=⟨(Lib.itoa n).toArray⟩
def gB (n:Int):ByteArray:=ByteArray.mk #[103]++itB n
def slB:ByteArray:=ByteArray.mk #[47]
def lfB:ByteArray:=ByteArray.mk #[10]
def maniB:ByteArray:=ByteArray.mk #[109,97,110,105,102,101,115,116]
def G7:ByteArray:=ByteArray.mk #[99,117,114,114,101,110,116]
def E6:ByteArray:=ByteArray.mk #[99,117,114,114,101,110,116,46,110,101,119]
def inG (n:Int) (p:ByteArray):ByteArray:=(gB n++slB)++p
def R2 (s:ByteArray):Bool:=(A4 s&&!(s.data.toList.contains 47))&&!(s.toList==maniB.toList)
def R8 (f:FB):ByteArray:=((hexM f.2.data.toList++ByteArray.mk #[32])++f.1)++lfB
def C6:List FB→ByteArray
  | []=>.empty
  | f::r=>R8 f++C6 r
def E9:List (DM→Int × DM)→DM→Int × DM
  | [],M=>(0,M)
  | f::r,M=>if (f M).1 != 0 then f M else E9 r (f M).2
def V3 (p b:ByteArray):List (DM→Int × DM):=[fun M=>E5 M p b,fun M=>N5 M p]
def S5 (n:Int):List FB→List (DM→Int × DM)
  | []=>[]
  | f::r=>V3 (inG n f.1) f.2++S5 n r
def pointS (n:Int) (l:List FB):List (DM→Int × DM) :=
  V3 (inG n maniB) (C6 l)++((fun M=>H5 M (gB n))::(V3 E6 (gB n++lfB)++[fun M=>H9 M E6 G7,fun M=>H5 M eB]))
def dropS (l:List ByteArray):List (DM→Int × DM):=l.map fun p M=>J6 M p
def Y7 (n:Int) (l:List FB) (M:DM):Int × DM:=E9 (dropS (P2 M (gB n))++(S5 n l++pointS n l)) M
def sweepL:List ByteArray→DM→DM
  | [],M=>M
  | p::r,M=>sweepL r (J6 M p).2
def L7 (d:ByteArray) (M:DM):DM:=sweepL (P2 M d) M
def L6:List Int→DM→DM
  | [],M=>M
  | n::r,M=>L6 r (if n > 0 then L7 (gB n) M else M)
def K4 (ns:List Int) (M:DM):DM:=if (P1 (L6 ns M) E6).2==0 then (J6 (L6 ns M) E6).2 else L6 ns M
structure PM where
  n:Int
  files:List FB
  down:Bool
def insK {α:Type} (k:α→ByteArray) (f:α):List α→List α
  | []=>[f]
  | x::r=>if Op.bytesLess (k f).toList (k x).toList then x::insK k f r else f::x::r
def sortRK {α:Type} (k:α→ByteArray) (l:List α):List α:=l.foldl (fun a f=>insK k f a) []
def sortPK {α:Type} (k:α→ByteArray) (l:List α):List α:=(sortRK k l).reverse
abbrev insR (f:FB) (l:List FB):List FB:=insK Prod.fst f l
abbrev sortR (l:List FB):List FB:=sortRK Prod.fst l
abbrev sortP (l:List FB):List FB:=sortPK Prod.fst l
def twoP:List FB→Bool
  | []=>true
  | [f]=>R2 f.1
  | f::g::r=>R2 f.1&&(!(f.1.toList==g.1.toList)&&twoP (g::r))
def F8 (l:List FB):Option (List FB):=if twoP (sortP l) then some (sortP l) else none
def E8 (p:PM) (M:DM) (l:List FB):Int × PM × DM :=
  match F8 l with
  | none=>(2,p,M)
  | some s =>
    if p.down then (63,p,M)
    else
      let r:=Y7 (p.n+1) s M
      if r.1 != 0 then (if r.1==61 then (61,p,K4 [p.n+1] r.2) else (r.1,{ p with down:=true },r.2))
      else (0,⟨p.n+1,s,false⟩,if p.n+1 > 1 then L7 (gB p.n) r.2 else r.2)
end Go.Pr
namespace Go.Vf
open Go.Sw Go.RowKit Go.Proofs Go.Proofs.YtdolpaagdpeagaaGreatDoor
structure OpV where
  kind:Int
  path:ByteArray
  to:ByteArray
  ba:Option Addr
  bc:Nat
  b:ByteArray
  n:Int
  ka:Option Addr
  kc:Nat
  k:List Int
instance:Inhabited OpV:=⟨⟨0,ByteArray.mk #[],ByteArray.mk #[],none,0,ByteArray.mk #[],0,none,0,[]⟩⟩
end Go.Vf
namespace Go.Vf
open Go.Sw Go.Proofs.YtdolpaagdpeagaaGreatDoor
def p0:ByteArray:=ByteArray.mk #[]
theorem err_ok {M:DM} {r:Bool} (hr:r=true) (hf:M.fails=false):J0 M r=0∧J9 M r=M:=by
  subst hr
  unfold J0 J9 B7
  rw [hf]
  refine ⟨rfl,?_⟩
  cases M; simp only at hf; subst hf; rfl
theorem sz {a:ByteArray} (ha:a.size≤1000):a.size≤10000000∧a.size≤a.size:=by omega
end Go.Vf
namespace Go.Vf
open Go.Sw Go.Proofs.YtdolpaagdpeagaaGreatDoor
def fa:ByteArray:=ByteArray.mk #[97]
def fx:ByteArray:=ByteArray.mk #[120]
theorem fc:-9223372036854775808≤(0:Int)∧(0:Int)≤9223372036854775807:=by omega
end Go.Vf
namespace Go.Vf
open Go.Sw Go.Proofs.YtdolpaagdpeagaaGreatDoor
def adds (l:List Nm):Nat:=(l.filter fun x=>decide (0≤x.2)).length
def addsC (cs:List Ch):Nat:=(cs.map fun c=>adds c.l).sum
def addsL (ls:List (List Nm)):Nat:=(ls.map adds).sum
theorem with_len (l:List Nm) (x:Nm):(Z3 l x).length≤l.length+(if 0≤x.2 then 1 else 0):=by
  unfold Z3
  rw [List.length_append]
  have:=List.length_filter_le (fun n:Nm=>!(x.1==n.1)) l
  split <;> simp <;> omega
theorem apply_len:∀ (c l:List Nm),(E7 l c).length≤l.length+adds c
  | [],l=>Nat.le_refl _
  | x::c,l=>by
    have h1:=apply_len c (Z3 l x)
    have h2:=with_len l x
    unfold adds at h1 ⊢
    rw [List.filter_cons]
    show (E7 (Z3 l x) c).length≤_
    split
    · rename_i h
      rw [decide_eq_true_eq] at h
      rw [if_pos h] at h2
      rw [List.length_cons]; omega
    · rename_i h
      rw [decide_eq_true_eq] at h
      rw [if_neg h] at h2
      omega
theorem fold_len:∀ (ls:List (List Nm)) (l:List Nm),(ls.foldl E7 l).length≤l.length+addsL ls
  | [],l=>Nat.le_refl _
  | c::ls,l=>by
    have h1:=fold_len ls (E7 l c)
    have h2:=apply_len c l
    unfold addsL at h1 ⊢
    rw [List.map_cons,List.sum_cons]
    show (ls.foldl E7 (E7 l c)).length≤_
    omega
theorem addsC_app (a b:List Ch):addsC (a++b)=addsC a+addsC b:=by unfold addsC; rw [List.map_append,List.sum_append]
theorem addsC_split (l:List Ch) (d:ByteArray):addsC l=addsL (H7 l d)+addsC (l.filter fun c=>!(d==c.dir)):=by
  unfold addsC addsL H7
  induction l with
  | nil=>rfl
  | cons c l ih =>
    rw [List.filter_cons,List.filter_cons]
    cases d==c.dir
    · simp only [Bool.not_false,if_true,Bool.false_eq_true,if_false,List.map_cons,List.sum_cons]; omega
    · simp only [Bool.not_true,Bool.false_eq_true,if_false,if_true,List.map_cons,List.sum_cons]; omega
theorem addsL_take (ls:List (List Nm)) (n:Nat):addsL (ls.take n)≤addsL ls:=by
  unfold addsL
  induction ls generalizing n with
  | nil=>simp
  | cons c ls ih =>
    cases n with
    | zero=>simp
    | succ n=>rw [List.take_succ_cons,List.map_cons,List.map_cons,List.sum_cons,List.sum_cons]; have:=ih n; omega
theorem crashD_len:∀ (ds:List ByteArray) (l:List Ch) (ks:List Int) (K:List Nm),ds.Nodup→(Q8 l ds ks K).length≤K.length+addsC l
  | [],l,_,K,_=>Nat.le_add_right _ _
  | d::ds,l,ks,K,hn=>by
    rw [List.nodup_cons] at hn
    rw [Q8]
    have e:∀ (ds:List ByteArray) (ks:List Int) (K:List Nm),d ∉ ds→Q8 l ds ks K=Q8 (l.filter fun c=>!(d==c.dir)) ds ks K:=by
      intro ds
      induction ds with
      | nil=>intro _ _ _; rfl
      | cons x ds ih =>
        intro ks K hx
        rw [Q8,Q8]
        have hne:(x==d)=false:=by rw [baNe]; intro he; exact hx (by rw [he]; exact List.mem_cons_self)
        rw [chOf_filter,hne]
        simp only [Bool.false_eq_true,if_false]
        exact ih _ _ fun h=>hx (List.mem_cons_of_mem _ h)
    rw [e ds _ _ hn.1]
    have h1:=crashD_len ds (l.filter fun c=>!(d==c.dir)) (ks.drop 1) (((H7 l d).take (E3 (ks.headD 0) (((H7 l d).length:Int)+1)).toNat).foldl E7 K) hn.2
    have h2:=fold_len ((H7 l d).take (E3 (ks.headD 0) (((H7 l d).length:Int)+1)).toNat) K
    have h3:=addsL_take (H7 l d) (E3 (ks.headD 0) (((H7 l d).length:Int)+1)).toNat
    have h4:=addsC_split l d
    omega
theorem dirs_nodup (l:List Ch):(dirsOf l).Nodup:=(L8 _).nodup_iff.2 (once_nodup _)
def R6 (l:List Nm):Prop:=∀ x∈l,A4 x.1=true
theorem right_apply {c l:List Nm} (h:R6 l) (hc:R6 c):R6 (E7 l c):=fun y hy=>by
  rcases mem_apply hy with h1 | h1
  · exact h y h1
  · exact hc y h1.1
theorem right_fold:∀ {ls:List (List Nm)} {l:List Nm},R6 l→(∀ c∈ls,R6 c)→R6 (ls.foldl E7 l)
  | [],_,h,_=>h
  | c::ls,_,h,hc=>right_fold (ls:=ls) (right_apply h (hc c List.mem_cons_self)) fun x hx=>hc x (List.mem_cons_of_mem _ hx)
theorem chOf_mem {l:List Ch} {d:ByteArray} {x:List Nm} (h:x∈H7 l d):∃ c∈l,c.l=x:=by
  unfold H7 at h
  obtain ⟨c,hc,rfl⟩:=List.mem_map.1 h
  exact ⟨c,(List.mem_filter.1 hc).1,rfl⟩
theorem right_crash:∀ {ds:List ByteArray} {l:List Ch} {ks:List Int} {K:List Nm},R6 K→(∀ c∈l,R6 c.l)→R6 (Q8 l ds ks K)
  | [],_,_,_,h,_=>h
  | d::ds,l,ks,K,h,hc=>by
    rw [Q8]
    exact right_crash (ds:=ds) (right_fold h fun x hx=>by obtain ⟨c,hc1,rfl⟩:=chOf_mem (List.mem_of_mem_take hx); exact hc c hc1) hc
theorem part_size {s:ByteArray} (h:G2 s=true):s.size≤80:=by
  unfold G2 at h
  simp only [Bool.and_eq_true,decide_eq_true_eq] at h
  omega
theorem S3 {s:ByteArray} (h:A4 s=true):s.size≤161:=by
  unfold A4 at h
  split at h
  · have:=part_size h; omega
  · rename_i hs
    rw [Bool.and_eq_true] at h
    obtain ⟨h1,h2,h3⟩:=X0 hs
    have a1:=part_size h.1
    have a2:=part_size h.2
    omega
theorem dir_size (s:ByteArray):(dirB s).size≤s.size:=by
  unfold dirB
  split
  · exact Nat.zero_le _
  · rw [ByteArray.size_extract]; omega
structure CalI (w a r i j:Nat) (M:DM):Prop where
  room:M.room=1048576
  fails:M.fails=false
  calls:M.calls=0
  bodies:M.bodies.length≤j
  size:∀ B∈M.bodies,B.now.size≤999 * (a+1)+r∧B.kept.size≤B.now.size
  names:M.names.length≤w
  kept:M.kept.length+addsC M.changes≤w
  changes:M.changes.length≤i
  rn:R6 M.names
  rk:R6 M.kept
  rc:∀ c∈M.changes,R6 c.l∧c.dir.size≤161
theorem CalI.small {w a r i j:Nat} {M:DM} (h:CalI w a r i j M) (hw:w+a≤60) (hr:r≤8 * w) (hi:i≤60) (hj:j≤60):Y0 M:=by
  refine ⟨by have:=h.bodies; omega,fun B hB=>?_,by have:=h.names; omega,by have:=h.changes; omega,by rw [h.calls]; omega,fun x hx=>by have:=S3 (h.rn x hx); omega,fun c hc=>by have:=(h.rc c hc).2; omega⟩
  obtain ⟨h1,h2⟩:=h.size B hB
  exact ⟨by have:999 * (a+1)+r≤10000000:=by omega
            omega,h2⟩
theorem err_right {M:DM} {r:Bool} (h:J0 M r=0):r=true:=by
  cases r
  · exact absurd (show (2:Int)=0 from h) (by decide)
  · rfl
def Cal (i:Nat) (M:DM):Prop:=∃ w a,w+a≤i∧CalI w a 0 i i M
theorem Cal.small {i:Nat} {M:DM} (h:Cal i M) (hi:i≤60):Y0 M:=by
  obtain ⟨w,a,h1,h2⟩:=h
  exact h2.small (by omega) (Nat.zero_le _) hi hi
end Go.Vf
namespace Go.Pr
open Go.Sw Go.Vf Go.Lib Go.Proofs.YtdolpaagdpeagaaGreatDoor
theorem Y8 {a b:ByteArray} (h:a.toList=b.toList):a=b:=by
  rw [toList_data,toList_data] at h
  exact ByteArray.ext (Array.toList_inj.1 h)
theorem ext_dl {a b:ByteArray} (h:a.data.toList=b.data.toList):a=b:=ByteArray.ext (Array.toList_inj.1 h)
theorem app_dl (a b:ByteArray):(a++b).data.toList=a.data.toList++b.data.toList:=by rw [ByteArray.data_append,Array.toList_append]
theorem dig_rng:∀ (k n:Nat),n<10 ^ (k+1)→∀ c∈decDigits n,48≤c.toNat∧c.toNat≤57
  | k,n,h=>by
    intro c hc
    unfold decDigits at hc
    split at hc
    · rename_i h1
      rw [List.mem_singleton.1 hc,UInt8.toNat_ofNat']
      omega
    · cases k with
      | zero=>omega
      | succ k =>
        rcases List.mem_append.1 hc with hc | hc
        · exact dig_rng k (n / 10) (by rw [Nat.pow_succ] at h; omega) c hc
        · rw [List.mem_singleton.1 hc,UInt8.toNat_ofNat']
          omega
theorem dig_all (n:Nat):∀ c∈decDigits n,48≤c.toNat∧c.toNat≤57:=dig_rng n n (Nat.lt_of_lt_of_le (Nat.lt_pow_self (by decide)) (Nat.pow_le_pow_right (by decide) (by omega)))
def valD:List UInt8→Nat:=fun l=>l.foldl (fun a c=>a * 10+(c.toNat - 48)) 0
theorem dig_val:∀ (k n:Nat),n<10 ^ (k+1)→valD (decDigits n)=n
  | k,n,h=>by
    unfold decDigits
    split
    · show 0 * 10+((UInt8.ofNat (48+n)).toNat - 48)=n
      rw [UInt8.toNat_ofNat']; omega
    · cases k with
      | zero=>omega
      | succ k =>
        have:=dig_val k (n / 10) (by rw [Nat.pow_succ] at h; omega)
        unfold valD at this ⊢
        rw [List.foldl_append,this]
        show n / 10 * 10+((UInt8.ofNat (48+n % 10)).toNat - 48)=n
        rw [UInt8.toNat_ofNat']; omega
theorem dig_inj {n m:Nat} (h:decDigits n=decDigits m):n=m:=by
  have a:=dig_val n n (Nat.lt_of_lt_of_le (Nat.lt_pow_self (by decide)) (Nat.pow_le_pow_right (by decide) (by omega)))
  have b:=dig_val m m (Nat.lt_of_lt_of_le (Nat.lt_pow_self (by decide)) (Nat.pow_le_pow_right (by decide) (by omega)))
  rw [← a,← b,h]
theorem itB_dl {n:Int} (h:0≤n):(itB n).data.toList=decDigits n.toNat:=by
  unfold itB itoa; rw [if_neg (by omega)]
theorem gB_dl {n:Int} (h:0≤n):(gB n).data.toList=103::decDigits n.toNat:=by
  rw [gB,app_dl,itB_dl h]; rfl
theorem gB_inj {n m:Int} (hn:0≤n) (hm:0≤m) (h:gB n=gB m):n=m:=by
  have:=congrArg (fun b:ByteArray=>b.data.toList) h
  simp only [gB_dl hn,gB_dl hm] at this
  injection this with _ this
  have:=dig_inj this
  omega
theorem inG_dl {n:Int} (x:ByteArray):(inG n x).data.toList=(gB n).data.toList++47::x.data.toList:=by
  rw [inG,app_dl,app_dl]; simp [slB]
theorem inG_inj {n:Int} {x y:ByteArray} (h:inG n x=inG n y):x=y:=by
  have:=congrArg (fun b:ByteArray=>b.data.toList) h
  simp only [inG_dl] at this
  have:=List.append_cancel_left this
  injection this with _ this
  exact ext_dl this
theorem slash_app {a:List UInt8} {x:List UInt8} {s:ByteArray} (hs:s.data.toList=a++47::x) (ha:∀ c∈a,c≠47):K5 s=(a.length:Int):=by
  have hz:s.size=a.length+1+x.length:=by
    have:=congrArg List.length hs
    rw [Array.length_toList] at this
    show s.data.size=_
    rw [this,List.length_append,List.length_cons]; omega
  rcases bIdx_spec s (c:=47) (by omega) (by omega) with ⟨k,hk,he,h1,h2⟩ | ⟨he,h1⟩
  · have:K5 s=k:=he
    rw [this]
    congr 1
    rcases Nat.lt_trichotomy k a.length with h | h | h
    · exfalso
      have e:G9 s (k:Int)=47:=h1
      unfold G9 at e
      rw [Int.toNat_natCast,hs,List.getElem?_append_left h,List.getElem?_eq_getElem h,Option.getD_some] at e
      exact ha _ (List.getElem_mem h) (UInt8.toNat_inj.1 (by have:((a[k].toNat:Nat):Int)=47:=e; show a[k].toNat=47; omega))
    · exact h
    · exfalso
      refine h2 a.length h ?_
      unfold G9
      rw [Int.toNat_natCast,hs,List.getElem?_append_right (Nat.le_refl _),Nat.sub_self]; rfl
  · exfalso
    refine h1 a.length (by omega) ?_
    unfold G9
    rw [Int.toNat_natCast,hs,List.getElem?_append_right (Nat.le_refl _),Nat.sub_self]; rfl
theorem gB_no {n:Int} (h:0≤n):∀ c∈(gB n).data.toList,c≠47:=fun c hc e=>by
  rw [gB_dl h] at hc
  rcases List.mem_cons.1 hc with hc | hc
  · rw [e] at hc; cases hc
  · have:=dig_all _ c hc
    rw [e] at this
    exact absurd this.1 (by decide)
theorem J2 {n:Int} (h:0≤n) (x:ByteArray):dirB (inG n x)=gB n:=by
  have hs:=slash_app (inG_dl x) (gB_no h)
  unfold dirB
  rw [if_neg (by rw [hs]; omega),hs]
  refine ext_dl ?_
  rw [ByteArray.data_extract,Array.toList_extract,inG_dl,Int.toNat_natCast]
  simp
theorem cur_dir0:dirB G7=ByteArray.mk #[]:=by decide +kernel
theorem fresh_dir0:dirB E6=ByteArray.mk #[]:=by decide +kernel
theorem gB_ne {n:Int} (h:0≤n):gB n≠ByteArray.mk #[]:=fun e=>by
  have:=congrArg (fun b:ByteArray=>b.data.toList) e
  simp only [gB_dl h] at this
  cases this
theorem cur_dir {n:Int} (h:0≤n):dirB G7≠gB n:=fun e=>gB_ne h (by rw [← e,cur_dir0])
theorem cur_fresh:G7≠E6:=by decide +kernel
theorem fresh_cur:(E6==G7)=false:=by rw [beq_eq_false_iff_ne]; exact fun e=>cur_fresh e.symm
theorem R5 {n:Int} (h:0≤n) (x:ByteArray):inG n x≠E6:=fun e=>gB_ne h (by rw [← J2 h x,e,fresh_dir0])
theorem inG_cur {n:Int} (h:0≤n) (x:ByteArray):inG n x≠G7:=fun e=>gB_ne h (by rw [← J2 h x,e,cur_dir0])
theorem callS_or (f o:Bool) (c:Int) (r:Bool):(B7 f o c r).1=0∨(B7 f o c r).1=2∨(B7 f o c r).1=62:=by
  unfold B7
  split
  · exact .inr (.inl rfl)
  · split
    · exact .inl rfl
    · split
      · exact .inl rfl
      · exact .inr (.inr rfl)
theorem byte_mem {s:ByteArray} {j:Nat} (h:j<s.size):∃ b∈s.data.toList,G9 s (j:Int)=((b.toNat:Nat):Int):=by
  have hj:j<s.data.toList.length:=by rw [Array.length_toList]; exact h
  refine ⟨s.data.toList[j],List.getElem_mem hj,?_⟩
  unfold G9
  rw [Int.toNat_natCast,List.getElem?_eq_getElem hj,Option.getD_some]
theorem pall_of {s:ByteArray} (h:∀ b∈s.data.toList,pbyte ((b.toNat:Nat):Int)=true):pallB s=true:=by
  unfold pallB
  rw [List.all_eq_true]
  intro j hj
  obtain ⟨b,hb,e⟩:=byte_mem (List.mem_range.1 hj)
  rw [e]; exact h b hb
theorem dig_len:∀ (k n:Nat),n<10 ^ (k+1)→(decDigits n).length≤k+1
  | k,n,h=>by
    unfold decDigits
    split
    · simp
    · cases k with
      | zero=>omega
      | succ k =>
        rw [List.length_append]
        have:=dig_len k (n / 10) (by rw [Nat.pow_succ] at h; omega)
        simp only [List.length_cons,List.length_nil]
        omega
theorem gB_size {n:Int} (h:0≤n) (h1:n≤1000000000):(gB n).size≤11:=by
  show (gB n).data.size≤11
  rw [← Array.length_toList,gB_dl h,List.length_cons]
  have:=dig_len 9 n.toNat (by omega)
  omega
theorem part_gB {n:Int} (h:0≤n) (h1:n≤1000000000):G2 (gB n)=true:=by
  have hz:=gB_size h h1
  have hp:pallB (gB n)=true:=pall_of fun b hb=>by
    rw [gB_dl h] at hb
    rcases List.mem_cons.1 hb with rfl | hb
    · decide
    · obtain ⟨h2,h3⟩:=dig_all _ b hb
      unfold pbyte
      simp only [Bool.or_eq_true,Bool.and_eq_true,decide_eq_true_eq]
      left; left; left; right
      omega
  have ne:∀ l:List UInt8,l.head?≠some 103→((gB n).toList==(ByteArray.mk l.toArray).toList)=false:=fun l hl=>by
    rw [beq_eq_false_iff_ne,toList_data,toList_data]
    intro e
    have e:(gB n).data.toList=l:=e.trans List.toList_toArray
    rw [gB_dl h] at e
    exact hl (by rw [← e]; rfl)
  unfold G2
  rw [hp,show ((gB n).toList==eB.toList)=false from ne [] (by simp),show ((gB n).toList==(mB #[46]).toList)=false from ne [46] (by decide),show ((gB n).toList==(mB #[46,46]).toList)=false from ne [46,46] (by decide),decide_eq_true (by omega)]
  rfl
theorem slash_no {x:ByteArray} (h:x.data.toList.contains 47=false):K5 x<0:=by
  rcases bIdx_spec x (c:=47) (by omega) (by omega) with ⟨k,hk,_,h1,_⟩ | ⟨he,_⟩
  · obtain ⟨b,hb,e⟩:=byte_mem hk
    have:b=47:=by
      have e2:((b.toNat:Nat):Int)=47:=by rw [← e]; exact h1
      have e3:b.toNat=47:=by omega
      exact UInt8.toNat_inj.1 e3
    subst this
    rw [List.contains_iff_mem.2 hb] at h; cases h
  · show bIdx x 47<0
    rw [he]; omega
theorem name_part {x:ByteArray} (h:R2 x=true):G2 x=true∧x≠maniB:=by
  unfold R2 at h
  simp only [Bool.and_eq_true,Bool.not_eq_true'] at h
  have hs:=slash_no h.1.2
  have h1:=h.1.1
  unfold A4 at h1
  rw [if_pos hs] at h1
  exact ⟨h1,fun e=>by have:=h.2; rw [e] at this; simp at this⟩
theorem part_mani:G2 maniB=true:=by decide +kernel
theorem right_inG {n:Int} (h:0≤n) (h1:n≤1000000000) {x:ByteArray} (hx:G2 x=true):A4 (inG n x)=true:=by
  have hs:=slash_app (inG_dl x) (gB_no h)
  have e1:(inG n x).extract 0 (K5 (inG n x)).toNat=gB n:=by
    have:=J2 h x
    unfold dirB at this
    rwa [if_neg (by rw [hs]; omega)] at this
  have e2:(inG n x).extract ((K5 (inG n x)).toNat+1) (inG n x).size=x:=by
    refine ext_dl ?_
    rw [ByteArray.data_extract,Array.toList_extract,inG_dl,hs,Int.toNat_natCast]
    have hz:(inG n x).size=(gB n).data.toList.length+(x.data.toList.length+1):=by
      show (inG n x).data.size=_
      rw [← Array.length_toList,inG_dl,List.length_append,List.length_cons]
    rw [hz,List.extract_eq_take_drop,List.drop_length_add_append,List.drop_succ_cons,List.drop_zero,List.take_of_length_le (by omega)]
  unfold A4
  rw [if_neg (by rw [hs]; omega),e1,e2,part_gB h h1,hx]; rfl
theorem dirR_gB {n:Int} (h:0≤n) (h1:n≤1000000000):dirR (gB n)=true:=by unfold dirR; rw [part_gB h h1,Bool.or_true]
theorem right_fresh:A4 E6=true:=by decide +kernel
theorem right_cur:A4 G7=true:=by decide +kernel
theorem ren_right:renR E6 G7=true:=by decide +kernel
theorem dirR_root:dirR eB=true:=by decide +kernel
theorem err_true {M:DM} {r:Bool} (hr:r=true):J0 M r=0∨J0 M r=62:=by
  subst hr
  unfold J0 B7
  rw [if_neg (by decide)]
  split
  · exact .inl rfl
  · split
    · exact .inl rfl
    · exact .inr rfl
end Go.Pr
namespace Go.Pr
open Go.Sw Go.Vf Go.Lib Go.Sort Go.Proofs Go.Proofs.YtdolpaagdpeagaaGreatDoor
def keyF (f:FB):List UInt8:=f.1.data.toList
theorem Y6 (f g:FB):Op.bytesLess f.1.toList g.1.toList=decide (keyF f<keyF g):=by
  rw [bytesLess_eq,toList_data,toList_data]; rfl
theorem key_inj {f g:FB} (h:keyF f=keyF g):f.1=g.1:=ext_dl h
def Desc (l:List FB):Prop:=l.Pairwise fun a b=>¬ keyF a<keyF b
theorem insR_cons (f x:FB) (r:List FB):insR f (x::r)=if Op.bytesLess f.1.toList x.1.toList then x::insR f r else f::x::r:=rfl
theorem insR_perm (f:FB):∀ l:List FB,(insR f l).Perm (f::l)
  | []=>List.Perm.refl _
  | x::r=>by
    rw [insR_cons]
    split
    · exact ((insR_perm f r).cons x).trans (List.Perm.swap f x r)
    · exact List.Perm.refl _
theorem insR_desc {f:FB}:∀ {l:List FB},Desc l→Desc (insR f l)
  | [],_=>List.pairwise_singleton _ _
  | x::r,h=>by
    unfold Desc at h
    rw [List.pairwise_cons] at h
    rw [insR_cons,Y6]
    by_cases hl:keyF f<keyF x
    · rw [if_pos (by simpa using hl)]
      refine List.pairwise_cons.2 ⟨fun y hy=>?_,insR_desc h.2⟩
      rcases List.mem_cons.1 ((insR_perm f r).mem_iff.1 hy) with rfl | hy
      · exact fun h2=>List.lt_asymm hl h2
      · exact h.1 y hy
    · rw [if_neg (by simpa using hl)]
      refine List.pairwise_cons.2 ⟨fun y hy=>?_,List.pairwise_cons.2 h⟩
      rcases List.mem_cons.1 hy with rfl | hy
      · exact hl
      · exact List.not_lt.2 (List.le_trans (List.not_lt.1 (h.1 y hy)) (List.not_lt.1 hl))
theorem sortR_spec (l:List FB):Desc (sortR l)∧(sortR l).Perm l:=by
  unfold sortR sortRK
  have:∀ (l a:List FB),Desc a→Desc (l.foldl (fun a f=>insR f a) a)∧(l.foldl (fun a f=>insR f a) a).Perm (a++l):=by
    intro l
    induction l with
    | nil=>intro a h; exact ⟨h,by rw [List.append_nil]; exact List.Perm.refl _⟩
    | cons f l ih =>
      intro a h
      obtain ⟨h1,h2⟩:=ih (insR f a) (insR_desc h)
      refine ⟨h1,h2.trans ?_⟩
      exact ((insR_perm f a).append_right l).trans (List.perm_middle (a:=f) (l₁:=a) (l₂:=l)).symm
  have h:=this l [] List.Pairwise.nil
  rwa [List.nil_append] at h
theorem sortP_perm (l:List FB):(sortP l).Perm l:=(List.reverse_perm _).trans (sortR_spec l).2
theorem sortP_asc (l:List FB):(sortP l).Pairwise fun a b=>¬ keyF b<keyF a:=by
  unfold sortP sortPK
  rw [List.pairwise_reverse]; exact (sortR_spec l).1
def Asc (l:List FB):Prop:=l.Pairwise fun a b=>keyF a<keyF b
theorem twoP_spec:∀ {l:List FB},twoP l=true→l.Pairwise (fun a b=>¬ keyF b<keyF a)→Asc l∧∀ f∈l,R2 f.1=true
  | [],_,_=>⟨List.Pairwise.nil,fun _ h=>absurd h List.not_mem_nil⟩
  | [f],h,_=>⟨List.pairwise_singleton _ _,fun g hg=>by rw [List.mem_singleton.1 hg]; exact h⟩
  | f::g::r,h,hs=>by
    unfold twoP at h
    simp only [Bool.and_eq_true,Bool.not_eq_true'] at h
    obtain ⟨h1,h2,h3⟩:=h
    rw [List.pairwise_cons] at hs
    obtain ⟨i1,i2⟩:=twoP_spec h3 hs.2
    have hne:keyF f≠keyF g:=fun e=>by
      have:=key_inj e
      rw [this] at h2; simp at h2
    have hfg:keyF f<keyF g:=Decidable.byContradiction fun hn=>hne (List.le_antisymm (List.not_lt.1 (hs.1 g List.mem_cons_self)) (List.not_lt.1 hn))
    refine ⟨List.pairwise_cons.2 ⟨fun y hy=>?_,i1⟩,fun y hy=>?_⟩
    · rcases List.mem_cons.1 hy with rfl | hy
      · exact hfg
      · exact List.lt_trans hfg ((List.pairwise_cons.1 i1).1 y hy)
    · rcases List.mem_cons.1 hy with rfl | hy
      · exact h1
      · exact i2 y hy
theorem A0c {l:List FB} (h:Asc l):(l.map Prod.fst).Nodup:=by
  unfold Asc at h
  rw [List.nodup_iff_pairwise_ne,List.pairwise_map]
  exact h.imp fun {a b} hab e=>by
    have:keyF a=keyF b:=by unfold keyF; rw [e]
    rw [this] at hab; exact List.lt_irrefl _ hab
theorem name_mani {s:ByteArray} (h:R2 s=true):s≠maniB:=fun e=>by
  unfold R2 at h
  rw [e] at h; simp at h
structure SortOk (l s:List FB):Prop where
  asc:Asc s
  perm:s.Perm l
  names:∀ f∈s,R2 f.1=true
theorem K3 {l s:List FB} (h:F8 l=some s):SortOk l s:=by
  unfold F8 at h
  split at h
  · rename_i h1
    injection h with h
    obtain ⟨h2,h3⟩:=twoP_spec h1 (sortP_asc l)
    rw [← h]; exact ⟨h2,sortP_perm l,h3⟩
  · cases h
end Go.Pr
namespace Go.Pr
open Go.Sw Go.Vf Go.Sha
inductive FRd (S:Nat→Obj→Prop):List FB→List Value→Prop
  | nil:FRd S [] []
  | cons {f:FB} {l:List FB} {a:Option Addr} {c:Nat} {cs:List Value}:Rd S a (u8s f.2.data.toList)→Sh a f.2.size c→FRd S l cs→FRd S (f::l) (.string f.1::.slice a f.2.size c::cs)
theorem FRd.len {S:Nat→Obj→Prop}:∀ {l:List FB} {cs:List Value},FRd S l cs→cs.length=l.length * 2
  | [],_,.nil=>rfl
  | _::l,_,.cons _ _ h=>by rw [List.length_cons,List.length_cons,h.len,List.length_cons]; omega
theorem FRd.mono {S S':Nat→Obj→Prop} (hs:∀ b o,S b o→S' b o):∀ {l:List FB} {cs:List Value},FRd S l cs→FRd S' l cs
  | [],_,.nil=>.nil
  | _::_,_,.cons h1 h2 h3=>.cons (h1.mono hs) h2 (FRd.mono hs h3)
theorem FRd.snoc {S:Nat→Obj→Prop} {f:FB} {a:Option Addr} {c:Nat} (h1:Rd S a (u8s f.2.data.toList)) (h2:Sh a f.2.size c):∀ {l:List FB} {cs:List Value},FRd S l cs→FRd S (l++[f]) (cs++[.string f.1,.slice a f.2.size c])
  | [],_,.nil=>.cons h1 h2 .nil
  | _::_,_,.cons g1 g2 g3=>.cons g1 g2 (FRd.snoc h1 h2 g3)
theorem FRd.get {S:Nat→Obj→Prop}:∀ {l:List FB} {cs:List Value} {k:Nat} (hk:k<l.length),FRd S l cs→∃ (a:Option Addr) (c:Nat),(cs.drop (k * 2)).take 2=[.string l[k].1,.slice a l[k].2.size c]∧Rd S a (u8s l[k].2.data.toList)∧Sh a l[k].2.size c
  | [],_,_,hk,_=>absurd hk (Nat.not_lt_zero _)
  | _::_,_,0,_,.cons h1 h2 _=>⟨_,_,rfl,h1,h2⟩
  | _::l,_,k+1,hk,.cons _ _ h3=>by
    obtain ⟨a,c,h4,h5,h6⟩:=FRd.get (l:=l) (k:=k) (by simpa using hk) h3
    refine ⟨a,c,?_,h5,h6⟩
    rw [show (k+1) * 2=k * 2+1+1 by omega,List.drop_succ_cons,List.drop_succ_cons]; exact h4
end Go.Pr
namespace Go.Sw
open Go.RowKit
theorem GL_copy {P:Program} {ops:Array Oper} {i:Nat} {Q:D7} {n:Fr} {E:Env} {W0:World} {H H':List Grp} {o:Oper} {ch:List (Nat × Bool)} {dT sT el:TypeId} {x y:Operand}
    {b o1 n1 c1 n2 c2:Nat} {a:Addr} {c c':Array Value} {e:TypeId} {g:Grp} {j m:Nat} (cs:List Value)
    (ho:ops[i]? = some o) (hop:o.op=.call { callee:=.builtin .copy,args:=#[x,y],argTypes:=#[dT,sT] }) (hx:evO E ch x=some (.slice (some ⟨b,o1,none⟩) n1 c1)) (hy:evO E ch y=some (.slice (some a) n2 c2))
    (hu:P.underlying dT=some (.slice el)) (hs1:(P.info? el).map (·.size)=some 1)
    (hch:D4 ops E o.guard=some ch) (hd:F5 n ch o.dst=true) (hsure:N9 E ch=true)
    (hj:H[j]? = some g) (hi:g[m]? = some (b,.cells c e (0,0))) (hn:cs.length=Nat.min n2 n1)
    (hsrc:∀ w,Sat W0 H w→∀ k v,cs[k]? = some v→w.cell? (a.add k)=some v) (hfit:o1+cs.length≤c.size) (h1:(cs.all Value.oneCell')=true)
    (hc':(c.toList.take o1++cs++c.toList.drop (o1+cs.length)).toArray=c') (hH':H.set j (g.set m (b,.cells c' e (0,0)))=H')
    (k:GL false P ops (i+1) Q n (Env.put E o.dst ch (.int .i64 (cs.length:Int))) W0 H'):GL false P ops i Q n E W0 H:=by
  refine Z1 (R:=fun v H1=>v=.int .i64 (cs.length:Int)∧H1=H') ho hch hd hsure (fun r hr w hs=>?_) (by rintro v H1 ⟨rfl,rfl⟩; exact k)
  have hblk:=hs.has _ (List.mem_flatten.2 ⟨g,List.mem_of_getElem? hj,List.mem_of_getElem? hi⟩)
  have hrun:=run_copy_row (P:=P) w dT sT o.type el b o1 n1 c1 a n2 c2 c e cs hu hs1 hblk hn (hsrc w hs) hfit (fun v hv=>List.all_eq_true.1 h1 v hv)
  rw [hc'] at hrun
  have hwr:Wr b (.cells c' e (0,0)) w (w.setRow b c'):=by
    have hlt:=(Array.getElem?_eq_some_iff.1 hblk).1
    refine ⟨rfl,rfl,rfl,by simp [World.setRow],setRow_heap w b c c' e (0,0) hblk,fun k hk=>?_⟩
    show (w.heap.modify b _)[k]? = w.heap[k]?
    rw [Array.getElem?_modify,if_neg (Ne.symm hk)]
  refine ⟨_,w.setRow b c',H',⟨rfl,rfl⟩,?_,.inl ?_⟩
  · have:=hs.wr hj hi hwr
    rw [hH'] at this; exact this
  · unfold execOp
    simp only [hop,resolve,Array.map,Sem.run_bind,Sem.run_pure,Result.andThen_ok,invoke,Go.builtin]
    simp [hr _ _ hx,hr _ _ hy,hrun,goInt,Result.andThen_ok]
theorem GL_sliceArr {d:Bool} {P:Program} {ops:Array Oper} {i:Nat} {Q:D7} {n:Fr} {E:Env} {W0:World} {H:List Grp} {o:Oper} {ch:List (Nat × Bool)} {t e:TypeId} {x:Operand} {lo hi:Option Operand} {b off len sz:Nat} {vl vh:Option Value} {l h:Int}
    (ho:ops[i]? = some o) (hop:o.op=.slice t x lo hi none) (hx:evO E ch x=some (.pointer (some ⟨b,off,none⟩))) (hvl:evOO (evO E ch) lo=some vl) (hvh:evOO (evO E ch) hi=some vh) (hu:P.underlying t=some (.array len e)) (hsz:T5 P e=some sz)
    (hl:loV vl=some l) (hh:hiV len vh=some h)
    (hch:D4 ops E o.guard=some ch) (hd:F5 n ch o.dst=true) (hk:J3 E ch=true)
    (hb:chB E ch→0≤l∧l≤h∧h≤len∧l.toNat<len)
    (k:GL d P ops (i+1) Q n (Env.put E o.dst ch (.slice (some ⟨b,off+l.toNat * sz,none⟩) (h.toNat - l.toNat) (len - l.toNat))) W0 H):GL d P ops i Q n E W0 H:=by
  refine I2 ho hch hd hk (fun r hr hcb w _=>?_) k
  obtain ⟨h0,h1,h2,h3⟩:=hb hcb
  have hm:∀ {y:Option Operand} {v:Option Value},evOO (evO E ch) y=some v→y.map r=v:=by
    intro y v hv
    cases y with
    | none=>simp only [evOO,Option.some.injEq] at hv; subst hv; rfl
    | some y =>
      simp only [evOO] at hv
      split at hv
      · rename_i u hu; injection hv with hv; subst hv; simp [hr _ _ hu]
      · simp at hv
  unfold execOp
  simp only [hop]
  rw [hr _ _ hx,hm hvl,hm hvh]
  simp only [Instr.sliceAt,Sem.run_bind,run_underlying hu,Result.andThen_ok,Option.map_none,Instr.sureAddr,Sem.run_pure,
    X1 (P:=P) (isSlice:=false) hl hh h0 h1 h2,J1 hsz]
  rw [if_neg (by omega),L5]
  exact ⟨rfl,rfl⟩
theorem GL_indexV {d:Bool} {P:Program} {ops:Array Oper} {i:Nat} {Q:D7} {n:Fr} {E:Env} {W0:World} {H:List Grp} {o:Oper} {ch:List (Nat × Bool)} {t e:TypeId} {x ix:Operand} {vs:Array Value} {kd:IntKind} {j:Int} {len:Nat} {v:Value}
    (ho:ops[i]? = some o) (hop:o.op=.index t x ix) (hx:evO E ch x=some (.agg vs)) (hix:evO E ch ix=some (.int kd j)) (hu:P.underlying t=some (.array len e)) (hsz:T5 P e=some 1) (hag:aggB P e=some false)
    (hch:D4 ops E o.guard=some ch) (hd:F5 n ch o.dst=true) (hk:J3 E ch=true)
    (hb:chB E ch→0≤j∧j<len∧vs[j.toNat]? = some v)
    (k:GL d P ops (i+1) Q n (Env.put E o.dst ch v) W0 H):GL d P ops i Q n E W0 H:=by
  refine I2 ho hch hd hk (fun r hr hcb w _=>?_) k
  obtain ⟨h0,h1,h2⟩:=hb hcb
  unfold execOp
  simp only [hop]
  rw [hr _ _ hx,hr _ _ hix]
  simp only [Instr.index,asIntOf,Sem.run_bind,Sem.run_pure,Result.andThen_ok,run_underlying hu,if_pos (⟨h0,h1⟩:0≤j∧j<(len:Int)),J1 hsz,Nat.mul_one]
  rw [partV_sound (v:=v) (by unfold partV; rw [hag]; exact h2)]
  exact ⟨rfl,rfl⟩
theorem GL_appendZ {P:Program} {ops:Array Oper} {i:Nat} {Q:D7} {q:Fr} {E:Env} {W0:World} {H:List Grp} {o:Oper} {ch:List (Nat × Bool)} {c:Call} {t tn e:TypeId} {inf:TypeInfo} {z:Value} {n:Nat} {kn kd:IntKind}
    (ho:ops[i]? = some o) (hop:o.op=.call c) (hce:c.callee=.builtin .append) (hat:c.argTypes=#[t,tn]) (hargs:evL (evO E ch) c.args.toList=some [.slice none 0 0,.int kd (n:Int)])
    (ht:P.underlying t=some (.slice e)) (htn:P.underlying tn=some (.int kn)) (hi:P.info? e=some inf) (hz:inf.zero=some z) (hzs:z.cells.size=inf.size) (h0s:0<inf.size)
    (hch:D4 ops E o.guard=some ch) (hd:F5 q ch o.dst=true) (hsure:N9 E ch=true) (h0:0<n) (h63:(n:Int)≤9223372036854775807) (h48:n * inf.bytes≤281474976710656)
    (k:∀ b cap c,n≤cap→c.length=cap * inf.size→GL false P ops (i+1) Q q (Env.put E o.dst ch (.slice (some ⟨b,0,none⟩) n cap)) W0 ([(b,.cells (List.toArray c) e (0,0))]::H)):GL false P ops i Q q E W0 H:=by
  refine Z1 (R:=fun v H1=>∃ b cap c,n≤cap∧c.length=cap * inf.size∧v=.slice (some ⟨b,0,none⟩) n cap∧H1=[(b,.cells (List.toArray c) e (0,0))]::H) ho hch hd hsure (fun r hr w hs=>?_) (by rintro v H1 ⟨b,cap,c,h1,h2,rfl,rfl⟩; exact k b cap c h1 h2)
  have hrun:=Go.Lib.run_append_nil_zeros (P:=P) w t tn o.type e inf z kd kn ht htn hi hz n h0 h0s h63 h48
  have hge:=grownCap_ge w n 0 e
  refine ⟨_,w.drew.alloc (.cells (Builtin.zeroCells z.cells n++Builtin.zeroCells z.cells (grownCap w n 0 e - n)) e),_,⟨w.heap.size,grownCap w n 0 e,(Builtin.zeroCells z.cells n++Builtin.zeroCells z.cells (grownCap w n 0 e - n)).toList,hge,?_,rfl,rfl⟩,?_,.inl ?_⟩
  · rw [Array.length_toList,Array.size_append,T9,T9,hzs,← Nat.add_mul]
    congr 1; omega
  · rw [Array.toArray_toList]
    exact (hs.drew).new rfl rfl rfl rfl
  · unfold execOp
    simp only [hop,resolve,hce,hat,O1 hr hargs,Sem.run_bind,Sem.run_pure,Result.andThen_ok,invoke,Go.builtin,hrun]
theorem cutA_zero (b cap sz:Nat):I9 (some ⟨b,0,none⟩) cap 0 sz=some ⟨b,0,none⟩:=by
  unfold I9; split
  · rfl
  · simp [L5]
theorem own_cut0 {b cap sz:Nat} {c:List Value} {e:TypeId} (h:c.length=cap * sz):Own e sz (.slice (some ⟨b,0,none⟩) 0 cap) [(b,.cells c.toArray e (0,0))] 0 [] :=
  ⟨by simp,.inr ⟨b,cap,c,rfl,rfl,Nat.zero_le _,h⟩⟩
theorem X3 {et:TypeId} {sz:Nat} {v:Value} {g:Grp} {n:Nat} {cs cs':List Value} (h:Own et sz v g n cs) (e:cs=cs'):Own et sz v g n cs':=e ▸ h
theorem own_none {et:TypeId} {sz:Nat} {a:Option Addr} {cap:Nat} {g:Grp} {n:Nat} {cs:List Value} (h:Own et sz (.slice a n cap) g n cs):a=none→n=0:=by
  rintro rfl
  obtain ⟨_,⟨h1,_,h2⟩ | ⟨b,cap,junk,h1,_⟩⟩:=h
  · exact h2
  · injection h1 with h1; cases h1
theorem ownC_cap {et:TypeId} {sz:Nat} {a:Option Addr} {cap:Nat} {g:Grp} {n:Nat} {cs:List Value} (h:Own et sz (.slice a n cap) g n cs):n≤cap:=by
  obtain ⟨_,⟨h1,_,h2⟩ | ⟨b,cap',junk,h1,_,h3,_⟩⟩:=h
  · omega
  · injection h1 with h1 h4 h5; omega
theorem own_some {et:TypeId} {sz:Nat} {a:Option Addr} {cap:Nat} {g:Grp} {n:Nat} {cs:List Value} (h:Own et sz (.slice a n cap) g n cs) (hn:0<n):∃ b,a=some ⟨b,0,none⟩:=by
  obtain ⟨_,⟨h1,_,h2⟩ | ⟨b,cap,junk,h1,_⟩⟩:=h
  · omega
  · injection h1 with h1; exact ⟨b,h1⟩
theorem cells_at {w:World} {b off k:Nat} {c:Array Value} {e:TypeId} {fz:Nat × Nat} {cs:List Value} {v:Value} (h:w.heap[b]? = some (.cells c e fz)) (hc:(c.toList.drop off).take cs.length=cs) (hv:cs[k]? = some v) :
    w.cell? ((⟨b,off,none⟩:Addr).add k)=some v:=by
  rw [L5]
  unfold World.cell?
  rw [h]
  rw [← hc,List.getElem?_take] at hv
  split at hv
  · rw [List.getElem?_drop,Array.getElem?_toList] at hv; exact hv
  · simp at hv
end Go.Sw
namespace Go.Sw
open Go.RowKit
theorem shape_of {w:World} {b:Nat} {c:Array Value} {e:TypeId} {fz:Nat × Nat} (h:w.heap[b]? = some (.cells c e fz)):w.shape? b=some (e,c.size):=by simp [World.shape?,h]
theorem GL_toUnsafe {d:Bool} {P:Program} {ops:Array Oper} {i:Nat} {Q:D7} {n:Fr} {E:Env} {W0:World} {H:List Grp} {o:Oper} {ch:List (Nat × Bool)} {src dst t e:TypeId} {x:Operand} {inf:TypeInfo} {b:Nat} {c:Array Value} {fz:Nat × Nat}
    (ho:ops[i]? = some o) (hop:o.op=.convert src dst x) (hx:evO E ch x=some (.pointer (some ⟨b,0,none⟩))) (hs:P.underlying src=some (.pointer t)) (hdd:P.underlying dst=some .unsafePointer) (ht:P.info? t=some inf) (hj:(inf.size != 0)=true)
    (hch:D4 ops E o.guard=some ch) (hd:F5 n ch o.dst=true) (hk:J3 E ch=true)
    (hA:At W0 H b (.cells c e fz)) (hc:(c.size != 0)=true)
    (k:GL d P ops (i+1) Q n (Env.put E o.dst ch (.pointer (some ⟨b,0,none⟩))) W0 H):GL d P ops i Q n E W0 H:=by
  refine I2 ho hch hd hk (fun r hr _ w hsat=>?_) k
  unfold execOp
  simp only [hop]
  rw [hr _ _ hx]
  have:=Go.Lib.run_to_unsafe (P:=P) w ⟨b,0,none⟩ hs hdd ht (by simpa using hj) (shape_of (hsat.at hA)) (Nat.pos_of_ne_zero (by simpa using hc))
  simp only [Sem.run_bind,this,Result.andThen_ok]
  exact ⟨rfl,rfl⟩
theorem GL_fromUnsafe {d:Bool} {P:Program} {ops:Array Oper} {i:Nat} {Q:D7} {n:Fr} {E:Env} {W0:World} {H:List Grp} {o:Oper} {ch:List (Nat × Bool)} {src dst u e:TypeId} {x:Operand} {inf:TypeInfo} {b:Nat} {c:Array Value} {fz:Nat × Nat}
    (ho:ops[i]? = some o) (hop:o.op=.convert src dst x) (hx:evO E ch x=some (.pointer (some ⟨b,0,none⟩))) (hs:P.underlying src=some .unsafePointer) (hdd:P.underlying dst=some (.pointer u)) (ht:P.info? u=some inf)
    (hch:D4 ops E o.guard=some ch) (hd:F5 n ch o.dst=true) (hk:J3 E ch=true)
    (hA:At W0 H b (.cells c e fz)) (hlies:liesAt P P.depth e (c.size / P.cellsOf e) 0 u 1=true)
    (k:GL d P ops (i+1) Q n (Env.put E o.dst ch (.pointer (some ⟨b,0,none⟩))) W0 H):GL d P ops i Q n E W0 H:=by
  refine I2 ho hch hd hk (fun r hr _ w hsat=>?_) k
  unfold execOp
  simp only [hop]
  rw [hr _ _ hx]
  have:=Go.Lib.run_from_unsafe (P:=P) w ⟨b,0,none⟩ hs hdd ht (shape_of (hsat.at hA)) hlies
  simp only [Sem.run_bind,this,Result.andThen_ok]
  exact ⟨rfl,rfl⟩
theorem GL_neqPtr {d:Bool} {P:Program} {ops:Array Oper} {i:Nat} {Q:D7} {n:Fr} {E:Env} {W0:World} {H:List Grp} {o:Oper} {ch:List (Nat × Bool)} {tp te:TypeId} {x y:Operand} {inf:TypeInfo} {a:Addr}
    (ho:ops[i]? = some o) (hop:o.op=.binOp .neq tp x y tp) (hx:evO E ch x=some (.pointer (some a))) (hy:evO E ch y=some (.pointer (some a))) (hp:P.underlying tp=some (.pointer te)) (ht:P.info? te=some inf)
    (hch:D4 ops E o.guard=some ch) (hd:F5 n ch o.dst=true) (hk:J3 E ch=true)
    (k:GL d P ops (i+1) Q n (Env.put E o.dst ch (.bool false)) W0 H):GL d P ops i Q n E W0 H:=by
  refine I2 ho hch hd hk (fun r hr _ w hsat=>?_) k
  unfold execOp
  simp only [hop]
  rw [hr _ _ hx,hr _ _ hy]
  have:=Go.Lib.run_neq_ptr_same (P:=P) w a hp ht
  have hg:(eqGuard .neq tp x y (.pointer (some a)) (.pointer (some a))).run P w=.ok () w:=rfl
  simp only [Sem.run_bind,hg,this,Result.andThen_ok]
  exact ⟨rfl,rfl⟩
theorem GL_sliceData {d:Bool} {P:Program} {ops:Array Oper} {i:Nat} {Q:D7} {n:Fr} {E:Env} {W0:World} {H:List Grp} {o:Oper} {ch:List (Nat × Bool)} {c:Call} {a:Option Addr} {l cap:Nat}
    (ho:ops[i]? = some o:=by exact rfl) (hop:o.op=.call c:=by exact rfl) (hce:c.callee=.builtin .unsafeSliceData:=by exact rfl) (hargs:evL (evO E ch) c.args.toList=some [.slice a l cap]:=by kernel_rfl) (hc:a=none∨cap≠0)
    (hch:D4 ops E o.guard=some ch:=by kernel_rfl) (hd:F5 n ch o.dst=true:=by kernel_rfl) (hk:J3 E ch=true:=by kernel_rfl)
    (k:GL d P ops (i+1) Q n (Env.put E o.dst ch (.pointer a)) W0 H):GL d P ops i Q n E W0 H:=by
  refine I2 ho hch hd hk (fun r hr _ w hsat=>?_) k
  unfold execOp
  have hrun:(Builtin.unsafeSliceData_ c.argTypes o.type #[.slice a l cap]).run P w=.ok (.pointer a) w:=by
    cases a with
    | none=>exact Go.Lib.run_unsafeSliceData_nil (P:=P) w _ _ l cap
    | some a=>exact Go.Lib.run_unsafeSliceData_row (P:=P) w _ _ a l cap (by simpa using hc)
  simp only [hop,resolve,hce,O1 hr hargs,Sem.run_bind,Sem.run_pure,Result.andThen_ok,invoke,Go.builtin,hrun]
  exact ⟨rfl,rfl⟩
theorem GL_sliceData0 {P:Program} {ops:Array Oper} {i:Nat} {Q:D7} {n:Fr} {E:Env} {W0:World} {H:List Grp} {o:Oper} {ch:List (Nat × Bool)} {c:Call} {b:Nat} {l:Nat} {e:TypeId} {cs:Array Value} {et:TypeId} {fz:Nat × Nat}
    (ho:ops[i]? = some o) (hop:o.op=.call c) (hce:c.callee=.builtin .unsafeSliceData) (hargs:evL (evO E ch) c.args.toList=some [.slice (some ⟨b,0,none⟩) l 0]) (hp:P.underlying o.type=some (.pointer e))
    (hch:D4 ops E o.guard=some ch) (hd:F5 n ch o.dst=true) (hsure:N9 E ch=true) (hA:At W0 H b (.cells cs et fz))
    (k:∀ v,GL false P ops (i+1) Q n (Env.put E o.dst ch (.pointer (some ⟨v,0,none⟩))) W0 ([(v,.view ⟨b,0,none⟩ e)]::H)):GL false P ops i Q n E W0 H:=by
  refine Z1 (R:=fun v H1=>∃ q,v=.pointer (some ⟨q,0,none⟩)∧H1=[(q,.view ⟨b,0,none⟩ e)]::H) ho hch hd hsure (fun r hr w hs=>?_) (by rintro v H1 ⟨q,rfl,rfl⟩; exact k q)
  have hrun:=Go.Lib.run_unsafeSliceData_zero (P:=P) w c.argTypes o.type e hp ⟨b,0,none⟩ l _ (shape_of (hs.at hA))
  refine ⟨_,w.alloc (.view ⟨b,0,none⟩ e),_,⟨w.heap.size,rfl,rfl⟩,hs.new rfl rfl rfl rfl,.inl ?_⟩
  unfold execOp
  simp only [hop,resolve,hce,O1 hr hargs,Sem.run_bind,Sem.run_pure,Result.andThen_ok,invoke,Go.builtin,hrun]
theorem A0o {d:Bool} {P:Program} {ops:Array Oper} {i:Nat} {Q:D7} {n:Fr} {E:Env} {W0:World} {H:List Grp} {o:Oper} {ch:List (Nat × Bool)} {c:Call} {p:Option Addr} {pt it:TypeId}
    (ho:ops[i]? = some o:=by exact rfl) (hop:o.op=.call c:=by exact rfl) (hce:c.callee=.builtin .unsafeString:=by exact rfl) (hat:c.argTypes=#[pt,it]:=by exact rfl) (hargs:evL (evO E ch) c.args.toList=some [.pointer p,.int .i64 0]:=by kernel_rfl)
    (hch:D4 ops E o.guard=some ch:=by kernel_rfl) (hd:F5 n ch o.dst=true:=by kernel_rfl) (hk:J3 E ch=true:=by kernel_rfl)
    (k:GL d P ops (i+1) Q n (Env.put E o.dst ch (.string .empty)) W0 H):GL d P ops i Q n E W0 H:=by
  refine I2 ho hch hd hk (fun r hr _ w hsat=>?_) k
  unfold execOp
  simp only [hop,resolve,hce,hat,O1 hr hargs,Sem.run_bind,Sem.run_pure,Result.andThen_ok,invoke,Go.builtin,Go.Lib.run_unsafeString_none]
  exact ⟨rfl,rfl⟩
theorem freeze_wr {w:World} {b n:Nat} {c:Array Value} {e:TypeId} (h:w.heap[b]? = some (.cells c e (0,0))) (hn:n≠0):Wr b (.cells c e (0,n)) w (w.freeze ⟨b,0,none⟩ n):=by
  have hb:b<w.heap.size:=by
    rcases Nat.lt_or_ge b w.heap.size with h' | h'
    · exact h'
    · simp [Array.getElem?_eq_none h'] at h
  unfold World.freeze
  rw [if_neg hn]
  refine ⟨rfl,rfl,rfl,by simp,?_,fun k hk=>?_⟩
  · simp only [Array.getElem?_modify,h]
    simp
  · simp only [Array.getElem?_modify]
    rw [if_neg (Ne.symm hk)]
theorem GL_unsafeStr {P:Program} {ops:Array Oper} {i:Nat} {Q:D7} {n:Fr} {E:Env} {W0:World} {H:List Grp} {o:Oper} {ch:List (Nat × Bool)} {c:Call} {b j:Nat} {pt it e:TypeId} {cs:Array Value} {l:List UInt8}
    (ho:ops[i]? = some o) (hop:o.op=.call c) (hce:c.callee=.builtin .unsafeString) (hat:c.argTypes=#[pt,it]) (hargs:evL (evO E ch) c.args.toList=some [.pointer (some ⟨b,0,none⟩),.int .i64 (l.length:Int)])
    (hp:P.underlying pt=some (.pointer e)) (hc1:(P.cellsOf e==1)=true)
    (hch:D4 ops E o.guard=some ch) (hd:F5 n ch o.dst=true) (hsure:N9 E ch=true)
    (hj:H[j]? = some [(b,.cells cs e (0,0))]) (h0:l≠[]) (hlc:l.length≤cs.size) (hmax:l.length≤9223372036854775807) (hcell:∀ (k:Nat) x,l[k]? = some x→cs[k]? = some (.int .u8 (x.toNat:Int)))
    (k:GL false P ops (i+1) Q n (Env.put E o.dst ch (.string ⟨l.toArray⟩)) W0 (H.set j [(b,.cells cs e (0,l.length))])):GL false P ops i Q n E W0 H:=by
  refine Z1 (R:=fun v H1=>v=.string ⟨l.toArray⟩∧H1=H.set j [(b,.cells cs e (0,l.length))]) ho hch hd hsure (fun r hr w hs=>?_) (by rintro v H1 ⟨rfl,rfl⟩; exact k)
  have hi:([(b,Obj.cells cs e (0,0))]:Grp)[0]? = some (b,.cells cs e (0,0)):=rfl
  have hblk:=hs.has _ (List.mem_flatten.2 ⟨_,List.mem_of_getElem? hj,List.mem_of_getElem? hi⟩)
  have hrun:=Go.Lib.run_unsafeString_row (P:=P) w pt it o.type e hp (by simpa using hc1) b cs.size (shape_of hblk) l h0 hlc hmax (fun k x hx=>by
    have:=hcell k x hx
    rw [L5,Nat.zero_add]
    exact A0l hblk this)
  refine ⟨_,_,_,⟨rfl,rfl⟩,hs.wr hj hi (freeze_wr hblk (by simpa using h0)),.inl ?_⟩
  unfold execOp
  simp only [hop,resolve,hce,hat,O1 hr hargs,Sem.run_bind,Sem.run_pure,Result.andThen_ok,invoke,Go.builtin,hrun]
def Bld (b:Nat) (p:Value):Prop:=p=.pointer none∨p=.pointer (some ⟨b,0,none⟩)
theorem bld0 {b:Nat}:Bld b (.pointer none):=.inl rfl
theorem bld1 {b:Nat}:Bld b (.pointer (some ⟨b,0,none⟩)):=.inr rfl
end Go.Sw
namespace Go.Proofs.YtdolpaagdpeagaaGreatDoor
open Go.Sw Go.Sha
theorem bytes_len (t:ByteArray):(u8s t.data.toList).length=t.size:=by
  rw [show (u8s t.data.toList).length=_ from List.length_map _,Array.length_toList]; rfl
theorem own_text {v:Value} {g:Grp} {n m:Nat} {t s:ByteArray} (h:Go.Sw.Own 5 1 v g n (u8s t.data.toList++u8s s.data.toList)) (hn:n=m) (hm:m=(t++s).size):Go.Sw.Own 5 1 v g (t++s).size (u8s (t++s).data.toList):=by
  have e:u8s (t++s).data.toList=u8s t.data.toList++u8s s.data.toList:=by rw [ByteArray.data_append,Array.toList_append]; exact List.map_append
  rw [← hm,← hn,e]; exact h
def bldG (b:Nat) (p v:Value):Grp:=[(b,.cells #[p,v] 110 (0,0))]
def BOwn (v:Value) (g:Grp) (t:ByteArray):Prop:=Go.Sw.Own 5 1 v g t.size (u8s t.data.toList)
theorem cc0 (b:Nat) (v:Value) (W0:World) (H:List Grp):Tri Tryz.prog 87 #[pt b] W0 ([(b,.cells #[.pointer none,v] 110 (0,0))]::H) (fun r H'=>r=.tuple #[]∧H'=bldG b (.pointer (some ⟨b,0,none⟩)) v::H):=by
 refine D6 20 Tryz.func87 ?_
 refine A2 (A3 (A5 (j:=3) [0,0,0] (k:=D0 0 0 rfl rfl (D5 (E':=[⟨0,[],pt b⟩,⟨6,[],.bool true⟩]) [0] [0,6] (k:=A1 (G6 kr (A3 (A5 (j:=2) [0,0] (k:=?_)))))))))
 refine GL_toUnsafe (i:=2) (ch:=[]) (inf:=Tryz.t110) (t:=110) (e:=110) (b:=b) rfl rfl kr kr kr kr kr kr kr kr (At.grp 0 0 rfl rfl) rfl (GL_extern (i:=3) (ch:=[]) (f:=114) (vs:=[pt b]) (v:=pt b) (e:=Extern.AbiNoEscape.same) rfl rfl rfl kr kr Tryz.func114 kr rfl kr kr kr kr kr (fun w=>Go.Lib.run_noEscape w _) (GL_fromUnsafe (i:=4) (ch:=[]) (inf:=Tryz.t110) (u:=110) (e:=110) (b:=b) rfl rfl kr kr kr kr kr kr kr (At.grp 0 0 rfl rfl) kr (A5 (j:=7) [0,0] (k:=M8 0 0 (pt b) rfl (D5 (E':=[]) [] [] (k:=C5 [] [] (k:=?_)))))))
 exact ⟨rfl,rfl⟩
theorem cc1 (b:Nat) (v:Value) (W0:World) (H:List Grp):Tri Tryz.prog 87 #[pt b] W0 ([(b,.cells #[pt b,v] 110 (0,0))]::H) (fun r H'=>r=.tuple #[]∧H'=bldG b (.pointer (some ⟨b,0,none⟩)) v::H):=by
 refine D6 20 Tryz.func87 ?_
 refine A2 (A3 (A5 (j:=3) [0,0,0] (k:=D0 0 0 rfl rfl (D5 (E':=[⟨0,[],pt b⟩,⟨6,[],.bool false⟩]) [0] [0,6] (k:=A1 (D9 kr (A2 (A3 ?_))))))))
 refine A5 (j:=3) [0,0,0] (k:=D0 0 0 rfl rfl (A5 (j:=5) [0] (k:=GL_neqPtr (i:=5) (ch:=[]) (inf:=Tryz.t110) (te:=110) (a:=⟨b,0,none⟩) rfl rfl kr kr kr kr kr kr kr (D5 (E':=[⟨19,[],.bool false⟩]) [] [19] (k:=A1 (D9 kr (B6 (C5 [] [] (k:=?_)))))))))
 exact ⟨rfl,rfl⟩
theorem copyCheck_ (b:Nat) (p v:Value) (hp:Bld b p) (W0:World) (H:List Grp):Tri Tryz.prog 87 #[pt b] W0 (bldG b p v::H) (fun r H'=>r=.tuple #[]∧H'=bldG b (.pointer (some ⟨b,0,none⟩)) v::H):=by
  rcases hp with rfl | rfl
  · exact cc0 b v W0 H
  · exact cc1 b v W0 H
theorem writeString_ (b:Nat) (p v:Value) (g:Grp) (t s:ByteArray) (hp:Bld b p) (hv:BOwn v g t) (hs:t.size+s.size≤140737488355328) (W0:World) (H:List Grp):Tri Tryz.prog 63 #[pt b,.string s] W0 ([(b,.cells #[p,v] 110 (0,0))]::g::H) (fun r H'=>r=.tuple #[.int .i64 (s.size:Int),.nilIface]∧∃ v' g',BOwn v' g' (t++s)∧H'=bldG b (.pointer (some ⟨b,0,none⟩)) v'::g'::H):=by
 refine D6 19 Tryz.func63 ?_
 refine A2 (B9 (E':=[⟨0,[],pt b⟩,⟨1,[],.string s⟩]) [0,0] [0,1] (k:=A1 (A2 (A3 (A5 (j:=1) [0] (k:=E4 Tryz.func87 (copyCheck_ b (p) (v) hp _ _) ?_))))))
 rintro r H' ⟨rfl,rfl⟩
 refine D5 (E':=[⟨0,[],pt b⟩,⟨1,[],.string s⟩]) [] [0,1] (k:=A1 (A2 (A3 (A5 (j:=4) [0,0,0,0] (k:=D0 0 1 rfl rfl (A5 (j:=6) [0] (k:=M0 (i:=6) (ch:=[]) (t:=31) (tx:=9) (e:=5) (inf:=Tryz.t5) (s:=v) (x:=.string s) (n:=t.size) (m:=s.size) (j:=1) (cs:=(u8s t.data.toList)) (news:=(u8s s.data.toList)) (g:=g) (S:=(inB W0)) rfl rfl rfl rfl kr kr kr rfl rfl (.inr ⟨kr,rfl⟩) (fun _=>⟨rfl,kr⟩) (fun ⟨_,_,_,h⟩=>by cases h) kr kr kr rfl hv (SrcOf.str s) at_inB (by rw [show (u8s s.data.toList).length=_ from List.length_map _,Array.length_toList]; exact (Nat.mul_one _).symm) u8_one (by omega) (by show (t.size+s.size) * 1≤140737488355328; omega) (fun v1 g2 hO3=>?_))))))))
 obtain ⟨a4,cap5,rfl,hcap6,hrd7⟩:=hO3.shape
 refine A5 (j:=9) [0,0] (k:=M8 0 1 (.slice a4 (t.size+s.size) cap5) rfl (D5 (E':=[⟨1,[],.string s⟩]) [] [1] (k:=A1 (A2 (G_p [0,0,0,0] [4,5] (k:=A1 (C8 (C5 [.tmp 4,.tmp 5] [.int .i64 (s.size:Int),.nilIface] (k:=?_)))))))))
 exact ⟨rfl,_,_,own_text hO3 rfl (by simp [ByteArray.size_append]),rfl⟩
theorem writeString (b:Nat) (p v:Value) (g:Grp) (t s:ByteArray) (hp:Bld b p) (hv:BOwn v g t) (hs:t.size+s.size≤140737488355328) (W0:World) (H:List Grp):Tri Tryz.prog 63 #[pt b,.string s] W0 (bldG b p v::g::H) (fun r H'=>r=.tuple #[.int .i64 (s.size:Int),.nilIface]∧∃ v' g',BOwn v' g' (t++s)∧H'=bldG b (.pointer (some ⟨b,0,none⟩)) v'::g'::H):=writeString_ b p v g t s hp hv hs W0 H
theorem bStr0 (b:Nat) (p:Value) (W0:World) (H:List Grp):Tri Tryz.prog 65 #[pt b] W0 ([(b,.cells #[p,.slice none 0 0] 110 (0,0))]::H) (fun v H'=>v=.string .empty∧H'=bldG b p (.slice none 0 0)::H):=by
 refine D6 14 Tryz.func65 ?_
 refine A2 (B9 (E':=[⟨0,[],pt b⟩]) [0] [0] (k:=A1 (A2 (K0 (k:=A5 (j:=3) [0,0,0] (k:=D0 0 1 rfl rfl (GL_sliceData (ch:=[]) (a:=none) (l:=0) (cap:=0) (hc:=.inl rfl) (k:=A5 (j:=8) [0,0,0] (k:=?_)))))))))
 refine D0 0 1 rfl rfl (A5 (j:=10) [0] (k:=A0o (ch:=[]) (p:=none) (pt:=123) (it:=3) (k:=D5 (E':=[⟨2,[],.string .empty⟩]) [0] [2] (k:=A1 (C8 (C5 [.tmp 2] [.string .empty] (k:=?_)))))))
 exact ⟨rfl,rfl⟩
theorem bStr1 (b:Nat) (p:Value) (a:Nat) (cs:Array Value) (W0:World) (H:List Grp):Tri Tryz.prog 65 #[pt b] W0 ([(b,.cells #[p,.slice (some ⟨a,0,none⟩) 0 0] 110 (0,0))]::[(a,.cells cs 5 (0,0))]::H) (fun v H'=>v=.string .empty∧∃ x,H'=x::bldG b p (.slice (some ⟨a,0,none⟩) 0 0)::[(a,.cells cs 5 (0,0))]::H):=by
 refine D6 14 Tryz.func65 ?_
 refine A2 (B9 (E':=[⟨0,[],pt b⟩]) [0] [0] (k:=A1 (A2 (F4 ([(b,.cells #[p,.slice (some ⟨a,0,none⟩) 0 0] 110 (0,0))]::[(a,.cells cs 5 (0,0))]::H) kr (E2 (fuel:=11) [(0,0)] (fun w h=>h) (k:=P0 (ad:=⟨b,0,none⟩) 1 (hL:=(fun w h=>h)) (k:=E2 (fuel:=9) [(2,0)] (fun w h=>h) (k:=A9 3 kr (fun w h=>h) (D0 0 1 rfl rfl (B4 kr rfl)) ?_))))))))
 refine E2 (fuel:=7) [(5,0)] (fun w h=>h) (k:=P0 (ad:=⟨b,0,none⟩) 6 (hL:=(fun w h=>h)) (k:=E2 (fuel:=5) [(7,0)] (fun w h=>h) (k:=A9 8 kr (fun w h=>h) (D0 0 1 rfl rfl (B4 kr rfl)) (GH_pev (v:=.int .i64 0) 9 (hL:=(fun w h=>h)) (k:=C2 4 (k:=GL_sliceData0 (i:=4) (ch:=[]) (b:=a) (l:=0) (e:=5) rfl rfl rfl kr kr kr kr kr (At.grp 1 0 rfl rfl) (fun b1=>A7 kr (fun w h=>(h.pk 1 [1,1])) (I0 ([(b1,.view ⟨a,0,none⟩ 5)]::[(b,.cells #[p,.slice (some ⟨a,0,none⟩) 0 0] 110 (0,0))]::[(a,.cells cs 5 (0,0))]::H) (fun w h=>(h.pk 1 [1,1])) ?_))))))))
 refine C2 10 (k:=A0o (ch:=[]) (p:=some ⟨b1,0,none⟩) (pt:=123) (it:=3) (k:=A7 kr (fun w h=>h) (E2 (fuel:=0) [(11,0)] (fun w h=>h) (k:=D8 (E':=[⟨2,[],.string .empty⟩]) [2] (k:=A1 (C8 (C5 [.tmp 2] [.string .empty] (k:=?_))))))))
 exact ⟨rfl,_,rfl⟩
theorem bStr2 (b:Nat) (p:Value) (a:Nat) (cs:Array Value) (c:Nat) (hc:c≠0) (W0:World) (H:List Grp):Tri Tryz.prog 65 #[pt b] W0 ([(b,.cells #[p,.slice (some ⟨a,0,none⟩) 0 c] 110 (0,0))]::[(a,.cells cs 5 (0,0))]::H) (fun v H'=>v=.string .empty∧H'=bldG b p (.slice (some ⟨a,0,none⟩) 0 c)::[(a,.cells cs 5 (0,0))]::H):=by
 refine D6 14 Tryz.func65 ?_
 refine A2 (B9 (E':=[⟨0,[],pt b⟩]) [0] [0] (k:=A1 (A2 (K0 (k:=A5 (j:=3) [0,0,0] (k:=D0 0 1 rfl rfl (GL_sliceData (ch:=[]) (a:=(some ⟨a,0,none⟩)) (l:=0) (cap:=c) (hc:=.inr hc) (k:=A5 (j:=8) [0,0,0] (k:=?_)))))))))
 refine D0 0 1 rfl rfl (A5 (j:=10) [0] (k:=A0o (ch:=[]) (p:=some ⟨a,0,none⟩) (pt:=123) (it:=3) (k:=D5 (E':=[⟨2,[],.string .empty⟩]) [0] [2] (k:=A1 (C8 (C5 [.tmp 2] [.string .empty] (k:=?_)))))))
 exact ⟨rfl,rfl⟩
theorem bStr3 (b:Nat) (p:Value) (a:Nat) (cs:Array Value) (c:Nat) (l:List UInt8) (hc:c≠0) (h0:l≠[]) (hlc:l.length≤cs.size) (hmax:l.length≤9223372036854775807) (hcell:∀ (k:Nat) x,l[k]? = some x→cs[k]? = some (.int .u8 (x.toNat:Int))) (W0:World) (H:List Grp):Tri Tryz.prog 65 #[pt b] W0 ([(b,.cells #[p,.slice (some ⟨a,0,none⟩) l.length c] 110 (0,0))]::[(a,.cells cs 5 (0,0))]::H) (fun v H'=>v=.string ⟨l.toArray⟩∧H'=bldG b p (.slice (some ⟨a,0,none⟩) l.length c)::[(a,.cells cs 5 (0,l.length))]::H):=by
 refine D6 14 Tryz.func65 ?_
 refine A2 (B9 (E':=[⟨0,[],pt b⟩]) [0] [0] (k:=A1 (A2 (F4 ([(b,.cells #[p,.slice (some ⟨a,0,none⟩) l.length c] 110 (0,0))]::H) kr (E2 (fuel:=11) [(0,0)] (fun w h=>(h.pk 1 [0])) (k:=P0 (ad:=⟨b,0,none⟩) 1 (hL:=(fun w h=>(h.pk 1 [0]))) (k:=E2 (fuel:=9) [(2,0)] (fun w h=>(h.pk 1 [0])) (k:=A9 3 kr (fun w h=>(h.pk 1 [0])) (D0 0 1 rfl rfl (B4 kr rfl)) ?_))))))))
 refine E2 (fuel:=7) [(5,0)] (fun w h=>(h.pk 1 [0])) (k:=P0 (ad:=⟨b,0,none⟩) 6 (hL:=(fun w h=>(h.pk 1 [0]))) (k:=E2 (fuel:=5) [(7,0)] (fun w h=>(h.pk 1 [0])) (k:=A9 8 kr (fun w h=>(h.pk 1 [0])) (D0 0 1 rfl rfl (B4 kr rfl)) (GH_pev (v:=.int .i64 ((l.length:Nat):Int)) 9 (hL:=(fun w h=>(h.pk 1 [0]))) (k:=C2 4 (k:=GL_sliceData (ch:=[]) (a:=(some ⟨a,0,none⟩)) (l:=l.length) (cap:=c) (hc:=.inr hc) (k:=A7 kr (fun w h=>(h.pk 1 [0])) (C2 10 (k:=?_)))))))))
 refine GL_unsafeStr (i:=10) (ch:=[]) (b:=a) (j:=1) (pt:=123) (it:=3) (e:=5) (cs:=cs) (l:=l) rfl rfl rfl rfl kr kr kr kr kr kr rfl h0 hlc hmax hcell (A7 kr (fun w h=>(h.pk 1 [0])) (E2 (fuel:=0) [(11,0)] (fun w h=>(h.pk 1 [0])) (k:=D8 (E':=[⟨2,[],.string ⟨l.toArray⟩⟩]) [2] (k:=A1 (C8 (C5 [.tmp 2] [.string ⟨l.toArray⟩] (k:=?_)))))))
 exact ⟨rfl,rfl⟩
theorem u8_at (t:ByteArray) (junk:List Value) (k:Nat) (x:UInt8) (h:t.data.toList[k]? = some x):((u8s t.data.toList++junk).toArray)[k]? = some (.int .u8 (x.toNat:Int)):=by
  obtain ⟨hk,hx⟩:=List.getElem?_eq_some_iff.1 h
  rw [List.getElem?_toArray,List.getElem?_append_left (by simpa [u8s] using hk)]
  simp [u8s,h]
theorem builderString (b:Nat) (p v:Value) (g:Grp) (t:ByteArray) (hv:BOwn v g t) (hs:t.size≤140737488355328) (W0:World) (H:List Grp):Tri Tryz.prog 65 #[pt b] W0 (bldG b p v::g::H) (fun r H'=>r=.string t∧H'=bldG b p v::H):=by
  obtain ⟨hl,⟨rfl,rfl,h0⟩ | ⟨a,cap,junk,rfl,rfl,hcap,hj⟩⟩:=hv
  · have ht:t=.empty:=by cases t with | mk d=>(have:d=#[]:=Array.eq_empty_of_size_eq_zero h0); rw [this]; rfl
    subst ht
    exact Tri.heap (fun _ h=>h.erase 1) (bStr0 b p W0 H)
  · by_cases h0:t.size=0
    · have ht:t=.empty:=by cases t with | mk d=>(have:d=#[]:=Array.eq_empty_of_size_eq_zero h0); rw [this]; rfl
      by_cases hc:cap=0
      · subst hc; subst ht
        exact Tri.post (bStr1 b p a _ W0 H) fun v H' ⟨h1,x,h2⟩=>⟨_,⟨h1,rfl⟩,fun w hw=>by rw [h2] at hw; exact (hw.erase 2).erase 0⟩
      · subst ht
        exact Tri.post (bStr2 b p a _ cap hc W0 H) fun v H' ⟨h1,h2⟩=>⟨_,⟨h1,rfl⟩,fun w hw=>by rw [h2] at hw; exact hw.erase 1⟩
    · have hcap0:cap≠0:=by omega
      have hlen:t.data.toList.length=t.size:=Array.length_toList
      have:=bStr3 b p a (u8s t.data.toList++junk).toArray cap t.data.toList hcap0 (fun h=>h0 (by rw [← hlen,h]; rfl)) (by rw [List.size_toArray,List.length_append,bytes_len,hlen]; omega) (by omega) (u8_at t junk) W0 H
      rw [hlen] at this
      exact Tri.post this fun v H' ⟨h1,h2⟩=>⟨_,⟨by rw [h1],rfl⟩,fun w hw=>by rw [h2] at hw; exact hw.erase 1⟩
end Go.Proofs.YtdolpaagdpeagaaGreatDoor
namespace Go.Proofs.YtdolpaagdpeagaaGreatDoor
open Go.Sw Go.Sha
theorem rot7 (x:Int) (W0:World) (H:List Grp):Tri Tryz.prog 137 #[.int .u32 x,.int .i64 (-7)] W0 H (fun v H'=>v=.int .u32 (rotr x 7)∧H'=H):=by
 refine D6 17 Tryz.func137 ?_
 refine A2 (G_p [0] [0,1] (k:=A1 (A2 (G_p [0,0,0,0] [0,5] (k:=A1 (A2 (G_p [0,0,0,0,0,0,0,0,0] [4] (k:=A1 ?_))))))))
 refine C8 (C5 [.tmp 4] [.int .u32 (IntKind.wrap .u32 ((BitVec.ofInt (IntKind.bits .u32) (IntKind.wrap .u32 (x * 2 ^ 25)) ||| BitVec.ofInt (IntKind.bits .u32) (Int.fdiv x (2 ^ 7))).toNat))] (k:=?_))
 exact ⟨rfl,rfl⟩
theorem rot18 (x:Int) (W0:World) (H:List Grp):Tri Tryz.prog 137 #[.int .u32 x,.int .i64 (-18)] W0 H (fun v H'=>v=.int .u32 (rotr x 18)∧H'=H):=by
 refine D6 17 Tryz.func137 ?_
 refine A2 (G_p [0] [0,1] (k:=A1 (A2 (G_p [0,0,0,0] [0,5] (k:=A1 (A2 (G_p [0,0,0,0,0,0,0,0,0] [4] (k:=A1 ?_))))))))
 refine C8 (C5 [.tmp 4] [.int .u32 (IntKind.wrap .u32 ((BitVec.ofInt (IntKind.bits .u32) (IntKind.wrap .u32 (x * 2 ^ 14)) ||| BitVec.ofInt (IntKind.bits .u32) (Int.fdiv x (2 ^ 18))).toNat))] (k:=?_))
 exact ⟨rfl,rfl⟩
theorem rot17 (x:Int) (W0:World) (H:List Grp):Tri Tryz.prog 137 #[.int .u32 x,.int .i64 (-17)] W0 H (fun v H'=>v=.int .u32 (rotr x 17)∧H'=H):=by
 refine D6 17 Tryz.func137 ?_
 refine A2 (G_p [0] [0,1] (k:=A1 (A2 (G_p [0,0,0,0] [0,5] (k:=A1 (A2 (G_p [0,0,0,0,0,0,0,0,0] [4] (k:=A1 ?_))))))))
 refine C8 (C5 [.tmp 4] [.int .u32 (IntKind.wrap .u32 ((BitVec.ofInt (IntKind.bits .u32) (IntKind.wrap .u32 (x * 2 ^ 15)) ||| BitVec.ofInt (IntKind.bits .u32) (Int.fdiv x (2 ^ 17))).toNat))] (k:=?_))
 exact ⟨rfl,rfl⟩
theorem rot19 (x:Int) (W0:World) (H:List Grp):Tri Tryz.prog 137 #[.int .u32 x,.int .i64 (-19)] W0 H (fun v H'=>v=.int .u32 (rotr x 19)∧H'=H):=by
 refine D6 17 Tryz.func137 ?_
 refine A2 (G_p [0] [0,1] (k:=A1 (A2 (G_p [0,0,0,0] [0,5] (k:=A1 (A2 (G_p [0,0,0,0,0,0,0,0,0] [4] (k:=A1 ?_))))))))
 refine C8 (C5 [.tmp 4] [.int .u32 (IntKind.wrap .u32 ((BitVec.ofInt (IntKind.bits .u32) (IntKind.wrap .u32 (x * 2 ^ 13)) ||| BitVec.ofInt (IntKind.bits .u32) (Int.fdiv x (2 ^ 19))).toNat))] (k:=?_))
 exact ⟨rfl,rfl⟩
theorem rot6 (x:Int) (W0:World) (H:List Grp):Tri Tryz.prog 137 #[.int .u32 x,.int .i64 (-6)] W0 H (fun v H'=>v=.int .u32 (rotr x 6)∧H'=H):=by
 refine D6 17 Tryz.func137 ?_
 refine A2 (G_p [0] [0,1] (k:=A1 (A2 (G_p [0,0,0,0] [0,5] (k:=A1 (A2 (G_p [0,0,0,0,0,0,0,0,0] [4] (k:=A1 ?_))))))))
 refine C8 (C5 [.tmp 4] [.int .u32 (IntKind.wrap .u32 ((BitVec.ofInt (IntKind.bits .u32) (IntKind.wrap .u32 (x * 2 ^ 26)) ||| BitVec.ofInt (IntKind.bits .u32) (Int.fdiv x (2 ^ 6))).toNat))] (k:=?_))
 exact ⟨rfl,rfl⟩
theorem rot11 (x:Int) (W0:World) (H:List Grp):Tri Tryz.prog 137 #[.int .u32 x,.int .i64 (-11)] W0 H (fun v H'=>v=.int .u32 (rotr x 11)∧H'=H):=by
 refine D6 17 Tryz.func137 ?_
 refine A2 (G_p [0] [0,1] (k:=A1 (A2 (G_p [0,0,0,0] [0,5] (k:=A1 (A2 (G_p [0,0,0,0,0,0,0,0,0] [4] (k:=A1 ?_))))))))
 refine C8 (C5 [.tmp 4] [.int .u32 (IntKind.wrap .u32 ((BitVec.ofInt (IntKind.bits .u32) (IntKind.wrap .u32 (x * 2 ^ 21)) ||| BitVec.ofInt (IntKind.bits .u32) (Int.fdiv x (2 ^ 11))).toNat))] (k:=?_))
 exact ⟨rfl,rfl⟩
theorem rot25 (x:Int) (W0:World) (H:List Grp):Tri Tryz.prog 137 #[.int .u32 x,.int .i64 (-25)] W0 H (fun v H'=>v=.int .u32 (rotr x 25)∧H'=H):=by
 refine D6 17 Tryz.func137 ?_
 refine A2 (G_p [0] [0,1] (k:=A1 (A2 (G_p [0,0,0,0] [0,5] (k:=A1 (A2 (G_p [0,0,0,0,0,0,0,0,0] [4] (k:=A1 ?_))))))))
 refine C8 (C5 [.tmp 4] [.int .u32 (IntKind.wrap .u32 ((BitVec.ofInt (IntKind.bits .u32) (IntKind.wrap .u32 (x * 2 ^ 7)) ||| BitVec.ofInt (IntKind.bits .u32) (Int.fdiv x (2 ^ 25))).toNat))] (k:=?_))
 exact ⟨rfl,rfl⟩
theorem rot2 (x:Int) (W0:World) (H:List Grp):Tri Tryz.prog 137 #[.int .u32 x,.int .i64 (-2)] W0 H (fun v H'=>v=.int .u32 (rotr x 2)∧H'=H):=by
 refine D6 17 Tryz.func137 ?_
 refine A2 (G_p [0] [0,1] (k:=A1 (A2 (G_p [0,0,0,0] [0,5] (k:=A1 (A2 (G_p [0,0,0,0,0,0,0,0,0] [4] (k:=A1 ?_))))))))
 refine C8 (C5 [.tmp 4] [.int .u32 (IntKind.wrap .u32 ((BitVec.ofInt (IntKind.bits .u32) (IntKind.wrap .u32 (x * 2 ^ 30)) ||| BitVec.ofInt (IntKind.bits .u32) (Int.fdiv x (2 ^ 2))).toNat))] (k:=?_))
 exact ⟨rfl,rfl⟩
theorem rot13 (x:Int) (W0:World) (H:List Grp):Tri Tryz.prog 137 #[.int .u32 x,.int .i64 (-13)] W0 H (fun v H'=>v=.int .u32 (rotr x 13)∧H'=H):=by
 refine D6 17 Tryz.func137 ?_
 refine A2 (G_p [0] [0,1] (k:=A1 (A2 (G_p [0,0,0,0] [0,5] (k:=A1 (A2 (G_p [0,0,0,0,0,0,0,0,0] [4] (k:=A1 ?_))))))))
 refine C8 (C5 [.tmp 4] [.int .u32 (IntKind.wrap .u32 ((BitVec.ofInt (IntKind.bits .u32) (IntKind.wrap .u32 (x * 2 ^ 19)) ||| BitVec.ofInt (IntKind.bits .u32) (Int.fdiv x (2 ^ 13))).toNat))] (k:=?_))
 exact ⟨rfl,rfl⟩
theorem rot22 (x:Int) (W0:World) (H:List Grp):Tri Tryz.prog 137 #[.int .u32 x,.int .i64 (-22)] W0 H (fun v H'=>v=.int .u32 (rotr x 22)∧H'=H):=by
 refine D6 17 Tryz.func137 ?_
 refine A2 (G_p [0] [0,1] (k:=A1 (A2 (G_p [0,0,0,0] [0,5] (k:=A1 (A2 (G_p [0,0,0,0,0,0,0,0,0] [4] (k:=A1 ?_))))))))
 refine C8 (C5 [.tmp 4] [.int .u32 (IntKind.wrap .u32 ((BitVec.ofInt (IntKind.bits .u32) (IntKind.wrap .u32 (x * 2 ^ 10)) ||| BitVec.ofInt (IntKind.bits .u32) (Int.fdiv x (2 ^ 22))).toNat))] (k:=?_))
 exact ⟨rfl,rfl⟩
theorem eight_ (n:Int) (_:0≤n) (_:n<18446744073709551616) (W0:World) (H:List Grp):Tri Tryz.prog 116 #[.int .u64 n] W0 H (fun v H'=>∃ g,Go.Sw.Own 5 1 v g 8 (u8s (eightB n))∧H'=g::H):=by
 refine D6 17 Tryz.func116 ?_
 refine A2 (B9 (E':=[⟨0,[],.int .u64 n⟩]) [0] [0] (k:=A1 (A2 (G_p [0] [0,3] (k:=A1 (A2 (A2 (G_p [0] [0,3,4] (k:=?_)))))))))
 refine A1 (B8 (G_rounds 9 (J4 (A2 (A2 (G_p [0,0] [0,3,4,6] (k:=A1 (G6 kr ?_))))))))
 refine B6 (A1 (A2 (B8 (A3 (A5 (j:=5) [0,0,0,0,0] (k:=N2 5 1 [.int .u8 (IntKind.wrap .u8 (Int.fdiv n (2 ^ 56)))] (fun b1=>E0 rfl (H':=([]::[(b1,.cells #[.int .u8 (IntKind.wrap .u8 (Int.fdiv n (2 ^ 56)))] 5 (0,0))]::H)) (fun w h=>h.flat (List.Perm.refl _)) (GL_ap (inf:=Tryz.t5) (e:=5) (s:=.slice none 0 0) 1 1 0 rfl rfl Go.Sw.Own.nil (by omega) (by show (0+1) * 1≤140737488355328; omega) (fun v2 g3 hO4=>?_)))))))))
 replace hO4:=own_from0 hO4
 refine B5 [0] [0,3,4] (k:=D3 (A1 (G_p [0,0,0] [0,3,4] (k:=N_rd (J4 (A2 (A2 (B9 (E':=[⟨0,[],.int .u64 n⟩,⟨3,[],v2⟩,⟨4,[],.int .i64 48⟩,⟨6,[],.bool true⟩]) [0,0] [0,3,4,6] (k:=?_)))))))))
 refine A1 (G6 kr (B6 (A1 (A2 (B8 (A3 (A5 (j:=5) [0,0,0,0,0] (k:=N2 5 1 [.int .u8 (IntKind.wrap .u8 (Int.fdiv n (2 ^ 48)))] (fun b5=>?_)))))))))
 refine GL_ap (inf:=Tryz.t5) 1 0 1 rfl rfl hO4 (by omega) (by show (1+1) * 1≤140737488355328; omega) (fun v6 g7 hO8=>?_)
 refine B5 [0] [0,3,4] (k:=D3 (A1 (G_p [0,0,0] [0,3,4] (k:=N_rd (J4 (A2 (A2 (G_p [0,0] [0,3,4,6] (k:=?_)))))))))
 refine A1 (G6 kr (B6 (A1 (A2 (B8 (A3 (A5 (j:=5) [0,0,0,0,0] (k:=N2 5 1 [.int .u8 (IntKind.wrap .u8 (Int.fdiv n (2 ^ 40)))] (fun b9=>?_)))))))))
 refine GL_ap (inf:=Tryz.t5) 1 0 2 rfl rfl hO8 (by omega) (by show ((1+1)+1) * 1≤140737488355328; omega) (fun v10 g11 hO12=>?_)
 refine B5 [0] [0,3,4] (k:=D3 (A1 (G_p [0,0,0] [0,3,4] (k:=N_rd (J4 (A2 (A2 (B9 (E':=[⟨0,[],.int .u64 n⟩,⟨3,[],v10⟩,⟨4,[],.int .i64 32⟩,⟨6,[],.bool true⟩]) [0,0] [0,3,4,6] (k:=?_)))))))))
 refine A1 (G6 kr (B6 (A1 (A2 (B8 (A3 (A5 (j:=5) [0,0,0,0,0] (k:=N2 5 1 [.int .u8 (IntKind.wrap .u8 (Int.fdiv n (2 ^ 32)))] (fun b13=>?_)))))))))
 refine GL_ap (inf:=Tryz.t5) 1 0 3 rfl rfl hO12 (by omega) (by show (((1+1)+1)+1) * 1≤140737488355328; omega) (fun v14 g15 hO16=>?_)
 refine B5 [0] [0,3,4] (k:=D3 (A1 (G_p [0,0,0] [0,3,4] (k:=N_rd (J4 (A2 (A2 (G_p [0,0] [0,3,4,6] (k:=?_)))))))))
 refine A1 (G6 kr (B6 (A1 (A2 (B8 (A3 (A5 (j:=5) [0,0,0,0,0] (k:=N2 5 1 [.int .u8 (IntKind.wrap .u8 (Int.fdiv n (2 ^ 24)))] (fun b17=>?_)))))))))
 refine GL_ap (inf:=Tryz.t5) 1 0 4 rfl rfl hO16 (by omega) (by show ((((1+1)+1)+1)+1) * 1≤140737488355328; omega) (fun v18 g19 hO20=>?_)
 refine B5 [0] [0,3,4] (k:=D3 (A1 (G_p [0,0,0] [0,3,4] (k:=N_rd (J4 (A2 (A2 (B9 (E':=[⟨0,[],.int .u64 n⟩,⟨3,[],v18⟩,⟨4,[],.int .i64 16⟩,⟨6,[],.bool true⟩]) [0,0] [0,3,4,6] (k:=?_)))))))))
 refine A1 (G6 kr (B6 (A1 (A2 (B8 (A3 (A5 (j:=5) [0,0,0,0,0] (k:=N2 5 1 [.int .u8 (IntKind.wrap .u8 (Int.fdiv n (2 ^ 16)))] (fun b21=>?_)))))))))
 refine GL_ap (inf:=Tryz.t5) 1 0 5 rfl rfl hO20 (by omega) (by show (((((1+1)+1)+1)+1)+1) * 1≤140737488355328; omega) (fun v22 g23 hO24=>?_)
 refine B5 [0] [0,3,4] (k:=D3 (A1 (G_p [0,0,0] [0,3,4] (k:=N_rd (J4 (A2 (A2 (G_p [0,0] [0,3,4,6] (k:=?_)))))))))
 refine A1 (G6 kr (B6 (A1 (A2 (B8 (A3 (A5 (j:=5) [0,0,0,0,0] (k:=N2 5 1 [.int .u8 (IntKind.wrap .u8 (Int.fdiv n (2 ^ 8)))] (fun b25=>?_)))))))))
 refine GL_ap (inf:=Tryz.t5) 1 0 6 rfl rfl hO24 (by omega) (by show ((((((1+1)+1)+1)+1)+1)+1) * 1≤140737488355328; omega) (fun v26 g27 hO28=>?_)
 refine B5 [0] [0,3,4] (k:=D3 (A1 (G_p [0,0,0] [0,3,4] (k:=N_rd (J4 (A2 (A2 (B9 (E':=[⟨0,[],.int .u64 n⟩,⟨3,[],v26⟩,⟨4,[],.int .i64 0⟩,⟨6,[],.bool true⟩]) [0,0] [0,3,4,6] (k:=?_)))))))))
 refine A1 (G6 kr (B6 (A1 (A2 (B8 (A3 (A5 (j:=5) [0,0,0,0,0] (k:=N2 5 1 [.int .u8 (IntKind.wrap .u8 (Int.fdiv n (2 ^ 0)))] (fun b29=>?_)))))))))
 refine GL_ap (inf:=Tryz.t5) 1 0 7 rfl rfl hO28 (by omega) (by show (((((((1+1)+1)+1)+1)+1)+1)+1) * 1≤140737488355328; omega) (fun v30 g31 hO32=>?_)
 refine B5 [0] [0,3,4] (k:=D3 (A1 (G_p [0,0,0] [0,3,4] (k:=N_rd (J4 (A2 (A2 (G_p [0,0] [0,3,4,6] (k:=?_)))))))))
 refine A1 (D9 kr (H0 (A6 (A6 (C3 (A1 (A2 (B9 (E':=[⟨2,[],v30⟩]) [0,0] [2] (k:=?_)))))))))
 refine A1 (C8 (N_pkT 8 [7] (g31::H) (C5 [.tmp 2] [v30] (k:=?_))))
 exact ⟨_,own_eight n hO32 rfl (by rw [eight_cells]; rfl),rfl⟩
end Go.Proofs.YtdolpaagdpeagaaGreatDoor
namespace Go.Proofs.YtdolpaagdpeagaaGreatDoor
open Go.Sw Go.Sha
theorem beginnings_  (W0:World) (H:List Grp):Tri Tryz.prog 117 #[] W0 H (fun v H'=>v=hIni.v∧H'=H):=by
 refine D6 2 Tryz.func117 ?_
 refine A2 (A3 (O0 (.agg #[.int .u32 0,.int .u32 0,.int .u32 0,.int .u32 0,.int .u32 0,.int .u32 0,.int .u32 0,.int .u32 0]) (fun b1=>D5 (E':=[⟨0,[],pt b1⟩]) [] [0] (k:=A1 (A2 (A3 (A5 (j:=1) [0] (k:=M8 0 0 (.agg #[.int .u32 1779033703,.int .u32 3144134277,.int .u32 1013904242,.int .u32 2773480762,.int .u32 1359893119,.int .u32 2600822924,.int .u32 528734635,.int .u32 1541459225]) rfl ?_))))))))
 refine D5 (E':=[⟨0,[],pt b1⟩]) [] [0] (k:=A1 (C8 (N_retC [.cell 0 150] [.agg #[.int .u32 1779033703,.int .u32 3144134277,.int .u32 1013904242,.int .u32 2773480762,.int .u32 1359893119,.int .u32 2600822924,.int .u32 528734635,.int .u32 1541459225]] rfl (.cons (.aq 0 0 rfl) (.nil)) rfl ⟨_,?_,fun w h=>(h.pk 1 [])⟩)))
 exact ⟨rfl,rfl⟩
theorem rounds_  (W0:World) (H:List Grp):Tri Tryz.prog 118 #[] W0 H (fun v H'=>v=.agg kArr∧H'=H):=by
 refine D6 2 Tryz.func118 ?_
 refine A2 (A3 (O0 (.agg #[.int .u32 0,.int .u32 0,.int .u32 0,.int .u32 0,.int .u32 0,.int .u32 0,.int .u32 0,.int .u32 0,.int .u32 0,.int .u32 0,.int .u32 0,.int .u32 0,.int .u32 0,.int .u32 0,.int .u32 0,.int .u32 0,.int .u32 0,.int .u32 0,.int .u32 0,.int .u32 0,.int .u32 0,.int .u32 0,.int .u32 0,.int .u32 0,.int .u32 0,.int .u32 0,.int .u32 0,.int .u32 0,.int .u32 0,.int .u32 0,.int .u32 0,.int .u32 0,.int .u32 0,.int .u32 0,.int .u32 0,.int .u32 0,.int .u32 0,.int .u32 0,.int .u32 0,.int .u32 0,.int .u32 0,.int .u32 0,.int .u32 0,.int .u32 0,.int .u32 0,.int .u32 0,.int .u32 0,.int .u32 0,.int .u32 0,.int .u32 0,.int .u32 0,.int .u32 0,.int .u32 0,.int .u32 0,.int .u32 0,.int .u32 0,.int .u32 0,.int .u32 0,.int .u32 0,.int .u32 0,.int .u32 0,.int .u32 0,.int .u32 0,.int .u32 0]) (fun b1=>D5 (E':=[⟨0,[],pt b1⟩]) [] [0] (k:=A1 (A2 (A3 (A5 (j:=1) [0] (k:=M8 0 0 (.agg #[.int .u32 1116352408,.int .u32 1899447441,.int .u32 3049323471,.int .u32 3921009573,.int .u32 961987163,.int .u32 1508970993,.int .u32 2453635748,.int .u32 2870763221,.int .u32 3624381080,.int .u32 310598401,.int .u32 607225278,.int .u32 1426881987,.int .u32 1925078388,.int .u32 2162078206,.int .u32 2614888103,.int .u32 3248222580,.int .u32 3835390401,.int .u32 4022224774,.int .u32 264347078,.int .u32 604807628,.int .u32 770255983,.int .u32 1249150122,.int .u32 1555081692,.int .u32 1996064986,.int .u32 2554220882,.int .u32 2821834349,.int .u32 2952996808,.int .u32 3210313671,.int .u32 3336571891,.int .u32 3584528711,.int .u32 113926993,.int .u32 338241895,.int .u32 666307205,.int .u32 773529912,.int .u32 1294757372,.int .u32 1396182291,.int .u32 1695183700,.int .u32 1986661051,.int .u32 2177026350,.int .u32 2456956037,.int .u32 2730485921,.int .u32 2820302411,.int .u32 3259730800,.int .u32 3345764771,.int .u32 3516065817,.int .u32 3600352804,.int .u32 4094571909,.int .u32 275423344,.int .u32 430227734,.int .u32 506948616,.int .u32 659060556,.int .u32 883997877,.int .u32 958139571,.int .u32 1322822218,.int .u32 1537002063,.int .u32 1747873779,.int .u32 1955562222,.int .u32 2024104815,.int .u32 2227730452,.int .u32 2361852424,.int .u32 2428436474,.int .u32 2756734187,.int .u32 3204031479,.int .u32 3329325298]) rfl ?_))))))))
 refine D5 (E':=[⟨0,[],pt b1⟩]) [] [0] (k:=A1 (C8 (N_retC [.cell 0 152] [.agg #[.int .u32 1116352408,.int .u32 1899447441,.int .u32 3049323471,.int .u32 3921009573,.int .u32 961987163,.int .u32 1508970993,.int .u32 2453635748,.int .u32 2870763221,.int .u32 3624381080,.int .u32 310598401,.int .u32 607225278,.int .u32 1426881987,.int .u32 1925078388,.int .u32 2162078206,.int .u32 2614888103,.int .u32 3248222580,.int .u32 3835390401,.int .u32 4022224774,.int .u32 264347078,.int .u32 604807628,.int .u32 770255983,.int .u32 1249150122,.int .u32 1555081692,.int .u32 1996064986,.int .u32 2554220882,.int .u32 2821834349,.int .u32 2952996808,.int .u32 3210313671,.int .u32 3336571891,.int .u32 3584528711,.int .u32 113926993,.int .u32 338241895,.int .u32 666307205,.int .u32 773529912,.int .u32 1294757372,.int .u32 1396182291,.int .u32 1695183700,.int .u32 1986661051,.int .u32 2177026350,.int .u32 2456956037,.int .u32 2730485921,.int .u32 2820302411,.int .u32 3259730800,.int .u32 3345764771,.int .u32 3516065817,.int .u32 3600352804,.int .u32 4094571909,.int .u32 275423344,.int .u32 430227734,.int .u32 506948616,.int .u32 659060556,.int .u32 883997877,.int .u32 958139571,.int .u32 1322822218,.int .u32 1537002063,.int .u32 1747873779,.int .u32 1955562222,.int .u32 2024104815,.int .u32 2227730452,.int .u32 2361852424,.int .u32 2428436474,.int .u32 2756734187,.int .u32 3204031479,.int .u32 3329325298]] rfl (.cons (.aq 0 0 rfl) (.nil)) rfl ⟨_,?_,fun w h=>(h.pk 1 [])⟩)))
 exact ⟨rfl,rfl⟩
theorem block_ (s:S8) (ba:Option Addr) (bc:Nat) (S:Nat→Obj→Prop) (l:List UInt8) (hl:l.length=64) (hrd:Rd S ba (u8s l)) (W0:World) (H:List Grp) (hS:∀ y o,S y o→At W0 H y o):Tri Tryz.prog 120 #[.agg #[.int .u32 s.a,.int .u32 s.b,.int .u32 s.c,.int .u32 s.d,.int .u32 s.e,.int .u32 s.f,.int .u32 s.g,.int .u32 s.h],.slice ba 64 bc,(.agg kArr)] W0 H (fun v H'=>v=(P9 (byt l) s).v∧H'=H):=by
 refine D6 192 Tryz.func120 ?_
 refine A2 (A3 (O9 (.agg #[.int .u32 s.a,.int .u32 s.b,.int .u32 s.c,.int .u32 s.d,.int .u32 s.e,.int .u32 s.f,.int .u32 s.g,.int .u32 s.h]) (fun b1=>GL_box (i:=1) (ch:=[]) (v:=.agg kArr) rfl rfl kr kr kr kr (fun b2=>O0 (.agg #[.int .u32 0,.int .u32 0,.int .u32 0,.int .u32 0,.int .u32 0,.int .u32 0,.int .u32 0,.int .u32 0]) (fun b3=>?_)))))
 refine B5 [] [1,3,5,6] (k:=A1 (A2 (A3 (GL_alloc (ch:=[]) (z:=.agg (wArr (byt l) 0)) (k:=(fun b4=>B5 [] [1,3,5,6,7] (k:=A1 (A2 (A2 ?_)))))))))
 refine G_p [0] [1,3,5,6,7,22] (k:=A1 (B8 (I6 (EI:=(fun ξ:Nat=>[⟨1,[],.slice ba 64 bc⟩,⟨3,[],pt b1⟩,⟨5,[],pt b2⟩,⟨6,[],pt b3⟩,⟨7,[],pt b4⟩,⟨22,[],.int .i64 ((ξ:Nat):Int)⟩])) (HI:=(fun ξ:Nat=>([(b4,.cells (wArr (byt l) ξ) 152 (0,0))]::[(b3,.cells #[.int .u32 0,.int .u32 0,.int .u32 0,.int .u32 0,.int .u32 0,.int .u32 0,.int .u32 0,.int .u32 0] 150 (0,0))]::[(b2,.cells kArr 152 (0,0))]::[(b1,.cells #[.int .u32 s.a,.int .u32 s.b,.int .u32 s.c,.int .u32 s.d,.int .u32 s.e,.int .u32 s.f,.int .u32 s.g,.int .u32 s.h] 150 (0,0))]::H))) (Φ:=(fun ξ:Nat=>(ξ≤64))) (μ:=(fun ξ:Nat=>64 - ξ)) (s0:=(0)) [1,3,5,6,7,22] kr kr (by omega) ?_)))
 rintro i hi
 refine A2 (G_p [0] [1,3,5,6,7,22,23] (k:=A1 (A2 (D2 (b:=decide (((i:Nat):Int)<64)) kr (fun hc5=>?_) (fun hc5=>?_)))))
 ·
  have hi2:=hc5
  rw [decide_eq_true_eq] at hi2
  refine B6 (A1 (A2 (B8 (A2 (G_p [0,0] [1,3,5,6,7,8,22] (k:=A1 (A2 (A2 ?_))))))))
  refine G_p [0,0] [1,3,5,6,7,8,22,26] (k:=A1 (D2 (b:=decide (((i:Nat):Int)<16)) kr (fun hc6=>?_) (fun hc6=>?_)))
  ·
   replace hc6:=of_decide_eq_true hc6
   refine A2 (F4 ([(b3,.cells #[.int .u32 0,.int .u32 0,.int .u32 0,.int .u32 0,.int .u32 0,.int .u32 0,.int .u32 0,.int .u32 0] 150 (0,0))]::[(b2,.cells kArr 152 (0,0))]::[(b1,.cells #[.int .u32 s.a,.int .u32 s.b,.int .u32 s.c,.int .u32 s.d,.int .u32 s.e,.int .u32 s.f,.int .u32 s.g,.int .u32 s.h] 150 (0,0))]::H) kr (E2 (fuel:=32) [(0,0),(1,0),(2,0),(3,0)] (fun w h=>(h.pk 1 [1,1,1])) (k:=Y2 30 (4 * ((i:Nat):Int)) (by omega) (by omega) kr (A9 4 kr (fun w h=>(h.pk 1 [1,1,1])) (L2 64 (4 * ((i:Nat):Int)) 1 hrd (by exact ⟨by omega,by omega,by intro h; have h2:=congrArg List.length h; simp only [u8s,List.length_map,List.length_nil] at h2; omega⟩) (B4 kr rfl)) (A9 5 kr (fun w h=>(h.pk 1 [1,1,1])) (O3 ((Int.toNat (4 * ((i:Nat):Int))) * 1) (.int .u8 (byt l (4 * i))) hrd (fun y o h=>(At.cons (At.cons (At.cons (hS y o h))))) (fun _=>(byt_at (by omega) (by omega))) (B4 kr rfl)) (E2 (fuel:=25) [(6,0),(7,0),(8,0),(9,0),(10,0)] (fun w h=>(h.pk 1 [1,1,1])) (k:=Y2 37 (4 * ((i:Nat):Int)) (by omega) (by omega) kr (E2 (fuel:=24) [(11,0)] (fun w h=>(h.pk 1 [1,1,1])) (k:=?_)))))))))
   refine Y2 38 ((4 * ((i:Nat):Int))+1) (by omega) (by omega) kr (A9 12 kr (fun w h=>(h.pk 1 [1,1,1])) (L2 64 ((4 * ((i:Nat):Int))+1) 1 hrd (by exact ⟨by omega,by omega,by intro h; have h2:=congrArg List.length h; simp only [u8s,List.length_map,List.length_nil] at h2; omega⟩) (B4 kr rfl)) (A9 13 kr (fun w h=>(h.pk 1 [1,1,1])) (O3 ((Int.toNat ((4 * ((i:Nat):Int))+1)) * 1) (.int .u8 (byt l (4 * i+1))) hrd (fun y o h=>(At.cons (At.cons (At.cons (hS y o h))))) (fun _=>(byt_at (by omega) (by omega))) (B4 kr rfl)) (E2 (fuel:=16) [(14,0),(15,0),(16,0),(17,0),(18,0),(19,0)] (fun w h=>(h.pk 1 [1,1,1])) (k:=Y2 46 (4 * ((i:Nat):Int)) (by omega) (by omega) kr (E2 (fuel:=15) [(20,0)] (fun w h=>(h.pk 1 [1,1,1])) (k:=Y2 47 ((4 * ((i:Nat):Int))+2) (by omega) (by omega) kr (A9 21 kr (fun w h=>(h.pk 1 [1,1,1])) (L2 64 ((4 * ((i:Nat):Int))+2) 1 hrd (by exact ⟨by omega,by omega,by intro h; have h2:=congrArg List.length h; simp only [u8s,List.length_map,List.length_nil] at h2; omega⟩) (B4 kr rfl)) (A9 22 kr (fun w h=>(h.pk 1 [1,1,1])) (O3 ((Int.toNat ((4 * ((i:Nat):Int))+2)) * 1) (.int .u8 (byt l (4 * i+2))) hrd (fun y o h=>(At.cons (At.cons (At.cons (hS y o h))))) (fun _=>(byt_at (by omega) (by omega))) (B4 kr rfl)) ?_))))))))
   refine E2 (fuel:=7) [(23,0),(24,0),(25,0),(26,0),(27,0),(28,0)] (fun w h=>(h.pk 1 [1,1,1])) (k:=Y2 55 (4 * ((i:Nat):Int)) (by omega) (by omega) kr (E2 (fuel:=6) [(29,0)] (fun w h=>(h.pk 1 [1,1,1])) (k:=Y2 56 ((4 * ((i:Nat):Int))+3) (by omega) (by omega) kr (A9 30 kr (fun w h=>(h.pk 1 [1,1,1])) (L2 64 ((4 * ((i:Nat):Int))+3) 1 hrd (by exact ⟨by omega,by omega,by intro h; have h2:=congrArg List.length h; simp only [u8s,List.length_map,List.length_nil] at h2; omega⟩) (B4 kr rfl)) (A9 31 kr (fun w h=>(h.pk 1 [1,1,1])) (O3 ((Int.toNat ((4 * ((i:Nat):Int))+3)) * 1) (.int .u8 (byt l (4 * i+3))) hrd (fun y o h=>(At.cons (At.cons (At.cons (hS y o h))))) (fun _=>(byt_at (by omega) (by omega))) (B4 kr rfl)) (E2 (fuel:=2) [(32,0),(33,0)] (fun w h=>(h.pk 1 [1,1,1])) (k:=A9 34 (hL:=(fun w h=>(h.pk 1 [1,1,1]))) (hy:=C7 (i:=34) (ch:=[]) (b:=b4) (off:=0) (len:=64) (sz:=1) (e:=134) (kd:=.i64) (j:=((i:Nat):Int)) (hb:=(fun _=>by exact ⟨by omega,by omega⟩)) (k:=B4 kr rfl)) (k:=C2 35 (k:=?_)))))))))
   refine J8 (ch:=[]) (b:=b4) (off:=0+Int.toNat ((i:Nat):Int) * 1) (v:=.int .u32 (IntKind.wrap .u32 ((BitVec.ofInt (IntKind.bits .u32) (IntKind.wrap .u32 ((BitVec.ofInt (IntKind.bits .u32) (IntKind.wrap .u32 ((BitVec.ofInt (IntKind.bits .u32) (IntKind.wrap .u32 ((IntKind.wrap .u32 (byt l (4 * i))) * 2 ^ 24)) ||| BitVec.ofInt (IntKind.bits .u32) (IntKind.wrap .u32 ((IntKind.wrap .u32 (byt l (4 * i+1))) * 2 ^ 16))).toNat)) ||| BitVec.ofInt (IntKind.bits .u32) (IntKind.wrap .u32 ((IntKind.wrap .u32 (byt l (4 * i+2))) * 2 ^ 8))).toNat)) ||| BitVec.ofInt (IntKind.bits .u32) (IntKind.wrap .u32 (byt l (4 * i+3)))).toNat))) (c:=(wArr (byt l) i)) (c':=(wArr (byt l) (i+1))) (j:=0) (m:=0) (H':=([(b4,.cells (wArr (byt l) (i+1)) 152 (0,0))]::[(b3,.cells #[.int .u32 0,.int .u32 0,.int .u32 0,.int .u32 0,.int .u32 0,.int .u32 0,.int .u32 0,.int .u32 0] 150 (0,0))]::[(b2,.cells kArr 152 (0,0))]::[(b1,.cells #[.int .u32 s.a,.int .u32 s.b,.int .u32 s.c,.int .u32 s.d,.int .u32 s.e,.int .u32 s.f,.int .u32 s.g,.int .u32 s.h] 150 (0,0))]::H)) (hoff:=(by rw [wArr_size _ (by omega)]; show 0+Int.toNat _ * 1+1≤64; omega)) (hfz:=(fun _ _=>P5)) (hc':=wArr_set (byt l) (q:=((i:Nat):Int)) (by omega) (by omega) (by rw [if_pos (by omega)] <;> rfl)) (k:=A7 kr (fun w h=>(h.pk 1 [1,1,1])) (D8 (E':=[⟨1,[],.slice ba 64 bc⟩,⟨3,[],pt b1⟩,⟨5,[],pt b2⟩,⟨6,[],pt b3⟩,⟨7,[],pt b4⟩,⟨22,[],.int .i64 ((i:Nat):Int)⟩]) [1,3,5,6,7,22] (k:=A1 (H0 (A6 (C3 (A1 (A3 ?_))))))))
   refine A5 (j:=1) [0] (k:=F0 101 (((i:Nat):Int)+1) (by omega) (by omega) kr (B5 [0] [1,3,5,6,7,22] (k:=F6 (s':=(i+1)) [1,3,5,6,7,22] kr rfl (by omega) (by omega))))
  ·
   replace hc6:=of_decide_eq_false hc6
   refine B6 (A1 (A2 (K0 (k:=A5 (j:=2) [0,0] (k:=F0 63 (((i:Nat):Int) - 15) (by omega) (by omega) kr (C7 (ch:=[]) (b:=b4) (off:=0) (len:=64) (sz:=1) (e:=134) (kd:=.i64) (j:=((i:Nat):Int) - 15) (hb:=(fun _=>by exact ⟨by omega,by omega⟩)) (k:=D0 (v:=.int .u32 ((V7 (byt l) i).getD (i - 15) 0)) 0 (0+Int.toNat (((i:Nat):Int) - 15) * 1) rfl (wArr_at (byt l) (q:=(((i:Nat):Int) - 15)) (j:=i - 15) (by omega) (by omega)) (A5 (j:=6) [0,0] (k:=?_)))))))))
   refine F0 67 (((i:Nat):Int) - 2) (by omega) (by omega) kr (C7 (ch:=[]) (b:=b4) (off:=0) (len:=64) (sz:=1) (e:=134) (kd:=.i64) (j:=((i:Nat):Int) - 2) (hb:=(fun _=>by exact ⟨by omega,by omega⟩)) (k:=D0 (v:=.int .u32 ((V7 (byt l) i).getD (i - 2) 0)) 0 (0+Int.toNat (((i:Nat):Int) - 2) * 1) rfl (wArr_at (byt l) (q:=(((i:Nat):Int) - 2)) (j:=i - 2) (by omega) (by omega)) (B5 [0,0] [1,3,5,6,7,8,9,10,22] (k:=A1 (A2 (A3 (A5 (j:=1) [0] (k:=G1 Tryz.func137 (rot7 ((V7 (byt l) i).getD (i - 15) 0) _ _) ?_))))))))
   refine A5 (j:=3) [0] (k:=G1 Tryz.func137 (rot18 ((V7 (byt l) i).getD (i - 15) 0) _ _) (D5 (E':=[⟨1,[],.slice ba 64 bc⟩,⟨3,[],pt b1⟩,⟨5,[],pt b2⟩,⟨6,[],pt b3⟩,⟨7,[],pt b4⟩,⟨8,[],.int .i64 ((i:Nat):Int)⟩,⟨10,[],.int .u32 ((V7 (byt l) i).getD (i - 2) 0)⟩,⟨11,[],.int .u32 (IntKind.wrap .u32 ((BitVec.ofInt (IntKind.bits .u32) (IntKind.wrap .u32 ((BitVec.ofInt (IntKind.bits .u32) (rotr ((V7 (byt l) i).getD (i - 15) 0) 7) ^^^ BitVec.ofInt (IntKind.bits .u32) (rotr ((V7 (byt l) i).getD (i - 15) 0) 18)).toNat)) ^^^ BitVec.ofInt (IntKind.bits .u32) (Int.fdiv ((V7 (byt l) i).getD (i - 15) 0) (2 ^ 3))).toNat))⟩,⟨22,[],.int .i64 ((i:Nat):Int)⟩]) [0,0,0,0,0] [1,3,5,6,7,8,10,11,22] (k:=N_env (E':=[⟨1,[],.slice ba 64 bc⟩,⟨3,[],pt b1⟩,⟨5,[],pt b2⟩,⟨6,[],pt b3⟩,⟨7,[],pt b4⟩,⟨8,[],.int .i64 ((i:Nat):Int)⟩,⟨10,[],.int .u32 ((V7 (byt l) i).getD (i - 2) 0)⟩,⟨11,[],.int .u32 (sg0 ((V7 (byt l) i).getD (i - 15) 0))⟩,⟨22,[],.int .i64 ((i:Nat):Int)⟩]) kr (A1 (A2 (A3 (A5 (j:=1) [0] (k:=G1 Tryz.func137 (rot17 ((V7 (byt l) i).getD (i - 2) 0) _ _) ?_))))))))
   refine A5 (j:=3) [0] (k:=G1 Tryz.func137 (rot19 ((V7 (byt l) i).getD (i - 2) 0) _ _) (D5 (E':=[⟨1,[],.slice ba 64 bc⟩,⟨3,[],pt b1⟩,⟨5,[],pt b2⟩,⟨6,[],pt b3⟩,⟨7,[],pt b4⟩,⟨8,[],.int .i64 ((i:Nat):Int)⟩,⟨11,[],.int .u32 (sg0 ((V7 (byt l) i).getD (i - 15) 0))⟩,⟨12,[],.int .u32 (IntKind.wrap .u32 ((BitVec.ofInt (IntKind.bits .u32) (IntKind.wrap .u32 ((BitVec.ofInt (IntKind.bits .u32) (rotr ((V7 (byt l) i).getD (i - 2) 0) 17) ^^^ BitVec.ofInt (IntKind.bits .u32) (rotr ((V7 (byt l) i).getD (i - 2) 0) 19)).toNat)) ^^^ BitVec.ofInt (IntKind.bits .u32) (Int.fdiv ((V7 (byt l) i).getD (i - 2) 0) (2 ^ 10))).toNat))⟩,⟨22,[],.int .i64 ((i:Nat):Int)⟩]) [0,0,0,0,0] [1,3,5,6,7,8,11,12,22] (k:=N_env (E':=[⟨1,[],.slice ba 64 bc⟩,⟨3,[],pt b1⟩,⟨5,[],pt b2⟩,⟨6,[],pt b3⟩,⟨7,[],pt b4⟩,⟨8,[],.int .i64 ((i:Nat):Int)⟩,⟨11,[],.int .u32 (sg0 ((V7 (byt l) i).getD (i - 15) 0))⟩,⟨12,[],.int .u32 (sg1 ((V7 (byt l) i).getD (i - 2) 0))⟩,⟨22,[],.int .i64 ((i:Nat):Int)⟩]) kr (A1 (F4 ([(b3,.cells #[.int .u32 0,.int .u32 0,.int .u32 0,.int .u32 0,.int .u32 0,.int .u32 0,.int .u32 0,.int .u32 0] 150 (0,0))]::[(b2,.cells kArr 152 (0,0))]::[(b1,.cells #[.int .u32 s.a,.int .u32 s.b,.int .u32 s.c,.int .u32 s.d,.int .u32 s.e,.int .u32 s.f,.int .u32 s.g,.int .u32 s.h] 150 (0,0))]::H) kr (E2 (fuel:=13) [(0,0),(1,0),(2,0)] (fun w h=>(h.pk 1 [1,1,1])) (k:=Y2 88 (((i:Nat):Int) - 16) (by omega) (by omega) kr (A9 3 (hL:=(fun w h=>(h.pk 1 [1,1,1]))) (hy:=C7 (i:=3) (ch:=[]) (b:=b4) (off:=0) (len:=64) (sz:=1) (e:=134) (kd:=.i64) (j:=((i:Nat):Int) - 16) (hb:=(fun _=>by exact ⟨by omega,by omega⟩)) (k:=B4 kr rfl)) (k:=?_)))))))))
   refine E2 (fuel:=9) [(5,0),(7,0),(8,0)] (fun w h=>(h.pk 1 [1,1,1])) (k:=Y2 94 (((i:Nat):Int) - 7) (by omega) (by omega) kr (A9 9 (hL:=(fun w h=>(h.pk 1 [1,1,1]))) (hy:=C7 (i:=9) (ch:=[]) (b:=b4) (off:=0) (len:=64) (sz:=1) (e:=134) (kd:=.i64) (j:=((i:Nat):Int) - 7) (hb:=(fun _=>by exact ⟨by omega,by omega⟩)) (k:=B4 kr rfl)) (k:=E2 (fuel:=7) [(12,0)] (fun w h=>(h.pk 1 [1,1,1])) (k:=P4 4 10 (k:=?_) (k':=?_)))))
   ·
    refine D0 (v:=.int .u32 ((V7 (byt l) i).getD (i - 16) 0)) 0 (0+Int.toNat (((i:Nat):Int) - 16) * 1) rfl (wArr_at (byt l) (q:=(((i:Nat):Int) - 16)) (j:=i - 16) (by omega) (by omega)) (A7 kr (fun w h=>(h.pk 1 [1,1,1])) (E2 (fuel:=5) [(6,0)] (fun w h=>(h.pk 1 [1,1,1])) (k:=C2 10 (k:=D0 (v:=.int .u32 ((V7 (byt l) i).getD (i - 7) 0)) 0 (0+Int.toNat (((i:Nat):Int) - 7) * 1) rfl (wArr_at (byt l) (q:=(((i:Nat):Int) - 7)) (j:=i - 7) (by omega) (by omega)) (A7 kr (fun w h=>(h.pk 1 [1,1,1])) (E2 (fuel:=2) [(11,0),(13,0)] (fun w h=>(h.pk 1 [1,1,1])) (k:=A9 14 (hL:=(fun w h=>(h.pk 1 [1,1,1]))) (hy:=C7 (i:=14) (ch:=[]) (b:=b4) (off:=0) (len:=64) (sz:=1) (e:=134) (kd:=.i64) (j:=((i:Nat):Int)) (hb:=(fun _=>by exact ⟨by omega,by omega⟩)) (k:=B4 kr rfl)) (k:=C2 15 (k:=?_)))))))))
    refine J8 (ch:=[]) (b:=b4) (off:=0+Int.toNat ((i:Nat):Int) * 1) (v:=.int .u32 (IntKind.wrap .u32 ((IntKind.wrap .u32 ((IntKind.wrap .u32 (((V7 (byt l) i).getD (i - 16) 0)+(sg0 ((V7 (byt l) i).getD (i - 15) 0))))+((V7 (byt l) i).getD (i - 7) 0)))+(sg1 ((V7 (byt l) i).getD (i - 2) 0))))) (c:=(wArr (byt l) i)) (c':=(wArr (byt l) (i+1))) (j:=0) (m:=0) (H':=([(b4,.cells (wArr (byt l) (i+1)) 152 (0,0))]::[(b3,.cells #[.int .u32 0,.int .u32 0,.int .u32 0,.int .u32 0,.int .u32 0,.int .u32 0,.int .u32 0,.int .u32 0] 150 (0,0))]::[(b2,.cells kArr 152 (0,0))]::[(b1,.cells #[.int .u32 s.a,.int .u32 s.b,.int .u32 s.c,.int .u32 s.d,.int .u32 s.e,.int .u32 s.f,.int .u32 s.g,.int .u32 s.h] 150 (0,0))]::H)) (hoff:=(by rw [wArr_size _ (by omega)]; show 0+Int.toNat _ * 1+1≤64; omega)) (hfz:=(fun _ _=>P5)) (hc':=wArr_set (byt l) (q:=((i:Nat):Int)) (by omega) (by omega) (by rw [if_neg (by omega)] <;> rfl)) (k:=A7 kr (fun w h=>(h.pk 1 [1,1,1])) (D8 (E':=[⟨1,[],.slice ba 64 bc⟩,⟨3,[],pt b1⟩,⟨5,[],pt b2⟩,⟨6,[],pt b3⟩,⟨7,[],pt b4⟩,⟨22,[],.int .i64 ((i:Nat):Int)⟩]) [1,3,5,6,7,22] (k:=D3 (A1 (A3 (A5 (j:=1) [0] (k:=F0 101 (((i:Nat):Int)+1) (by omega) (by omega) kr (B5 [0] [1,3,5,6,7,22] (k:=?_)))))))))
    refine F6 (s':=(i+1)) [1,3,5,6,7,22] kr rfl (by omega) (by omega)
   ·
    refine D0 (v:=.int .u32 ((V7 (byt l) i).getD (i - 7) 0)) 0 (0+Int.toNat (((i:Nat):Int) - 7) * 1) rfl (wArr_at (byt l) (q:=(((i:Nat):Int) - 7)) (j:=i - 7) (by omega) (by omega)) (A7 kr (fun w h=>(h.pk 1 [1,1,1])) (C2 4 (k:=D0 (v:=.int .u32 ((V7 (byt l) i).getD (i - 16) 0)) 0 (0+Int.toNat (((i:Nat):Int) - 16) * 1) rfl (wArr_at (byt l) (q:=(((i:Nat):Int) - 16)) (j:=i - 16) (by omega) (by omega)) (A7 kr (fun w h=>(h.pk 1 [1,1,1])) (E2 (fuel:=2) [(6,0),(11,0),(13,0)] (fun w h=>(h.pk 1 [1,1,1])) (k:=A9 14 (hL:=(fun w h=>(h.pk 1 [1,1,1]))) (hy:=C7 (i:=14) (ch:=[]) (b:=b4) (off:=0) (len:=64) (sz:=1) (e:=134) (kd:=.i64) (j:=((i:Nat):Int)) (hb:=(fun _=>by exact ⟨by omega,by omega⟩)) (k:=B4 kr rfl)) (k:=C2 15 (k:=J8 (ch:=[]) (b:=b4) (off:=0+Int.toNat ((i:Nat):Int) * 1) (v:=.int .u32 (IntKind.wrap .u32 ((IntKind.wrap .u32 ((IntKind.wrap .u32 (((V7 (byt l) i).getD (i - 16) 0)+(sg0 ((V7 (byt l) i).getD (i - 15) 0))))+((V7 (byt l) i).getD (i - 7) 0)))+(sg1 ((V7 (byt l) i).getD (i - 2) 0))))) (c:=(wArr (byt l) i)) (c':=(wArr (byt l) (i+1))) (j:=0) (m:=0) (H':=([(b4,.cells (wArr (byt l) (i+1)) 152 (0,0))]::[(b3,.cells #[.int .u32 0,.int .u32 0,.int .u32 0,.int .u32 0,.int .u32 0,.int .u32 0,.int .u32 0,.int .u32 0] 150 (0,0))]::[(b2,.cells kArr 152 (0,0))]::[(b1,.cells #[.int .u32 s.a,.int .u32 s.b,.int .u32 s.c,.int .u32 s.d,.int .u32 s.e,.int .u32 s.f,.int .u32 s.g,.int .u32 s.h] 150 (0,0))]::H)) (hoff:=(by rw [wArr_size _ (by omega)]; show 0+Int.toNat _ * 1+1≤64; omega)) (hfz:=(fun _ _=>P5)) (hc':=wArr_set (byt l) (q:=((i:Nat):Int)) (by omega) (by omega) (by rw [if_neg (by omega)] <;> rfl)) (k:=?_)))))))))
    refine A7 kr (fun w h=>(h.pk 1 [1,1,1])) (D8 (E':=[⟨1,[],.slice ba 64 bc⟩,⟨3,[],pt b1⟩,⟨5,[],pt b2⟩,⟨6,[],pt b3⟩,⟨7,[],pt b4⟩,⟨22,[],.int .i64 ((i:Nat):Int)⟩]) [1,3,5,6,7,22] (k:=D3 (A1 (A3 (A5 (j:=1) [0] (k:=F0 101 (((i:Nat):Int)+1) (by omega) (by omega) kr (B5 [0] [1,3,5,6,7,22] (k:=F6 (s':=(i+1)) [1,3,5,6,7,22] kr rfl (by omega) (by omega)))))))))
 ·
  have hi2:i=64:=by (have h9:=of_decide_eq_false hc5; omega)
  refine H0 (A6 (A6 (C3 (A1 (A2 (A3 (GL_laq 3 0 8 rfl (O0 (.agg #[.int .u32 0,.int .u32 0,.int .u32 0,.int .u32 0,.int .u32 0,.int .u32 0,.int .u32 0,.int .u32 0]) (fun b21=>?_)))))))))
  refine M8 0 0 (.agg #[.int .u32 s.a,.int .u32 s.b,.int .u32 s.c,.int .u32 s.d,.int .u32 s.e,.int .u32 s.f,.int .u32 s.g,.int .u32 s.h]) rfl (B5 [] [3,5,6,7,13] (k:=A1 (A2 (A2 (G_p [0] [3,5,6,7,13,103] (k:=A1 (B8 (I6 (EI:=(fun ξ:Nat × S8=>[⟨3,[],pt b1⟩,⟨5,[],pt b2⟩,⟨6,[],pt b3⟩,⟨7,[],pt b4⟩,⟨13,[],pt b21⟩,⟨103,[],.int .i64 ((ξ.1:Nat):Int)⟩])) (HI:=(fun ξ:Nat × S8=>([(b21,.cells #[.int .u32 ξ.2.a,.int .u32 ξ.2.b,.int .u32 ξ.2.c,.int .u32 ξ.2.d,.int .u32 ξ.2.e,.int .u32 ξ.2.f,.int .u32 ξ.2.g,.int .u32 ξ.2.h] 150 (0,0))]::[(b4,.cells (wArr (byt l) 64) 152 (0,0))]::[(b3,.cells #[.int .u32 0,.int .u32 0,.int .u32 0,.int .u32 0,.int .u32 0,.int .u32 0,.int .u32 0,.int .u32 0] 150 (0,0))]::[(b2,.cells kArr 152 (0,0))]::[(b1,.cells #[.int .u32 s.a,.int .u32 s.b,.int .u32 s.c,.int .u32 s.d,.int .u32 s.e,.int .u32 s.f,.int .u32 s.g,.int .u32 s.h] 150 (0,0))]::H))) (Φ:=(fun ξ:Nat × S8=>(ξ.1≤64)∧(ξ.2=rnds kAt (wAt (byt l)) s ξ.1))) (μ:=(fun ξ:Nat × S8=>64 - ξ.1)) (s0:=(0,s)) [3,5,6,7,13,103] kr (by rw [hi2] <;> kernel_rfl) ⟨(Nat.zero_le _),rfl⟩ ?_))))))))
  rintro ⟨i,sv⟩ ⟨hi,hsv⟩
  dsimp only at hi hsv
  refine A2 (G_p [0] [3,5,6,7,13,103,104] (k:=A1 (A2 (D2 (b:=decide (((i:Nat):Int)<64)) kr (fun hc22=>?_) (fun hc22=>?_)))))
  ·
   replace hc22:=of_decide_eq_true hc22
   refine B6 (A1 (A2 (B8 (A2 (G_p [0,0] [3,5,6,7,13,14,103] (k:=A1 (A2 (K0 (k:=?_)))))))))
   refine C7 (ch:=[]) (b:=b21) (off:=0) (len:=8) (sz:=1) (e:=134) (kd:=.i64) (j:=4) (hb:=(fun _=>⟨by decide,by decide⟩)) (k:=D0 0 4 rfl rfl (C7 (ch:=[]) (b:=b21) (off:=0) (len:=8) (sz:=1) (e:=134) (kd:=.i64) (j:=0) (hb:=(fun _=>⟨by decide,by decide⟩)) (k:=D0 0 0 rfl rfl (B5 [0,0] [3,5,6,7,13,14,15,16,103] (k:=A1 (A2 (A3 (A5 (j:=1) [0] (k:=?_)))))))))
   refine G1 Tryz.func137 (rot6 sv.e _ _) (A5 (j:=3) [0] (k:=G1 Tryz.func137 (rot11 sv.e _ _) (A5 (j:=6) [0,0] (k:=G1 Tryz.func137 (rot25 sv.e _ _) (D5 (E':=[⟨3,[],pt b1⟩,⟨5,[],pt b2⟩,⟨6,[],pt b3⟩,⟨7,[],pt b4⟩,⟨13,[],pt b21⟩,⟨14,[],.int .i64 ((i:Nat):Int)⟩,⟨15,[],.int .u32 sv.e⟩,⟨16,[],.int .u32 sv.a⟩,⟨17,[],.int .u32 (IntKind.wrap .u32 ((BitVec.ofInt (IntKind.bits .u32) (IntKind.wrap .u32 ((BitVec.ofInt (IntKind.bits .u32) (rotr sv.e 6) ^^^ BitVec.ofInt (IntKind.bits .u32) (rotr sv.e 11)).toNat)) ^^^ BitVec.ofInt (IntKind.bits .u32) (rotr sv.e 25)).toNat))⟩,⟨103,[],.int .i64 ((i:Nat):Int)⟩]) [0,0] [3,5,6,7,13,14,15,16,17,103] (k:=N_env (E':=[⟨3,[],pt b1⟩,⟨5,[],pt b2⟩,⟨6,[],pt b3⟩,⟨7,[],pt b4⟩,⟨13,[],pt b21⟩,⟨14,[],.int .i64 ((i:Nat):Int)⟩,⟨15,[],.int .u32 sv.e⟩,⟨16,[],.int .u32 sv.a⟩,⟨17,[],.int .u32 (bs1 sv.e)⟩,⟨103,[],.int .i64 ((i:Nat):Int)⟩]) kr (A1 (A2 ?_))))))))
   refine K0 (k:=C7 (ch:=[]) (b:=b21) (off:=0) (len:=8) (sz:=1) (e:=134) (kd:=.i64) (j:=7) (hb:=(fun _=>⟨by decide,by decide⟩)) (k:=D0 0 7 rfl rfl (A5 (j:=5) [0,0,0] (k:=C7 (ch:=[]) (b:=b21) (off:=0) (len:=8) (sz:=1) (e:=134) (kd:=.i64) (j:=5) (hb:=(fun _=>⟨by decide,by decide⟩)) (k:=D0 0 5 rfl rfl (A5 (j:=10) [0,0,0] (k:=C7 (ch:=[]) (b:=b21) (off:=0) (len:=8) (sz:=1) (e:=134) (kd:=.i64) (j:=6) (hb:=(fun _=>⟨by decide,by decide⟩)) (k:=D0 0 6 rfl rfl ?_))))))))
   refine A5 (j:=16) [0,0,0,0] (k:=C7 (ch:=[]) (b:=b2) (off:=0) (len:=64) (sz:=1) (e:=134) (kd:=.i64) (j:=((i:Nat):Int)) (hb:=(fun _=>by exact ⟨by omega,by omega⟩)) (k:=D0 (v:=.int .u32 (kAt i)) 3 (0+Int.toNat ((i:Nat):Int) * 1) rfl (kArr_at (q:=((i:Nat):Int)) (j:=i) (by omega) (by omega)) (A5 (j:=20) [0,0] (k:=C7 (ch:=[]) (b:=b4) (off:=0) (len:=64) (sz:=1) (e:=134) (kd:=.i64) (j:=((i:Nat):Int)) (hb:=(fun _=>by exact ⟨by omega,by omega⟩)) (k:=D0 (v:=.int .u32 (wAt (byt l) i)) 1 (0+Int.toNat ((i:Nat):Int) * 1) rfl (wArr_at (byt l) (q:=((i:Nat):Int)) (j:=i) (by omega) (by omega)) (D5 (E':=[⟨3,[],pt b1⟩,⟨5,[],pt b2⟩,⟨6,[],pt b3⟩,⟨7,[],pt b4⟩,⟨13,[],pt b21⟩,⟨16,[],.int .u32 sv.a⟩,⟨18,[],.int .u32 (IntKind.wrap .u32 ((IntKind.wrap .u32 ((IntKind.wrap .u32 ((IntKind.wrap .u32 (sv.h+(bs1 sv.e)))+(IntKind.wrap .u32 ((BitVec.ofInt (IntKind.bits .u32) (IntKind.wrap .u32 ((BitVec.ofInt (IntKind.bits .u32) sv.e &&& BitVec.ofInt (IntKind.bits .u32) sv.f).toNat)) ^^^ BitVec.ofInt (IntKind.bits .u32) (IntKind.wrap .u32 ((BitVec.ofInt (IntKind.bits .u32) (IntKind.wrap .u32 ((BitVec.ofInt (IntKind.bits .u32) 4294967295 ^^^ BitVec.ofInt (IntKind.bits .u32) sv.e).toNat)) &&& BitVec.ofInt (IntKind.bits .u32) sv.g).toNat))).toNat))))+(kAt i)))+(wAt (byt l) i)))⟩,⟨103,[],.int .i64 ((i:Nat):Int)⟩]) [0,0] [3,5,6,7,13,16,18,103] (k:=N_env (E':=[⟨3,[],pt b1⟩,⟨5,[],pt b2⟩,⟨6,[],pt b3⟩,⟨7,[],pt b4⟩,⟨13,[],pt b21⟩,⟨16,[],.int .u32 sv.a⟩,⟨18,[],.int .u32 (t1P (kAt i) (wAt (byt l) i) sv)⟩,⟨103,[],.int .i64 ((i:Nat):Int)⟩]) kr (A1 ?_))))))))
   refine A2 (A3 (A5 (j:=1) [0] (k:=G1 Tryz.func137 (rot2 sv.a _ _) (A5 (j:=3) [0] (k:=G1 Tryz.func137 (rot13 sv.a _ _) (A5 (j:=6) [0,0] (k:=G1 Tryz.func137 (rot22 sv.a _ _) (D5 (E':=[⟨3,[],pt b1⟩,⟨5,[],pt b2⟩,⟨6,[],pt b3⟩,⟨7,[],pt b4⟩,⟨13,[],pt b21⟩,⟨16,[],.int .u32 sv.a⟩,⟨18,[],.int .u32 (t1P (kAt i) (wAt (byt l) i) sv)⟩,⟨19,[],.int .u32 (IntKind.wrap .u32 ((BitVec.ofInt (IntKind.bits .u32) (IntKind.wrap .u32 ((BitVec.ofInt (IntKind.bits .u32) (rotr sv.a 2) ^^^ BitVec.ofInt (IntKind.bits .u32) (rotr sv.a 13)).toNat)) ^^^ BitVec.ofInt (IntKind.bits .u32) (rotr sv.a 22)).toNat))⟩,⟨103,[],.int .i64 ((i:Nat):Int)⟩]) [0,0] [3,5,6,7,13,16,18,19,103] (k:=?_)))))))))
   refine N_env (E':=[⟨3,[],pt b1⟩,⟨5,[],pt b2⟩,⟨6,[],pt b3⟩,⟨7,[],pt b4⟩,⟨13,[],pt b21⟩,⟨16,[],.int .u32 sv.a⟩,⟨18,[],.int .u32 (t1P (kAt i) (wAt (byt l) i) sv)⟩,⟨19,[],.int .u32 (bs0 sv.a)⟩,⟨103,[],.int .i64 ((i:Nat):Int)⟩]) kr (A1 (A2 (A3 (A5 (j:=2) [0,0] (k:=C7 (ch:=[]) (b:=b21) (off:=0) (len:=8) (sz:=1) (e:=134) (kd:=.i64) (j:=1) (hb:=(fun _=>⟨by decide,by decide⟩)) (k:=D0 0 1 rfl rfl (A5 (j:=6) [0,0] (k:=C7 (ch:=[]) (b:=b21) (off:=0) (len:=8) (sz:=1) (e:=134) (kd:=.i64) (j:=2) (hb:=(fun _=>⟨by decide,by decide⟩)) (k:=?_)))))))))
   refine D0 0 2 rfl rfl (A5 (j:=10) [0,0] (k:=C7 (ch:=[]) (b:=b21) (off:=0) (len:=8) (sz:=1) (e:=134) (kd:=.i64) (j:=1) (hb:=(fun _=>⟨by decide,by decide⟩)) (k:=D0 0 1 rfl rfl (C7 (ch:=[]) (b:=b21) (off:=0) (len:=8) (sz:=1) (e:=134) (kd:=.i64) (j:=2) (hb:=(fun _=>⟨by decide,by decide⟩)) (k:=D0 0 2 rfl rfl (D5 (E':=[⟨3,[],pt b1⟩,⟨5,[],pt b2⟩,⟨6,[],pt b3⟩,⟨7,[],pt b4⟩,⟨13,[],pt b21⟩,⟨18,[],.int .u32 (t1P (kAt i) (wAt (byt l) i) sv)⟩,⟨20,[],.int .u32 (IntKind.wrap .u32 ((bs0 sv.a)+(IntKind.wrap .u32 ((BitVec.ofInt (IntKind.bits .u32) (IntKind.wrap .u32 ((BitVec.ofInt (IntKind.bits .u32) (IntKind.wrap .u32 ((BitVec.ofInt (IntKind.bits .u32) sv.a &&& BitVec.ofInt (IntKind.bits .u32) sv.b).toNat)) ^^^ BitVec.ofInt (IntKind.bits .u32) (IntKind.wrap .u32 ((BitVec.ofInt (IntKind.bits .u32) sv.a &&& BitVec.ofInt (IntKind.bits .u32) sv.c).toNat))).toNat)) ^^^ BitVec.ofInt (IntKind.bits .u32) (IntKind.wrap .u32 ((BitVec.ofInt (IntKind.bits .u32) sv.b &&& BitVec.ofInt (IntKind.bits .u32) sv.c).toNat))).toNat))))⟩,⟨103,[],.int .i64 ((i:Nat):Int)⟩]) [0,0,0,0] [3,5,6,7,13,18,20,103] (k:=N_env (E':=[⟨3,[],pt b1⟩,⟨5,[],pt b2⟩,⟨6,[],pt b3⟩,⟨7,[],pt b4⟩,⟨13,[],pt b21⟩,⟨18,[],.int .u32 (t1P (kAt i) (wAt (byt l) i) sv)⟩,⟨20,[],.int .u32 (t2P sv)⟩,⟨103,[],.int .i64 ((i:Nat):Int)⟩]) kr (A1 ?_))))))))
   refine A2 (F4 ([(b4,.cells (wArr (byt l) 64) 152 (0,0))]::[(b3,.cells #[.int .u32 0,.int .u32 0,.int .u32 0,.int .u32 0,.int .u32 0,.int .u32 0,.int .u32 0,.int .u32 0] 150 (0,0))]::[(b2,.cells kArr 152 (0,0))]::[(b1,.cells #[.int .u32 s.a,.int .u32 s.b,.int .u32 s.c,.int .u32 s.d,.int .u32 s.e,.int .u32 s.f,.int .u32 s.g,.int .u32 s.h] 150 (0,0))]::H) kr (A9 0 kr (fun w h=>(h.pk 1 [1,1,1,1])) (GL_sliceArr (i:=0) (ch:=[]) (b:=b21) (off:=0) (len:=8) (sz:=1) (e:=134) (vl:=(some (.int .i64 1))) (vh:=none) (l:=1) (h:=8) rfl rfl kr kr kr kr kr kr kr kr kr kr (fun _=>by decide) (B4 kr rfl)) (A9 1 kr (fun w h=>(h.pk 1 [1,1,1,1])) (GL_sliceArr (i:=1) (ch:=[]) (b:=b21) (off:=0) (len:=8) (sz:=1) (e:=134) (vl:=none) (vh:=(some (.int .i64 7))) (l:=0) (h:=7) rfl rfl kr kr kr kr kr kr kr kr kr kr (fun _=>by decide) (B4 kr rfl)) (C2 2 (k:=GL_copy (i:=2) (ch:=[]) (dT:=178) (sT:=178) (el:=134) (b:=b21) (o1:=1) (n1:=7) (c1:=7) (a:=⟨b21,0,none⟩) (n2:=7) (c2:=8) (c:=#[.int .u32 sv.a,.int .u32 sv.b,.int .u32 sv.c,.int .u32 sv.d,.int .u32 sv.e,.int .u32 sv.f,.int .u32 sv.g,.int .u32 sv.h]) (c':=#[.int .u32 sv.a,.int .u32 sv.a,.int .u32 sv.b,.int .u32 sv.c,.int .u32 sv.d,.int .u32 sv.e,.int .u32 sv.f,.int .u32 sv.g]) (j:=0) (m:=0) (H':=([(b21,.cells #[.int .u32 sv.a,.int .u32 sv.a,.int .u32 sv.b,.int .u32 sv.c,.int .u32 sv.d,.int .u32 sv.e,.int .u32 sv.f,.int .u32 sv.g] 150 (0,0))]::[(b4,.cells (wArr (byt l) 64) 152 (0,0))]::[(b3,.cells #[.int .u32 0,.int .u32 0,.int .u32 0,.int .u32 0,.int .u32 0,.int .u32 0,.int .u32 0,.int .u32 0] 150 (0,0))]::[(b2,.cells kArr 152 (0,0))]::[(b1,.cells #[.int .u32 s.a,.int .u32 s.b,.int .u32 s.c,.int .u32 s.d,.int .u32 s.e,.int .u32 s.f,.int .u32 s.g,.int .u32 s.h] 150 (0,0))]::H)) [.int .u32 sv.a,.int .u32 sv.b,.int .u32 sv.c,.int .u32 sv.d,.int .u32 sv.e,.int .u32 sv.f,.int .u32 sv.g] rfl rfl kr kr kr kr kr kr kr rfl rfl rfl (fun w hw k v hv=>cells_at (hw.has (b21,_) (List.mem_flatten.2 ⟨_,List.mem_of_getElem? (i:=0) rfl,List.mem_singleton.2 rfl⟩)) kr hv) (Nat.le_of_ble_eq_true rfl) kr kr kr (A7 kr (fun w h=>(h.pk 1 [1,1,1,1])) (D8 (E':=[⟨3,[],pt b1⟩,⟨5,[],pt b2⟩,⟨6,[],pt b3⟩,⟨7,[],pt b4⟩,⟨13,[],pt b21⟩,⟨18,[],.int .u32 (t1P (kAt i) (wAt (byt l) i) sv)⟩,⟨20,[],.int .u32 (t2P sv)⟩,⟨103,[],.int .i64 ((i:Nat):Int)⟩]) [3,5,6,7,13,18,20,103] (k:=A1 ?_))))))))
   refine A2 (A3 (C7 (ch:=[]) (b:=b21) (off:=0) (len:=8) (sz:=1) (e:=134) (kd:=.i64) (j:=4) (hb:=(fun _=>⟨by decide,by decide⟩)) (k:=D0 0 4 rfl rfl (A5 (j:=4) [0,0] (k:=C7 (ch:=[]) (b:=b21) (off:=0) (len:=8) (sz:=1) (e:=134) (kd:=.i64) (j:=4) (hb:=(fun _=>⟨by decide,by decide⟩)) (k:=M8 0 4 (.int .u32 (IntKind.wrap .u32 (sv.d+(t1P (kAt i) (wAt (byt l) i) sv)))) rfl (B5 [] [3,5,6,7,13,18,20,103] (k:=A1 ?_))))))))
   refine A3 (A5 (j:=3) [0,0,0] (k:=C7 (ch:=[]) (b:=b21) (off:=0) (len:=8) (sz:=1) (e:=134) (kd:=.i64) (j:=0) (hb:=(fun _=>⟨by decide,by decide⟩)) (k:=M8 0 0 (.int .u32 (IntKind.wrap .u32 ((t1P (kAt i) (wAt (byt l) i) sv)+(t2P sv)))) rfl (B5 [] [3,5,6,7,13,103] (k:=D3 (A1 (A3 (A5 (j:=1) [0] (k:=?_)))))))))
   refine F0 178 (((i:Nat):Int)+1) (by omega) (by omega) kr (B5 [0] [3,5,6,7,13,103] (k:=F6 (s':=(i+1,(rnd (kAt i) (wAt (byt l) i) sv))) [3,5,6,7,13,103] kr kr ⟨(by dsimp only; omega),(by dsimp only; rw [hsv]; rfl)⟩ (by dsimp only; omega)))
  ·
   have hi3:i=64:=by (have h9:=of_decide_eq_false hc22; omega)
   refine H0 (A6 (A6 (C3 (A1 (A2 (A2 (G_p [0] [3,6,13,179] (k:=A1 ?_))))))))
   refine B8 (G_rounds 9 (J4 (A2 (G_p [0] [3,6,13,179,180] (k:=A1 (A2 (G6 kr (B6 ?_))))))))
   refine A1 (A2 (B8 (A2 (G_p [0,0] [3,6,13,21,179] (k:=A1 (F4 ([(b21,.cells #[.int .u32 sv.a,.int .u32 sv.b,.int .u32 sv.c,.int .u32 sv.d,.int .u32 sv.e,.int .u32 sv.f,.int .u32 sv.g,.int .u32 sv.h] 150 (0,0))]::[(b4,.cells (wArr (byt l) 64) 152 (0,0))]::[(b3,.cells #[.int .u32 0,.int .u32 0,.int .u32 0,.int .u32 0,.int .u32 0,.int .u32 0,.int .u32 0,.int .u32 0] 150 (0,0))]::[(b2,.cells kArr 152 (0,0))]::H) kr (E2 (fuel:=8) [(0,0)] (fun w h=>(h.pk 1 [0,0,0,0])) (k:=A9 1 (hL:=(fun w h=>(h.pk 1 [0,0,0,0]))) (hy:=C7 (i:=1) (ch:=[]) (b:=b1) (off:=0) (len:=8) (sz:=1) (e:=134) (kd:=.i64) (j:=0) (hb:=(fun _=>⟨by decide,by decide⟩)) (k:=B4 kr rfl)) (k:=?_)))))))))
   refine E2 (fuel:=6) [(3,0)] (fun w h=>(h.pk 1 [0,0,0,0])) (k:=A9 4 (hL:=(fun w h=>(h.pk 1 [0,0,0,0]))) (hy:=C7 (i:=4) (ch:=[]) (b:=b21) (off:=0) (len:=8) (sz:=1) (e:=134) (kd:=.i64) (j:=0) (hb:=(fun _=>⟨by decide,by decide⟩)) (k:=B4 kr rfl)) (k:=A9 5 kr (fun w h=>(h.pk 1 [0,0,0,0])) (D0 0 0 rfl rfl (B4 kr rfl)) (C2 2 (k:=D0 4 0 rfl rfl (A7 kr (fun w h=>(h.pk 1 [0,0,0,0])) (E2 (fuel:=2) [(6,0)] (fun w h=>(h.pk 1 [0,0,0,0])) (k:=A9 7 (hL:=(fun w h=>(h.pk 1 [0,0,0,0]))) (hy:=C7 (i:=7) (ch:=[]) (b:=b1) (off:=0) (len:=8) (sz:=1) (e:=134) (kd:=.i64) (j:=0) (hb:=(fun _=>⟨by decide,by decide⟩)) (k:=B4 kr rfl)) (k:=C2 8 (k:=?_)))))))))
   refine M8 4 0 (.int .u32 (IntKind.wrap .u32 (s.a+sv.a))) rfl (A7 kr (fun w h=>(h.pkT 1 [0,0,0,0])) (D8 (E':=[⟨3,[],pt b1⟩,⟨6,[],pt b3⟩,⟨13,[],pt b21⟩,⟨179,[],.int .i64 0⟩]) [3,6,13,179] (k:=D3 (A1 (G_p [0,0] [3,6,13,179] (k:=N_rd (J4 (A2 ?_))))))))
   refine G_p [0] [3,6,13,179,180] (k:=A1 (A2 (G6 kr (B6 (A1 (A2 (B8 (A2 ?_))))))))
   refine G_p [0,0] [3,6,13,21,179] (k:=A1 (F4 ([(b21,.cells #[.int .u32 sv.a,.int .u32 sv.b,.int .u32 sv.c,.int .u32 sv.d,.int .u32 sv.e,.int .u32 sv.f,.int .u32 sv.g,.int .u32 sv.h] 150 (0,0))]::[(b4,.cells (wArr (byt l) 64) 152 (0,0))]::[(b3,.cells #[.int .u32 0,.int .u32 0,.int .u32 0,.int .u32 0,.int .u32 0,.int .u32 0,.int .u32 0,.int .u32 0] 150 (0,0))]::[(b2,.cells kArr 152 (0,0))]::H) kr (E2 (fuel:=8) [(0,0)] (fun w h=>(h.pkT 1 [0,0,0,0])) (k:=A9 1 (hL:=(fun w h=>(h.pkT 1 [0,0,0,0]))) (hy:=C7 (i:=1) (ch:=[]) (b:=b1) (off:=0) (len:=8) (sz:=1) (e:=134) (kd:=.i64) (j:=1) (hb:=(fun _=>⟨by decide,by decide⟩)) (k:=B4 kr rfl)) (k:=E2 (fuel:=6) [(3,0)] (fun w h=>(h.pkT 1 [0,0,0,0])) (k:=A9 4 (hL:=(fun w h=>(h.pkT 1 [0,0,0,0]))) (hy:=C7 (i:=4) (ch:=[]) (b:=b21) (off:=0) (len:=8) (sz:=1) (e:=134) (kd:=.i64) (j:=1) (hb:=(fun _=>⟨by decide,by decide⟩)) (k:=B4 kr rfl)) (k:=A9 5 kr (fun w h=>(h.pkT 1 [0,0,0,0])) (D0 0 1 rfl rfl (B4 kr rfl)) (C2 2 (k:=?_)))))))))
   refine D0 4 1 rfl rfl (A7 kr (fun w h=>(h.pkT 1 [0,0,0,0])) (E2 (fuel:=2) [(6,0)] (fun w h=>(h.pkT 1 [0,0,0,0])) (k:=A9 7 (hL:=(fun w h=>(h.pkT 1 [0,0,0,0]))) (hy:=C7 (i:=7) (ch:=[]) (b:=b1) (off:=0) (len:=8) (sz:=1) (e:=134) (kd:=.i64) (j:=1) (hb:=(fun _=>⟨by decide,by decide⟩)) (k:=B4 kr rfl)) (k:=C2 8 (k:=M8 4 1 (.int .u32 (IntKind.wrap .u32 (s.b+sv.b))) rfl (A7 kr (fun w h=>(h.pkT 1 [0,0,0,0])) (D8 (E':=[⟨3,[],pt b1⟩,⟨6,[],pt b3⟩,⟨13,[],pt b21⟩,⟨179,[],.int .i64 1⟩]) [3,6,13,179] (k:=D3 ?_))))))))
   refine A1 (G_p [0,0] [3,6,13,179] (k:=N_rd (J4 (A2 (G_p [0] [3,6,13,179,180] (k:=A1 (A2 (G6 kr ?_))))))))
   refine B6 (A1 (A2 (B8 (A2 (G_p [0,0] [3,6,13,21,179] (k:=A1 (F4 ([(b21,.cells #[.int .u32 sv.a,.int .u32 sv.b,.int .u32 sv.c,.int .u32 sv.d,.int .u32 sv.e,.int .u32 sv.f,.int .u32 sv.g,.int .u32 sv.h] 150 (0,0))]::[(b4,.cells (wArr (byt l) 64) 152 (0,0))]::[(b3,.cells #[.int .u32 0,.int .u32 0,.int .u32 0,.int .u32 0,.int .u32 0,.int .u32 0,.int .u32 0,.int .u32 0] 150 (0,0))]::[(b2,.cells kArr 152 (0,0))]::H) kr (E2 (fuel:=8) [(0,0)] (fun w h=>(h.pkT 1 [0,0,0,0])) (k:=?_)))))))))
   refine A9 1 (hL:=(fun w h=>(h.pkT 1 [0,0,0,0]))) (hy:=C7 (i:=1) (ch:=[]) (b:=b1) (off:=0) (len:=8) (sz:=1) (e:=134) (kd:=.i64) (j:=2) (hb:=(fun _=>⟨by decide,by decide⟩)) (k:=B4 kr rfl)) (k:=E2 (fuel:=6) [(3,0)] (fun w h=>(h.pkT 1 [0,0,0,0])) (k:=A9 4 (hL:=(fun w h=>(h.pkT 1 [0,0,0,0]))) (hy:=C7 (i:=4) (ch:=[]) (b:=b21) (off:=0) (len:=8) (sz:=1) (e:=134) (kd:=.i64) (j:=2) (hb:=(fun _=>⟨by decide,by decide⟩)) (k:=B4 kr rfl)) (k:=A9 5 kr (fun w h=>(h.pkT 1 [0,0,0,0])) (D0 0 2 rfl rfl (B4 kr rfl)) (C2 2 (k:=D0 4 2 rfl rfl (A7 kr (fun w h=>(h.pkT 1 [0,0,0,0])) (E2 (fuel:=2) [(6,0)] (fun w h=>(h.pkT 1 [0,0,0,0])) (k:=A9 7 (hL:=(fun w h=>(h.pkT 1 [0,0,0,0]))) (hy:=C7 (i:=7) (ch:=[]) (b:=b1) (off:=0) (len:=8) (sz:=1) (e:=134) (kd:=.i64) (j:=2) (hb:=(fun _=>⟨by decide,by decide⟩)) (k:=B4 kr rfl)) (k:=?_)))))))))
   refine C2 8 (k:=M8 4 2 (.int .u32 (IntKind.wrap .u32 (s.c+sv.c))) rfl (A7 kr (fun w h=>(h.pkT 1 [0,0,0,0])) (D8 (E':=[⟨3,[],pt b1⟩,⟨6,[],pt b3⟩,⟨13,[],pt b21⟩,⟨179,[],.int .i64 2⟩]) [3,6,13,179] (k:=D3 (A1 (G_p [0,0] [3,6,13,179] (k:=N_rd (J4 ?_))))))))
   refine A2 (G_p [0] [3,6,13,179,180] (k:=A1 (A2 (G6 kr (B6 (A1 (A2 (B8 ?_))))))))
   refine A2 (G_p [0,0] [3,6,13,21,179] (k:=A1 (F4 ([(b21,.cells #[.int .u32 sv.a,.int .u32 sv.b,.int .u32 sv.c,.int .u32 sv.d,.int .u32 sv.e,.int .u32 sv.f,.int .u32 sv.g,.int .u32 sv.h] 150 (0,0))]::[(b4,.cells (wArr (byt l) 64) 152 (0,0))]::[(b3,.cells #[.int .u32 0,.int .u32 0,.int .u32 0,.int .u32 0,.int .u32 0,.int .u32 0,.int .u32 0,.int .u32 0] 150 (0,0))]::[(b2,.cells kArr 152 (0,0))]::H) kr (E2 (fuel:=8) [(0,0)] (fun w h=>(h.pkT 1 [0,0,0,0])) (k:=A9 1 (hL:=(fun w h=>(h.pkT 1 [0,0,0,0]))) (hy:=C7 (i:=1) (ch:=[]) (b:=b1) (off:=0) (len:=8) (sz:=1) (e:=134) (kd:=.i64) (j:=3) (hb:=(fun _=>⟨by decide,by decide⟩)) (k:=B4 kr rfl)) (k:=E2 (fuel:=6) [(3,0)] (fun w h=>(h.pkT 1 [0,0,0,0])) (k:=A9 4 (hL:=(fun w h=>(h.pkT 1 [0,0,0,0]))) (hy:=C7 (i:=4) (ch:=[]) (b:=b21) (off:=0) (len:=8) (sz:=1) (e:=134) (kd:=.i64) (j:=3) (hb:=(fun _=>⟨by decide,by decide⟩)) (k:=B4 kr rfl)) (k:=A9 5 kr (fun w h=>(h.pkT 1 [0,0,0,0])) (D0 0 3 rfl rfl (B4 kr rfl)) ?_))))))))
   refine C2 2 (k:=D0 4 3 rfl rfl (A7 kr (fun w h=>(h.pkT 1 [0,0,0,0])) (E2 (fuel:=2) [(6,0)] (fun w h=>(h.pkT 1 [0,0,0,0])) (k:=A9 7 (hL:=(fun w h=>(h.pkT 1 [0,0,0,0]))) (hy:=C7 (i:=7) (ch:=[]) (b:=b1) (off:=0) (len:=8) (sz:=1) (e:=134) (kd:=.i64) (j:=3) (hb:=(fun _=>⟨by decide,by decide⟩)) (k:=B4 kr rfl)) (k:=C2 8 (k:=M8 4 3 (.int .u32 (IntKind.wrap .u32 (s.d+sv.d))) rfl (A7 kr (fun w h=>(h.pkT 1 [0,0,0,0])) (D8 (E':=[⟨3,[],pt b1⟩,⟨6,[],pt b3⟩,⟨13,[],pt b21⟩,⟨179,[],.int .i64 3⟩]) [3,6,13,179] (k:=?_)))))))))
   refine D3 (A1 (G_p [0,0] [3,6,13,179] (k:=N_rd (J4 (A2 (G_p [0] [3,6,13,179,180] (k:=A1 (A2 ?_))))))))
   refine G6 kr (B6 (A1 (A2 (B8 (A2 (G_p [0,0] [3,6,13,21,179] (k:=A1 (F4 ([(b21,.cells #[.int .u32 sv.a,.int .u32 sv.b,.int .u32 sv.c,.int .u32 sv.d,.int .u32 sv.e,.int .u32 sv.f,.int .u32 sv.g,.int .u32 sv.h] 150 (0,0))]::[(b4,.cells (wArr (byt l) 64) 152 (0,0))]::[(b3,.cells #[.int .u32 0,.int .u32 0,.int .u32 0,.int .u32 0,.int .u32 0,.int .u32 0,.int .u32 0,.int .u32 0] 150 (0,0))]::[(b2,.cells kArr 152 (0,0))]::H) kr ?_))))))))
   refine E2 (fuel:=8) [(0,0)] (fun w h=>(h.pkT 1 [0,0,0,0])) (k:=A9 1 (hL:=(fun w h=>(h.pkT 1 [0,0,0,0]))) (hy:=C7 (i:=1) (ch:=[]) (b:=b1) (off:=0) (len:=8) (sz:=1) (e:=134) (kd:=.i64) (j:=4) (hb:=(fun _=>⟨by decide,by decide⟩)) (k:=B4 kr rfl)) (k:=E2 (fuel:=6) [(3,0)] (fun w h=>(h.pkT 1 [0,0,0,0])) (k:=A9 4 (hL:=(fun w h=>(h.pkT 1 [0,0,0,0]))) (hy:=C7 (i:=4) (ch:=[]) (b:=b21) (off:=0) (len:=8) (sz:=1) (e:=134) (kd:=.i64) (j:=4) (hb:=(fun _=>⟨by decide,by decide⟩)) (k:=B4 kr rfl)) (k:=A9 5 kr (fun w h=>(h.pkT 1 [0,0,0,0])) (D0 0 4 rfl rfl (B4 kr rfl)) (C2 2 (k:=D0 4 4 rfl rfl (A7 kr (fun w h=>(h.pkT 1 [0,0,0,0])) (E2 (fuel:=2) [(6,0)] (fun w h=>(h.pkT 1 [0,0,0,0])) (k:=?_)))))))))
   refine A9 7 (hL:=(fun w h=>(h.pkT 1 [0,0,0,0]))) (hy:=C7 (i:=7) (ch:=[]) (b:=b1) (off:=0) (len:=8) (sz:=1) (e:=134) (kd:=.i64) (j:=4) (hb:=(fun _=>⟨by decide,by decide⟩)) (k:=B4 kr rfl)) (k:=C2 8 (k:=GL_st (ch:=[]) (b:=b1) (off:=4) (v:=.int .u32 (IntKind.wrap .u32 (s.e+sv.e))) (j:=4) ([(b21,.cells #[.int .u32 sv.a,.int .u32 sv.b,.int .u32 sv.c,.int .u32 sv.d,.int .u32 sv.e,.int .u32 sv.f,.int .u32 sv.g,.int .u32 sv.h] 150 (0,0))]::[(b4,.cells (wArr (byt l) 64) 152 (0,0))]::[(b3,.cells #[.int .u32 0,.int .u32 0,.int .u32 0,.int .u32 0,.int .u32 0,.int .u32 0,.int .u32 0,.int .u32 0] 150 (0,0))]::[(b2,.cells kArr 152 (0,0))]::[(b1,.cells #[.int .u32 (IntKind.wrap .u32 (s.a+sv.a)),.int .u32 (IntKind.wrap .u32 (s.b+sv.b)),.int .u32 (IntKind.wrap .u32 (s.c+sv.c)),.int .u32 (IntKind.wrap .u32 (s.d+sv.d)),.int .u32 (IntKind.wrap .u32 (s.e+sv.e)),.int .u32 s.f,.int .u32 s.g,.int .u32 s.h] 150 (0,0))]::H) (hoff:=Nat.le_of_ble_eq_true rfl) (hfz:=(fun _ _=>P5)) (k:=A7 kr (fun w h=>(h.pk 1 [0,0,0,0])) (D8 (E':=[⟨3,[],pt b1⟩,⟨6,[],pt b3⟩,⟨13,[],pt b21⟩,⟨179,[],.int .i64 4⟩]) [3,6,13,179] (k:=D3 (A1 (G_p [0,0] [3,6,13,179] (k:=N_rd ?_))))))))
   refine J4 (A2 (G_p [0] [3,6,13,179,180] (k:=A1 (A2 (G6 kr (B6 (A1 (A2 ?_))))))))
   refine B8 (A2 (G_p [0,0] [3,6,13,21,179] (k:=A1 (F4 ([(b21,.cells #[.int .u32 sv.a,.int .u32 sv.b,.int .u32 sv.c,.int .u32 sv.d,.int .u32 sv.e,.int .u32 sv.f,.int .u32 sv.g,.int .u32 sv.h] 150 (0,0))]::[(b4,.cells (wArr (byt l) 64) 152 (0,0))]::[(b3,.cells #[.int .u32 0,.int .u32 0,.int .u32 0,.int .u32 0,.int .u32 0,.int .u32 0,.int .u32 0,.int .u32 0] 150 (0,0))]::[(b2,.cells kArr 152 (0,0))]::H) kr (E2 (fuel:=8) [(0,0)] (fun w h=>(h.pk 1 [0,0,0,0])) (k:=A9 1 (hL:=(fun w h=>(h.pk 1 [0,0,0,0]))) (hy:=C7 (i:=1) (ch:=[]) (b:=b1) (off:=0) (len:=8) (sz:=1) (e:=134) (kd:=.i64) (j:=5) (hb:=(fun _=>⟨by decide,by decide⟩)) (k:=B4 kr rfl)) (k:=E2 (fuel:=6) [(3,0)] (fun w h=>(h.pk 1 [0,0,0,0])) (k:=A9 4 (hL:=(fun w h=>(h.pk 1 [0,0,0,0]))) (hy:=C7 (i:=4) (ch:=[]) (b:=b21) (off:=0) (len:=8) (sz:=1) (e:=134) (kd:=.i64) (j:=5) (hb:=(fun _=>⟨by decide,by decide⟩)) (k:=B4 kr rfl)) (k:=?_)))))))))
   refine A9 5 kr (fun w h=>(h.pk 1 [0,0,0,0])) (D0 0 5 rfl rfl (B4 kr rfl)) (C2 2 (k:=D0 4 5 rfl rfl (A7 kr (fun w h=>(h.pk 1 [0,0,0,0])) (E2 (fuel:=2) [(6,0)] (fun w h=>(h.pk 1 [0,0,0,0])) (k:=A9 7 (hL:=(fun w h=>(h.pk 1 [0,0,0,0]))) (hy:=C7 (i:=7) (ch:=[]) (b:=b1) (off:=0) (len:=8) (sz:=1) (e:=134) (kd:=.i64) (j:=5) (hb:=(fun _=>⟨by decide,by decide⟩)) (k:=B4 kr rfl)) (k:=C2 8 (k:=M8 4 5 (.int .u32 (IntKind.wrap .u32 (s.f+sv.f))) rfl (A7 kr (fun w h=>(h.pkT 1 [0,0,0,0])) ?_))))))))
   refine D8 (E':=[⟨3,[],pt b1⟩,⟨6,[],pt b3⟩,⟨13,[],pt b21⟩,⟨179,[],.int .i64 5⟩]) [3,6,13,179] (k:=D3 (A1 (G_p [0,0] [3,6,13,179] (k:=N_rd (J4 (A2 (G_p [0] [3,6,13,179,180] (k:=A1 ?_))))))))
   refine A2 (G6 kr (B6 (A1 (A2 (B8 (A2 (G_p [0,0] [3,6,13,21,179] (k:=A1 ?_))))))))
   refine F4 ([(b21,.cells #[.int .u32 sv.a,.int .u32 sv.b,.int .u32 sv.c,.int .u32 sv.d,.int .u32 sv.e,.int .u32 sv.f,.int .u32 sv.g,.int .u32 sv.h] 150 (0,0))]::[(b4,.cells (wArr (byt l) 64) 152 (0,0))]::[(b3,.cells #[.int .u32 0,.int .u32 0,.int .u32 0,.int .u32 0,.int .u32 0,.int .u32 0,.int .u32 0,.int .u32 0] 150 (0,0))]::[(b2,.cells kArr 152 (0,0))]::H) kr (E2 (fuel:=8) [(0,0)] (fun w h=>(h.pkT 1 [0,0,0,0])) (k:=A9 1 (hL:=(fun w h=>(h.pkT 1 [0,0,0,0]))) (hy:=C7 (i:=1) (ch:=[]) (b:=b1) (off:=0) (len:=8) (sz:=1) (e:=134) (kd:=.i64) (j:=6) (hb:=(fun _=>⟨by decide,by decide⟩)) (k:=B4 kr rfl)) (k:=E2 (fuel:=6) [(3,0)] (fun w h=>(h.pkT 1 [0,0,0,0])) (k:=A9 4 (hL:=(fun w h=>(h.pkT 1 [0,0,0,0]))) (hy:=C7 (i:=4) (ch:=[]) (b:=b21) (off:=0) (len:=8) (sz:=1) (e:=134) (kd:=.i64) (j:=6) (hb:=(fun _=>⟨by decide,by decide⟩)) (k:=B4 kr rfl)) (k:=A9 5 kr (fun w h=>(h.pkT 1 [0,0,0,0])) (D0 0 6 rfl rfl (B4 kr rfl)) (C2 2 (k:=D0 4 6 rfl rfl (A7 kr (fun w h=>(h.pkT 1 [0,0,0,0])) ?_))))))))
   refine E2 (fuel:=2) [(6,0)] (fun w h=>(h.pkT 1 [0,0,0,0])) (k:=A9 7 (hL:=(fun w h=>(h.pkT 1 [0,0,0,0]))) (hy:=C7 (i:=7) (ch:=[]) (b:=b1) (off:=0) (len:=8) (sz:=1) (e:=134) (kd:=.i64) (j:=6) (hb:=(fun _=>⟨by decide,by decide⟩)) (k:=B4 kr rfl)) (k:=C2 8 (k:=M8 4 6 (.int .u32 (IntKind.wrap .u32 (s.g+sv.g))) rfl (A7 kr (fun w h=>(h.pkT 1 [0,0,0,0])) (D8 (E':=[⟨3,[],pt b1⟩,⟨6,[],pt b3⟩,⟨13,[],pt b21⟩,⟨179,[],.int .i64 6⟩]) [3,6,13,179] (k:=D3 (A1 (G_p [0,0] [3,6,13,179] (k:=?_)))))))))
   refine N_rd (J4 (A2 (G_p [0] [3,6,13,179,180] (k:=A1 (A2 (G6 kr (B6 (A1 ?_))))))))
   refine A2 (B8 (A2 (G_p [0,0] [3,6,13,21,179] (k:=A1 (F4 ([(b21,.cells #[.int .u32 sv.a,.int .u32 sv.b,.int .u32 sv.c,.int .u32 sv.d,.int .u32 sv.e,.int .u32 sv.f,.int .u32 sv.g,.int .u32 sv.h] 150 (0,0))]::[(b4,.cells (wArr (byt l) 64) 152 (0,0))]::[(b3,.cells #[.int .u32 0,.int .u32 0,.int .u32 0,.int .u32 0,.int .u32 0,.int .u32 0,.int .u32 0,.int .u32 0] 150 (0,0))]::[(b2,.cells kArr 152 (0,0))]::H) kr (E2 (fuel:=8) [(0,0)] (fun w h=>(h.pkT 1 [0,0,0,0])) (k:=A9 1 (hL:=(fun w h=>(h.pkT 1 [0,0,0,0]))) (hy:=C7 (i:=1) (ch:=[]) (b:=b1) (off:=0) (len:=8) (sz:=1) (e:=134) (kd:=.i64) (j:=7) (hb:=(fun _=>⟨by decide,by decide⟩)) (k:=B4 kr rfl)) (k:=E2 (fuel:=6) [(3,0)] (fun w h=>(h.pkT 1 [0,0,0,0])) (k:=?_)))))))))
   refine A9 4 (hL:=(fun w h=>(h.pkT 1 [0,0,0,0]))) (hy:=C7 (i:=4) (ch:=[]) (b:=b21) (off:=0) (len:=8) (sz:=1) (e:=134) (kd:=.i64) (j:=7) (hb:=(fun _=>⟨by decide,by decide⟩)) (k:=B4 kr rfl)) (k:=A9 5 kr (fun w h=>(h.pkT 1 [0,0,0,0])) (D0 0 7 rfl rfl (B4 kr rfl)) (C2 2 (k:=D0 4 7 rfl rfl (A7 kr (fun w h=>(h.pkT 1 [0,0,0,0])) (E2 (fuel:=2) [(6,0)] (fun w h=>(h.pkT 1 [0,0,0,0])) (k:=A9 7 (hL:=(fun w h=>(h.pkT 1 [0,0,0,0]))) (hy:=C7 (i:=7) (ch:=[]) (b:=b1) (off:=0) (len:=8) (sz:=1) (e:=134) (kd:=.i64) (j:=7) (hb:=(fun _=>⟨by decide,by decide⟩)) (k:=B4 kr rfl)) (k:=C2 8 (k:=M8 4 7 (.int .u32 (IntKind.wrap .u32 (s.h+sv.h))) rfl ?_))))))))
   refine A7 kr (fun w h=>(h.pkT 1 [0,0,0,0])) (D8 (E':=[⟨3,[],pt b1⟩,⟨6,[],pt b3⟩,⟨13,[],pt b21⟩,⟨179,[],.int .i64 7⟩]) [3,6,13,179] (k:=D3 (A1 (G_p [0,0] [3,6,13,179] (k:=N_rd (J4 (A2 (G_p [0] [3,6,13,179,180] (k:=?_)))))))))
   refine A1 (A2 (D9 kr (H0 (A6 (A6 (C3 (A1 (A2 ?_))))))))
   refine A3 (GL_laq 4 0 8 rfl (M8 2 0 (.agg #[.int .u32 (IntKind.wrap .u32 (s.a+sv.a)),.int .u32 (IntKind.wrap .u32 (s.b+sv.b)),.int .u32 (IntKind.wrap .u32 (s.c+sv.c)),.int .u32 (IntKind.wrap .u32 (s.d+sv.d)),.int .u32 (IntKind.wrap .u32 (s.e+sv.e)),.int .u32 (IntKind.wrap .u32 (s.f+sv.f)),.int .u32 (IntKind.wrap .u32 (s.g+sv.g)),.int .u32 (IntKind.wrap .u32 (s.h+sv.h))]) rfl (D5 (E':=[⟨6,[],pt b3⟩]) [] [6] (k:=A1 (C8 (N_retC [.cell 6 150] [.agg #[.int .u32 (IntKind.wrap .u32 (s.a+sv.a)),.int .u32 (IntKind.wrap .u32 (s.b+sv.b)),.int .u32 (IntKind.wrap .u32 (s.c+sv.c)),.int .u32 (IntKind.wrap .u32 (s.d+sv.d)),.int .u32 (IntKind.wrap .u32 (s.e+sv.e)),.int .u32 (IntKind.wrap .u32 (s.f+sv.f)),.int .u32 (IntKind.wrap .u32 (s.g+sv.g)),.int .u32 (IntKind.wrap .u32 (s.h+sv.h))]] rfl (.cons (.aq 2 0 rfl) (.nil)) rfl ⟨_,?_,fun w h=>(h.pk 5 [])⟩))))))
   have hcm:P9 (byt l) s=addS s sv:=by (rw [hsv,hi3]; rfl)
   exact ⟨by rw [hcm]; kernel_rfl,rfl⟩
end Go.Proofs.YtdolpaagdpeagaaGreatDoor
namespace Go.Proofs.YtdolpaagdpeagaaGreatDoor
open Go.Sw Go.Sha
theorem grow_ (n:Nat) (hn:n≤1099511627776) (W0:World) (H:List Grp):Tri Tryz.prog 135 #[.slice none 0 0,.int .i64 ((n:Nat):Int)] W0 H (fun v H'=>∃ g,Go.Sw.Own 5 1 v g 0 []∧H'=g::H):=by
 refine D6 27 Tryz.func135 ?_
 refine A2 (G_p [0] [0,1] (k:=A1 (A2 (A2 (G_p [0,0] [0,1,6] (k:=A1 (D2 (b:=decide (((n:Nat):Int)<0)) kr (fun hc1=>?_) (fun hc1=>?_))))))))
 ·
  have h9:=of_decide_eq_true hc1; exact absurd h9 (by omega)
 ·
  skip
  refine B6 (A1 (A2 (A2 (A3 (A5 (j:=7) [0,0,0,0,0,0,0] (k:=F0 14 (((n:Nat):Int) - 0) (by omega) (by omega) kr (B5 [0] [0,1] (k:=A1 ?_))))))))
  refine A2 (G_p [0,0] [0,1,16] (k:=A1 (D2 (b:=decide ((((n:Nat):Int) - 0) > 0)) kr (fun hc3=>?_) (fun hc3=>?_))))
  ·
   have h0:=of_decide_eq_true hc3
   refine A3 (A5 (j:=3) [0,0,0] (k:=O2 (ch:=[]) (a:=none) (len:=0) (cap:=0) (e:=5) (sz:=1) (vl:=none) (vh:=(some (.int .i64 0))) (l:=0) (h:=0) (hb:=(by omega)) (k:=GL_env (E':=[⟨20,[],.slice none 0 0⟩,⟨19,[],.int .i64 0⟩,⟨18,[],.slice none 0 0⟩,⟨17,[],.slice none 0 0⟩,⟨0,[],.slice none 0 0⟩,⟨1,[],.int .i64 (((n:Nat):Int) - 0)⟩,⟨16,[],.bool (decide ((((n:Nat):Int) - 0) > 0))⟩]) (by have hz:([⟨20,[],.slice (I9 none 0 0 1) (0 - 0) (0 - 0)⟩,⟨19,[],.int .i64 0⟩,⟨18,[],.slice none 0 0⟩,⟨17,[],.slice none 0 0⟩,⟨0,[],.slice none 0 0⟩,⟨1,[],.int .i64 (((n:Nat):Int) - 0)⟩,⟨16,[],.bool (decide ((((n:Nat):Int) - 0) > 0))⟩]:List Sl)=[⟨20,[],.slice none 0 0⟩,⟨19,[],.int .i64 0⟩,⟨18,[],.slice none 0 0⟩,⟨17,[],.slice none 0 0⟩,⟨0,[],.slice none 0 0⟩,⟨1,[],.int .i64 (((n:Nat):Int) - 0)⟩,⟨16,[],.bool (decide ((((n:Nat):Int) - 0) > 0))⟩]:=kr; exact Eq.trans kr hz) (A5 (j:=5) [0] (k:=GL_appendZ (i:=5) (ch:=[]) (t:=31) (tn:=3) (e:=5) (inf:=Tryz.t5) (n:=n) (kn:=.i64) (kd:=.i64) rfl rfl rfl rfl kr kr kr kr rfl rfl (show 0<1 from Nat.one_pos) kr kr kr (by omega) (by omega) (show n * 1≤281474976710656 by omega) (fun b4 cap5 c6 hcap7 hlen8=>?_))))))
   refine A5 (j:=8) [0,0] (k:=O2 (ch:=[]) (a:=(some ⟨b4,0,none⟩)) (len:=n) (cap:=cap5) (e:=5) (sz:=1) (vl:=none) (vh:=(some (.int .i64 0))) (l:=0) (h:=0) (hb:=(by omega)) (k:=GL_env (E':=[⟨25,[],.slice (some ⟨b4,0,none⟩) 0 cap5⟩,⟨24,[],.int .i64 0⟩,⟨23,[],.slice none 0 0⟩,⟨22,[],.slice (some ⟨b4,0,none⟩) n cap5⟩,⟨21,[],.int .i64 (((n:Nat):Int) - 0)⟩,⟨20,[],.slice none 0 0⟩,⟨19,[],.int .i64 0⟩,⟨18,[],.slice none 0 0⟩,⟨17,[],.slice none 0 0⟩,⟨0,[],.slice none 0 0⟩,⟨1,[],.int .i64 (((n:Nat):Int) - 0)⟩,⟨16,[],.bool (decide ((((n:Nat):Int) - 0) > 0))⟩]) (by have hz:([⟨25,[],.slice (I9 (some ⟨b4,0,none⟩) cap5 0 1) (0 - 0) (cap5 - 0)⟩,⟨24,[],.int .i64 0⟩,⟨23,[],.slice none 0 0⟩,⟨22,[],.slice (some ⟨b4,0,none⟩) n cap5⟩,⟨21,[],.int .i64 (((n:Nat):Int) - 0)⟩,⟨20,[],.slice none 0 0⟩,⟨19,[],.int .i64 0⟩,⟨18,[],.slice none 0 0⟩,⟨17,[],.slice none 0 0⟩,⟨0,[],.slice none 0 0⟩,⟨1,[],.int .i64 (((n:Nat):Int) - 0)⟩,⟨16,[],.bool (decide ((((n:Nat):Int) - 0) > 0))⟩]:List Sl)=[⟨25,[],.slice (some ⟨b4,0,none⟩) 0 cap5⟩,⟨24,[],.int .i64 0⟩,⟨23,[],.slice none 0 0⟩,⟨22,[],.slice (some ⟨b4,0,none⟩) n cap5⟩,⟨21,[],.int .i64 (((n:Nat):Int) - 0)⟩,⟨20,[],.slice none 0 0⟩,⟨19,[],.int .i64 0⟩,⟨18,[],.slice none 0 0⟩,⟨17,[],.slice none 0 0⟩,⟨0,[],.slice none 0 0⟩,⟨1,[],.int .i64 (((n:Nat):Int) - 0)⟩,⟨16,[],.bool (decide ((((n:Nat):Int) - 0) > 0))⟩]:=(by simp only [cutA_zero,Nat.sub_zero,Nat.sub_self]); exact Eq.trans kr hz) (B5 [0] [0] (k:=A1 (A2 (B9 (E':=[⟨4,[],.slice (some ⟨b4,0,none⟩) 0 cap5⟩]) [0,0] [4] (k:=A1 (C8 ?_))))))))
   refine C5 [.tmp 4] [.slice (some ⟨b4,0,none⟩) 0 cap5] (k:=?_)
   exact ⟨_,own_cut0 hlen8,rfl⟩
  ·
   skip
   refine B6 (A1 (A2 (B9 (E':=[⟨4,[],.slice none 0 0⟩]) [0,0] [4] (k:=A1 (C8 (G8 (H':=[]::H) (fun w h=>h.flat (List.Perm.refl _)) (C5 [.tmp 4] [.slice none 0 0] (k:=?_))))))))
   exact ⟨[],Go.Sw.Own.nil,rfl⟩
theorem concat1 (pb:Nat) (xa:Option Addr) (n xc:Nat) (S:Nat→Obj→Prop) (l:List UInt8) (hl:l.length=n) (hrd:Rd S xa (u8s l)) (h0:xa=none→n=0) (hn:n≤1099511627776) (W0:World) (H:List Grp) (hS:∀ y o,S y o→At W0 H y o):Tri Tryz.prog 115 #[.slice (some ⟨pb,0,none⟩) 1 1] W0 ([(pb,.cells #[.slice xa n xc] 31 (0,0))]::H) (fun v H'=>∃ g,Go.Sw.Own 5 1 v g n (u8s l)∧H'=g::([(pb,.cells #[.slice xa n xc] 31 (0,0))]::H)):=by
 refine D6 36 Tryz.func115 ?_
 refine A2 (G_p [0] [0] (k:=A1 (A2 (G_p [0] [0,3] (k:=A1 (A2 (A2 (G_p [0,0,0] [0,3,9,10,11] (k:=?_)))))))))
 refine A1 (B8 (G_rounds 2 (J4 (A2 (G_p [0] [0,3,9,10,11,12] (k:=A1 (A2 (G6 kr ?_))))))))
 refine B6 (A1 (A2 (B8 (A2 (A3 (L2 (a:=(some ⟨pb,0,none⟩)) (S:=(inG [(pb,.cells #[.slice xa n xc] 31 (0,0))])) (cs:=[.slice xa n xc]) 1 0 1 Rd.lit (by exact ⟨by omega,by omega,by first | exact List.cons_ne_nil _ _ | (intro h; simp [Y5] at h; simp [h] at *; omega)⟩) (O3 (a:=(some ⟨pb,0,none⟩)) (S:=(inG [(pb,.cells #[.slice xa n xc] 31 (0,0))])) (cs:=[.slice xa n xc]) (0 * 1) (.slice xa n xc) Rd.lit (H6 0 rfl) (fun _=>rfl) (B5 [0] [0,3,5,9,10,11] (k:=?_)))))))))
 refine A1 (A2 (A3 (A5 (j:=4) [0,0,0,0] (k:=F0 18 (0+((n:Nat):Int)) (by omega) (by omega) kr (D5 (E':=[⟨0,[],.slice (some ⟨pb,0,none⟩) 1 1⟩,⟨3,[],.int .i64 (0+((n:Nat):Int))⟩,⟨9,[],.slice (some ⟨pb,0,none⟩) 1 1⟩,⟨10,[],.int .i64 1⟩,⟨11,[],.int .i64 0⟩]) [0] [0,3,9,10,11] (k:=N_env (E':=[⟨0,[],.slice (some ⟨pb,0,none⟩) 1 1⟩,⟨3,[],.int .i64 ((n:Nat):Int)⟩,⟨9,[],.slice (some ⟨pb,0,none⟩) 1 1⟩,⟨10,[],.int .i64 1⟩,⟨11,[],.int .i64 0⟩]) (by rw [Int.zero_add]) (A1 (A2 ?_))))))))
 refine G_p [0,0] [0,3,9,10,11,20] (k:=A1 (D2 (b:=decide (((n:Nat):Int)<0)) kr (fun hc2=>?_) (fun hc2=>?_)))
 ·
  have h9:=of_decide_eq_true hc2; exact absurd h9 (by omega)
 ·
  skip
  refine B6 (D3 (A1 (G_p [0,0] [0,3,9,10,11] (k:=N_rd (J4 (A2 (G_p [0] [0,3,9,10,11,12] (k:=A1 ?_))))))))
  refine A2 (D9 kr (H0 (A6 (A6 (C3 (A1 (A2 (A3 ?_))))))))
  refine A5 (j:=1) [0] (k:=E4 Tryz.func135 (grow_ n hn _ _) ?_)
  rintro v5 H' ⟨g3,hO4,rfl⟩
  refine B5 [0] [0,6] (k:=A1 (A2 (A2 (G_p [0,0,0] [6,25,26,27] (k:=A1 (B8 (G_rounds 2 (J4 ?_))))))))
  refine A2 (B9 (E':=[⟨6,[],v5⟩,⟨25,[],.slice (some ⟨pb,0,none⟩) 1 1⟩,⟨26,[],.int .i64 1⟩,⟨27,[],.int .i64 0⟩,⟨28,[],.bool true⟩]) [0] [6,25,26,27,28] (k:=A1 (A2 (G6 kr (B6 (A1 (A2 (B8 ?_))))))))
  refine A2 (A3 (L2 (a:=(some ⟨pb,0,none⟩)) (S:=(inG [(pb,.cells #[.slice xa n xc] 31 (0,0))])) (cs:=[.slice xa n xc]) 1 0 1 Rd.lit (by exact ⟨by omega,by omega,by first | exact List.cons_ne_nil _ _ | (intro h; simp [Y5] at h; simp [h] at *; omega)⟩) (O3 (a:=(some ⟨pb,0,none⟩)) (S:=(inG [(pb,.cells #[.slice xa n xc] 31 (0,0))])) (cs:=[.slice xa n xc]) (0 * 1) (.slice xa n xc) Rd.lit (H6 1 rfl) (fun _=>rfl) (B5 [0] [6,8,25,26,27] (k:=A1 (A3 (A5 (j:=2) [0,0] (k:=M0 (i:=2) (ch:=[]) (t:=31) (tx:=31) (e:=5) (inf:=Tryz.t5) (s:=v5) (x:=.slice xa n xc) (n:=0) (m:=n) (j:=0) (cs:=[]) (news:=(u8s l)) (g:=g3) (S:=S) rfl rfl rfl rfl kr kr kr rfl rfl (.inl ⟨5,kr⟩) (fun ⟨_,h⟩=>by cases h) (fun _=>⟨5,kr⟩) kr kr kr rfl hO4 (SrcOf.slice _ _ _ _ hrd h0) (fun y o h=>(At.cons (At.cons (hS y o h)))) (by show (u8s l).length=n * 1; simp [u8s,hl]) u8_one (by omega) (by show (0+n) * 1≤140737488355328; omega) (fun v6 g7 hO8=>?_)))))))))
  replace hO8:=own_from0 hO8
  refine B5 [0] [6,25,26,27] (k:=D3 (A1 (G_p [0,0] [6,25,26,27] (k:=N_rd (J4 (A2 (G_p [0] [6,25,26,27,28] (k:=A1 ?_))))))))
  refine A2 (D9 kr (H0 (A6 (A6 (C3 (A1 (A2 (B9 (E':=[⟨2,[],v6⟩]) [0,0] [2] (k:=?_)))))))))
  refine A1 (C8 (C5 [.tmp 2] [v6] (k:=?_)))
  exact ⟨_,hO8,rfl⟩
theorem chunk_ (a:Option Addr) (n c:Nat) (W0:World) (H:List Grp):Tri Tryz.prog 119 #[.slice a n c,.int .i64 64] W0 H (fun v H'=>∃ kb nb,v=.func (.func 136) #[] #[pt kb,pt nb]∧H'=[(nb,.cells #[.int .i64 64] 3 (0,0))]::[(kb,.cells #[.slice a n c] 31 (0,0))]::H):=by
 refine D6 9 Tryz.func119 ?_
 refine A2 (A3 (O9 (.slice a n c) (fun b1=>O9 (.int .i64 64) (fun b2=>?_))))
 refine D5 (E':=[⟨2,[],pt b1⟩,⟨3,[],pt b2⟩]) [0] [2,3] (k:=A1 (A2 (A2 (A3 (D0 0 0 rfl rfl (B5 [0] [2,3,6] (k:=A1 (D9 kr ?_))))))))
 refine B6 (A1 (A2 (G_p [0,0] [4] (k:=A1 (C8 (C5 [.tmp 4] [.func (.func 136) #[] #[pt b1,pt b2]] (k:=?_)))))))
 exact ⟨_,_,rfl,rfl⟩
end Go.Proofs.YtdolpaagdpeagaaGreatDoor
namespace Go.Proofs.YtdolpaagdpeagaaGreatDoor
open Go.Sw Go.Sha
theorem sum_ (pb:Nat) (xa:Option Addr) (xc:Nat) (S:Nat→Obj→Prop) (l:List UInt8) (hrd:Rd S xa (u8s l)) (h0:xa=none→l.length=0) (hn:l.length≤1099511627776) (W0:World) (H:List Grp) (hS:∀ y o,S y o→At W0 H y o):Tri Tryz.prog 88 #[.slice (some ⟨pb,0,none⟩) 1 1] W0 ([(pb,.cells #[.slice xa l.length xc] 31 (0,0))]::H) (fun v H'=>v=.agg (u8s (sumB l)).toArray∧H'=([(pb,.cells #[.slice xa l.length xc] 31 (0,0))]::H)):=by
 refine Tri_ofM (args:=[.slice (some ⟨pb,0,none⟩) 1 1]) (n:=73) Tryz.func88 rfl rfl (Nat.le_of_ble_eq_true rfl) ?_
 refine A2 (A3 (GL_alloc (ch:=[]) (z:=.agg z32) (k:=(fun b1=>B5 [] [0,2] (k:=A1 (A2 (A3 (A5 (j:=1) [0] (k:=Z6 0 [1] ?_)))))))))
 refine E4 Tryz.func115 (concat1 pb xa l.length xc S l rfl hrd h0 hn _ _ (fun y o h=>(At.cons (hS y o h)))) ?_
 rintro v4 H' ⟨g2,hO3,rfl⟩
 obtain ⟨a5,cap6,rfl,hcap7,hrd8⟩:=hO3.shape
 refine B5 [0] [2,3] (k:=A1 (A2 (B9 (E':=[⟨2,[],pt b1⟩,⟨3,[],.slice a5 l.length cap6⟩,⟨4,[],.int .u64 (IntKind.wrap .u64 ((IntKind.wrap .u64 ((l.length:Nat):Int)) * 8))⟩]) [0,0,0,0,0] [2,3,4] (k:=N_env (E':=[⟨2,[],pt b1⟩,⟨3,[],.slice a5 l.length cap6⟩,⟨4,[],.int .u64 ((8 * l.length:Nat):Int)⟩]) (by rw [len8 hn]) (A1 (A2 (A3 (A5 (j:=1) [0] (k:=?_)))))))))
 refine N2 5 1 [.int .u8 128] (fun b9=>GL_ap (inf:=Tryz.t5) 1 0 1 rfl rfl hO3 (by omega) (by show (l.length+1) * 1≤140737488355328; omega) (fun v10 g11 hO12=>?_))
 obtain ⟨a13,cap14,rfl,hcap15,hrd16⟩:=hO12.shape
 refine B5 [0] [2,3,4] (k:=A1 (A2 (B8 (G_pkT 1 [1,2,1] (g11::[(b1,.cells z32 121 (0,0))]::[(pb,.cells #[.slice xa l.length xc] 31 (0,0))]::H) (I6 (EI:=(fun ξ:Nat × Option Addr × Nat × Grp=>[⟨2,[],pt b1⟩,⟨3,[],.slice ξ.2.1 (l.length+1+ξ.1) ξ.2.2.1⟩,⟨4,[],.int .u64 ((8 * l.length:Nat):Int)⟩])) (HI:=(fun ξ:Nat × Option Addr × Nat × Grp=>(ξ.2.2.2::[(b1,.cells z32 121 (0,0))]::[(pb,.cells #[.slice xa l.length xc] 31 (0,0))]::H))) (Φ:=(fun ξ:Nat × Option Addr × Nat × Grp=>(ξ.1≤padZ l.length)∧(Go.Sw.Own 5 1 (.slice ξ.2.1 (l.length+1+ξ.1) ξ.2.2.1) ξ.2.2.2 (l.length+1+ξ.1) (u8s (padK l ξ.1))))) (μ:=(fun ξ:Nat × Option Addr × Nat × Grp=>padZ l.length - ξ.1)) (s0:=(0,a13,cap14,g11)) [2,3,4] kr kr ⟨(by omega),(X3 hO12 (padK_zero l))⟩ ?_)))))
 rintro ⟨k,a3,c3,g3⟩ ⟨hk,hO3⟩
 have hpz:=(pad_mod l.length).2
 refine A2 (A2 (A3 (A5 (j:=3) [0,0,0] (k:=?_))))
 have hw17:Int.tmod (((l.length+1+k):Nat):Int) 64=(((l.length+1+k):Nat):Int) % 64:=r64 (by omega)
 refine GL_w 22 hw17 kr (B5 [0] [2,3,4,23] (k:=A1 (D2 (b:=((((l.length+1+k):Nat):Int) % 64) != 56) kr (fun hc18=>?_) (fun hc18=>?_))))
 ·
  have hlt:=(pad_more hk).1 hc18
  refine B6 (A1 (B8 (A3 (A5 (j:=1) [0] (k:=N2 5 1 [.int .u8 0] (fun b19=>GL_ap (inf:=Tryz.t5) 1 0 1 rfl rfl hO3 (by omega) (by show ((l.length+1+k)+1) * 1≤140737488355328; omega) (fun v20 g21 hO22=>?_)))))))
  obtain ⟨a23,cap24,rfl,hcap25,hrd26⟩:=hO22.shape
  refine B5 [0] [2,3,4] (k:=D3 (N_pk 1 [1,1,1] (F6 (s':=(k+1,a23,cap24,g21)) [2,3,4] kr kr ⟨(by omega),(X3 hO22 (padK_succ l k))⟩ (by omega))))
 ·
  have hke:k=padZ l.length:=(pad_more hk).2 hc18
  refine H0 (A6 (A6 (C3 (A1 (A2 (A3 (A5 (j:=2) [0,0] (k:=E4 Tryz.func116 (eight_ ((8 * l.length:Nat):Int) (by omega) (by omega) _ _) ?_))))))))
  rintro v29 H' ⟨g27,hO28,rfl⟩
  obtain ⟨a30,cap31,rfl,hcap32,hrd33⟩:=hO28.shape
  refine M0 (i:=3) (ch:=[]) (t:=31) (tx:=31) (e:=5) (inf:=Tryz.t5) (s:=.slice a3 (l.length+1+k) c3) (x:=.slice a30 8 cap31) (n:=(l.length+1+k)) (m:=8) (j:=1) (cs:=(u8s (padK l k))) (news:=(u8s (eightB ((8 * l.length:Nat):Int)))) (g:=g3) (S:=(inG g27)) rfl rfl rfl rfl kr kr kr rfl rfl (.inl ⟨5,kr⟩) (fun ⟨_,h⟩=>by cases h) (fun _=>⟨5,kr⟩) kr kr kr rfl hO3 (SrcOf.slice _ _ _ _ hrd33 (own_none hO28)) (H6 0 rfl) kr (by first | exact u8_one | (intro u hu; simp only [List.mem_cons,List.not_mem_nil,or_false] at hu; rcases hu with rfl; rfl)) (by omega) (by show ((l.length+1+k)+8) * 1≤140737488355328; omega) (fun v34 g35 hO36=>?_)
  obtain ⟨a37,cap38,rfl,hcap39,hrd40⟩:=hO36.shape
  refine B5 [0] [2,3] (k:=A1 (A2 (A3 (E4 Tryz.func117 (beginnings_ _ _) ?_))))
  rintro v H' ⟨rfl,rfl⟩
  refine E4 Tryz.func118 (rounds_ _ _) ?_
  rintro v H' ⟨rfl,rfl⟩
  refine O0 (.agg #[.int .u32 0,.int .u32 0,.int .u32 0,.int .u32 0,.int .u32 0,.int .u32 0,.int .u32 0,.int .u32 0]) (fun b41=>GL_alloc (ch:=[]) (z:=.agg kz64) (k:=(fun b42=>M8 1 0 (.agg #[.int .u32 1779033703,.int .u32 3144134277,.int .u32 1013904242,.int .u32 2773480762,.int .u32 1359893119,.int .u32 2600822924,.int .u32 528734635,.int .u32 1541459225]) rfl (J8 (ch:=[]) (b:=b42) (off:=0) (v:=.agg kArr) (c:=kz64) (c':=kArr) (j:=0) (m:=0) (H':=([(b42,.cells kArr 152 (0,0))]::[(b41,.cells #[.int .u32 1779033703,.int .u32 3144134277,.int .u32 1013904242,.int .u32 2773480762,.int .u32 1359893119,.int .u32 2600822924,.int .u32 528734635,.int .u32 1541459225] 150 (0,0))]::g27::g35::[(b1,.cells z32 121 (0,0))]::[(pb,.cells #[.slice xa l.length xc] 31 (0,0))]::H)) (hoff:=Nat.le_of_ble_eq_true rfl) (hfz:=(fun _ _=>P5)) (k:=B5 [] [2,3,5,6] (k:=A1 (A2 (A2 (A3 ?_)))))))))
  refine A5 (j:=1) [0] (k:=E4 Tryz.func119 (chunk_ a37 ((l.length+1+k)+8) cap38 _ _) ?_)
  rintro v H' ⟨kb43,nb44,rfl,rfl⟩
  refine B5 [] [2,5,6,34] (k:=A1 (B8 (G_env (E':=[⟨2,[],pt b1⟩,⟨5,[],pt b41⟩,⟨6,[],pt b42⟩,⟨34,[],.func (.func 136) #[] #[pt kb43,pt nb44]⟩]) kr ?_)))
  obtain ⟨b6,hb6⟩:=own_some hO36 (by omega)
  obtain ⟨hm6,hP⟩:=padB_m l hke
  have hO6:=X3 hO36 (padB_cs l hke)
  rw [hb6] at hO6
  have hc6:l.length+1+k+8≤cap38:=ownC_cap hO36
  refine G_heap (H':=([(nb44,.cells #[.int .i64 64] 3 (0,0))]::[(kb43,.cells #[.slice (some ⟨b6,0,none⟩) (64 * ((I8 l).length / 64)) cap38] 31 (0,0))]::[(b42,.cells kArr 152 (0,0))]::[(b41,.cells #[.int .u32 1779033703,.int .u32 3144134277,.int .u32 1013904242,.int .u32 2773480762,.int .u32 1359893119,.int .u32 2600822924,.int .u32 528734635,.int .u32 1541459225] 150 (0,0))]::g27::g35::[(b1,.cells z32 121 (0,0))]::[(pb,.cells #[.slice xa l.length xc] 31 (0,0))]::H)) (fun w h=>by rw [hb6,hm6] at h; exact h) (G_rangeFunc (α:=Fin ((I8 l).length / 64)) (gf:=136) (lb:=#[pt kb43,pt nb44]) (encs:=fun x:Fin ((I8 l).length / 64)=>#[.slice (some ⟨b6,0+64 * x.1,none⟩) 64 64]) (S:=fun xs=>xs=List.finRange ((I8 l).length / 64)) (Sp:=fun _=>True) (N0:=((I8 l).length / 64)) rfl kr (enters_of Tryz.func136 kr rfl) [[(kb43,.cells #[.slice (some ⟨b6,0,none⟩) (64 * ((I8 l).length / 64)) cap38] 31 (0,0))],[(nb44,.cells #[.int .i64 64] 3 (0,0))]] (fun p hp=>by obtain ⟨g,hg,hp1⟩:=List.mem_flatten.1 hp; simp only [List.mem_cons,List.not_mem_nil,or_false] at hg; rcases hg with rfl | rfl; exact List.mem_flatten.2 ⟨_,List.mem_of_getElem? (i:=1) rfl,hp1⟩; exact List.mem_flatten.2 ⟨_,List.mem_of_getElem? (i:=0) rfl,hp1⟩) (fun w hs=>chunk_stops kb43 nb44 b6 0 cap38 ((I8 l).length / 64) (by omega) (by omega) w (hs.has (kb43,_) (List.mem_flatten.2 ⟨_,List.mem_of_getElem? (i:=1) rfl,List.mem_singleton.2 rfl⟩)) (hs.has (nb44,_) (List.mem_flatten.2 ⟨_,List.mem_of_getElem? (i:=0) rfl,List.mem_singleton.2 rfl⟩))) (fun pre=>([(nb44,.cells #[.int .i64 64] 3 (0,0))]::[(kb43,.cells #[.slice (some ⟨b6,0,none⟩) (64 * ((I8 l).length / 64)) cap38] 31 (0,0))]::[(b42,.cells kArr 152 (0,0))]::[(b41,.cells #[.int .u32 ((N6 (I8 l) pre).a),.int .u32 ((N6 (I8 l) pre).b),.int .u32 ((N6 (I8 l) pre).c),.int .u32 ((N6 (I8 l) pre).d),.int .u32 ((N6 (I8 l) pre).e),.int .u32 ((N6 (I8 l) pre).f),.int .u32 ((N6 (I8 l) pre).g),.int .u32 ((N6 (I8 l) pre).h)] 150 (0,0))]::g27::g35::[(b1,.cells z32 121 (0,0))]::[(pb,.cells #[.slice xa l.length xc] 31 (0,0))]::H)) (fun _ _ _=>False) kr (fun _ p hp=>by obtain ⟨g,hg,hp1⟩:=List.mem_flatten.1 hp; simp only [List.mem_cons,List.not_mem_nil,or_false] at hg; rcases hg with rfl | rfl; exact List.mem_flatten.2 ⟨_,List.mem_of_getElem? (i:=1) rfl,hp1⟩; exact List.mem_flatten.2 ⟨_,List.mem_of_getElem? (i:=0) rfl,hp1⟩) (fun xs=>calm_set (j:=3) (g':=[(b41,.cells #[.int .u32 ((N6 (I8 l) xs).a),.int .u32 ((N6 (I8 l) xs).b),.int .u32 ((N6 (I8 l) xs).c),.int .u32 ((N6 (I8 l) xs).d),.int .u32 ((N6 (I8 l) xs).e),.int .u32 ((N6 (I8 l) xs).f),.int .u32 ((N6 (I8 l) xs).g),.int .u32 ((N6 (I8 l) xs).h)] 150 (0,0))]) (fun p hp=>by rw [List.mem_singleton.1 hp]; rfl)) (fun _ _ _ h=>h.elim) (fun _=>rfl) (fun t ht=>by have h9:=List.mem_singleton.1 (Array.mem_toList_iff.2 ht); subst h9; exact Nat.le_of_ble_eq_true rfl) (fun x=>[⟨7,[],.slice (some ⟨b6,0+64 * x.1,none⟩) 64 64⟩,⟨2,[],pt b1⟩,⟨5,[],pt b41⟩,⟨6,[],pt b42⟩]) ?_ ?_ ?_ (fun _ _ _ _ _ h=>h.elim))
  ·
   exact fun r L D pre x=>GR_region rfl (fun _ _ h=>by cases h.1) (D5 (E':=[⟨7,[],.slice (some ⟨b6,0+64 * x.1,none⟩) 64 64⟩,⟨2,[],pt b1⟩,⟨5,[],pt b41⟩,⟨6,[],pt b42⟩]) [0] [7,2,5,6] rfl (by kernel_rfl) (fun a w ha hs=>⟨rfl,ha,hs⟩))
  ·
   intro r L D pre x hlen
   refine GR_block (GR_region rfl (fun _ _ h=>h) (GL_laq 5 0 8 rfl (A5 (j:=2) [0] (k:=GL_loadA (i:=2) (ch:=[]) (b:=b42) (off:=0) (l:=(u32s kTab)) rfl rfl kr kr kr kr kr kr (At.grp 4 0 rfl rfl) kr (E4 Tryz.func120 (block_ (N6 (I8 l) pre) (some ⟨b6,0+64 * x.1,none⟩) 64 (inG g35) (Q2 (I8 l) x.1) (chunkOf_len hP x.2) (by rw [chunkOf_u8s]; exact own_rd_at hO6) _ _ (H6 7 rfl)) ?_)))))
   rintro v H' ⟨rfl,rfl⟩
   refine M8 5 0 (.agg #[.int .u32 ((P9 (byt (Q2 (I8 l) x.1)) (N6 (I8 l) pre)).a),.int .u32 ((P9 (byt (Q2 (I8 l) x.1)) (N6 (I8 l) pre)).b),.int .u32 ((P9 (byt (Q2 (I8 l) x.1)) (N6 (I8 l) pre)).c),.int .u32 ((P9 (byt (Q2 (I8 l) x.1)) (N6 (I8 l) pre)).d),.int .u32 ((P9 (byt (Q2 (I8 l) x.1)) (N6 (I8 l) pre)).e),.int .u32 ((P9 (byt (Q2 (I8 l) x.1)) (N6 (I8 l) pre)).f),.int .u32 ((P9 (byt (Q2 (I8 l) x.1)) (N6 (I8 l) pre)).g),.int .u32 ((P9 (byt (Q2 (I8 l) x.1)) (N6 (I8 l) pre)).h)]) rfl (D5 (E':=[]) [] [] (k:=?_))
   intro a w ha hs
   show Sat W0 (L::D::([(nb44,.cells #[.int .i64 64] 3 (0,0))]::[(kb43,.cells #[.slice (some ⟨b6,0,none⟩) (64 * ((I8 l).length / 64)) cap38] 31 (0,0))]::[(b42,.cells kArr 152 (0,0))]::[(b41,.cells #[.int .u32 ((N6 (I8 l) (pre++[x])).a),.int .u32 ((N6 (I8 l) (pre++[x])).b),.int .u32 ((N6 (I8 l) (pre++[x])).c),.int .u32 ((N6 (I8 l) (pre++[x])).d),.int .u32 ((N6 (I8 l) (pre++[x])).e),.int .u32 ((N6 (I8 l) (pre++[x])).f),.int .u32 ((N6 (I8 l) (pre++[x])).g),.int .u32 ((N6 (I8 l) (pre++[x])).h)] 150 (0,0))]::g27::g35::[(b1,.cells z32 121 (0,0))]::[(pb,.cells #[.slice xa l.length xc] 31 (0,0))]::H)) w
   rw [foldB_snoc]
   exact Eq.mp (by kernel_rfl) hs
  ·
   intro D1 xs hxs
   subst hxs
   refine G8 (H':=([(D1,.deferred (some []))]::[(nb44,.cells #[.int .i64 64] 3 (0,0))]::[(kb43,.cells #[.slice (some ⟨b6,0,none⟩) (64 * ((I8 l).length / 64)) cap38] 31 (0,0))]::[(b42,.cells kArr 152 (0,0))]::[(b41,.cells #[.int .u32 ((W9 l).a),.int .u32 ((W9 l).b),.int .u32 ((W9 l).c),.int .u32 ((W9 l).d),.int .u32 ((W9 l).e),.int .u32 ((W9 l).f),.int .u32 ((W9 l).g),.int .u32 ((W9 l).h)] 150 (0,0))]::g27::g35::[(b1,.cells z32 121 (0,0))]::[(pb,.cells #[.slice xa l.length xc] 31 (0,0))]::H)) (fun w h=>h) (D3 (A1 (A2 (A3 (GL_alloc (ch:=[]) (z:=.agg (oArr (W9 l) 0)) (k:=(fun b45=>B5 [] [2,5,8] (k:=A1 (A2 ?_)))))))))
   refine A2 (A3 (GL_laq 5 0 8 rfl (B5 [0] [2,8,40,41] (k:=A1 (B8 (G_pkT 6 [0,0,6,6] ([(b45,.cells (oArr (W9 l) 0) 121 (0,0))]::[(D1,.deferred (some []))]::[(b1,.cells z32 121 (0,0))]::[(pb,.cells #[.slice xa l.length xc] 31 (0,0))]::H) (I6 (EI:=(fun ξ:Nat=>[⟨2,[],pt b1⟩,⟨8,[],pt b45⟩,⟨40,[],.agg #[.int .u32 ((W9 l).a),.int .u32 ((W9 l).b),.int .u32 ((W9 l).c),.int .u32 ((W9 l).d),.int .u32 ((W9 l).e),.int .u32 ((W9 l).f),.int .u32 ((W9 l).g),.int .u32 ((W9 l).h)]⟩,⟨41,[],.int .i64 ((ξ:Nat):Int)⟩])) (HI:=(fun ξ:Nat=>([(b45,.cells (oArr (W9 l) (4 * ξ)) 121 (0,0))]::[(D1,.deferred (some []))]::[(b1,.cells z32 121 (0,0))]::[(pb,.cells #[.slice xa l.length xc] 31 (0,0))]::H))) (Φ:=(fun ξ:Nat=>(ξ≤8))) (μ:=(fun ξ:Nat=>8 - ξ)) (s0:=(0)) [2,8,40,41] kr rfl (by omega) ?_)))))))
   rintro j hj
   refine A2 (G_p [0] [2,8,40,41,42] (k:=A1 (A2 (D2 (b:=decide (((j:Nat):Int)<8)) kr (fun hc46=>?_) (fun hc46=>?_)))))
   ·
    have hj8:=of_decide_eq_true hc46
    replace hj8:j<8:=by omega
    refine B6 (A1 (A2 (B8 (A2 (A3 (A5 (j:=1) [0] (k:=GL_indexV (i:=1) (ch:=[]) (vs:=#[.int .u32 ((W9 l).a),.int .u32 ((W9 l).b),.int .u32 ((W9 l).c),.int .u32 ((W9 l).d),.int .u32 ((W9 l).e),.int .u32 ((W9 l).f),.int .u32 ((W9 l).g),.int .u32 ((W9 l).h)]) (kd:=.i64) (j:=((j:Nat):Int)) (len:=8) (e:=134) (v:=.int .u32 (wd (W9 l) j)) rfl rfl kr kr kr kr kr kr kr kr (fun _=>⟨by omega,by omega,by rw [Int.toNat_natCast]; exact wd_at _ hj8⟩) (B5 [0,0] [2,8,9,10,40,41] (k:=?_)))))))))
    refine A1 (A3 (A5 (j:=2) [0,0] (k:=F0 46 (4 * ((j:Nat):Int)) (by omega) (by omega) kr (A5 (j:=4) [0,0] (k:=F0 48 (4 * ((j:Nat):Int)) (by omega) (by omega) kr (A5 (j:=5) [0] (k:=F0 49 ((4 * ((j:Nat):Int))+1) (by omega) (by omega) kr (A5 (j:=7) [0,0] (k:=?_)))))))))
    refine F0 51 (4 * ((j:Nat):Int)) (by omega) (by omega) kr (A5 (j:=8) [0] (k:=F0 52 ((4 * ((j:Nat):Int))+2) (by omega) (by omega) kr (A5 (j:=10) [0,0] (k:=F0 54 (4 * ((j:Nat):Int)) (by omega) (by omega) kr (A5 (j:=11) [0] (k:=F0 55 ((4 * ((j:Nat):Int))+3) (by omega) (by omega) kr (A5 (j:=22) [0,0,0,0,0,0,0,0,0,0,0] (k:=C7 (ch:=[]) (b:=b45) (off:=0) (len:=32) (sz:=1) (e:=5) (kd:=.i64) (j:=4 * ((j:Nat):Int)) (hb:=(fun _=>by exact ⟨by omega,by omega⟩)) (k:=?_)))))))))
    refine J8 (ch:=[]) (b:=b45) (off:=0+Int.toNat (4 * ((j:Nat):Int)) * 1) (v:=.int .u8 (IntKind.wrap .u8 (Int.fdiv (wd (W9 l) j) (2 ^ 24)))) (c:=(oArr (W9 l) (4 * j))) (c':=(oArr (W9 l) (4 * j+1))) (j:=0) (m:=0) (H':=([(b45,.cells (oArr (W9 l) (4 * j+1)) 121 (0,0))]::[(D1,.deferred (some []))]::[(b1,.cells z32 121 (0,0))]::[(pb,.cells #[.slice xa l.length xc] 31 (0,0))]::H)) (hoff:=(by rw [oArr_size _ (by omega)]; show 0+Int.toNat _ * 1+1≤32; omega)) (hfz:=(fun _ _=>P5)) (hc':=oArr_set _ (q:=(4 * ((j:Nat):Int))) (j:=4 * j) (by omega) (by omega) (by rw [(outB_at _ hj8).1,← wrap_b8])) (k:=C7 (ch:=[]) (b:=b45) (off:=0) (len:=32) (sz:=1) (e:=5) (kd:=.i64) (j:=(4 * ((j:Nat):Int))+1) (hb:=(fun _=>by exact ⟨by omega,by omega⟩)) (k:=J8 (ch:=[]) (b:=b45) (off:=0+Int.toNat ((4 * ((j:Nat):Int))+1) * 1) (v:=.int .u8 (IntKind.wrap .u8 (Int.fdiv (wd (W9 l) j) (2 ^ 16)))) (c:=(oArr (W9 l) (4 * j+1))) (c':=(oArr (W9 l) (4 * j+2))) (j:=0) (m:=0) (H':=([(b45,.cells (oArr (W9 l) (4 * j+2)) 121 (0,0))]::[(D1,.deferred (some []))]::[(b1,.cells z32 121 (0,0))]::[(pb,.cells #[.slice xa l.length xc] 31 (0,0))]::H)) (hoff:=(by rw [oArr_size _ (by omega)]; show 0+Int.toNat _ * 1+1≤32; omega)) (hfz:=(fun _ _=>P5)) (hc':=oArr_set _ (q:=((4 * ((j:Nat):Int))+1)) (j:=4 * j+1) (by omega) (by omega) (by rw [(outB_at _ hj8).2.1,← wrap_b8])) (k:=C7 (ch:=[]) (b:=b45) (off:=0) (len:=32) (sz:=1) (e:=5) (kd:=.i64) (j:=(4 * ((j:Nat):Int))+2) (hb:=(fun _=>by exact ⟨by omega,by omega⟩)) (k:=J8 (ch:=[]) (b:=b45) (off:=0+Int.toNat ((4 * ((j:Nat):Int))+2) * 1) (v:=.int .u8 (IntKind.wrap .u8 (Int.fdiv (wd (W9 l) j) (2 ^ 8)))) (c:=(oArr (W9 l) (4 * j+2))) (c':=(oArr (W9 l) (4 * j+3))) (j:=0) (m:=0) (H':=([(b45,.cells (oArr (W9 l) (4 * j+3)) 121 (0,0))]::[(D1,.deferred (some []))]::[(b1,.cells z32 121 (0,0))]::[(pb,.cells #[.slice xa l.length xc] 31 (0,0))]::H)) (hoff:=(by rw [oArr_size _ (by omega)]; show 0+Int.toNat _ * 1+1≤32; omega)) (hfz:=(fun _ _=>P5)) (hc':=oArr_set _ (q:=((4 * ((j:Nat):Int))+2)) (j:=4 * j+2) (by omega) (by omega) (by rw [(outB_at _ hj8).2.2.1,← wrap_b8])) (k:=C7 (ch:=[]) (b:=b45) (off:=0) (len:=32) (sz:=1) (e:=5) (kd:=.i64) (j:=(4 * ((j:Nat):Int))+3) (hb:=(fun _=>by exact ⟨by omega,by omega⟩)) (k:=J8 (ch:=[]) (b:=b45) (off:=0+Int.toNat ((4 * ((j:Nat):Int))+3) * 1) (v:=.int .u8 (IntKind.wrap .u8 (wd (W9 l) j))) (c:=(oArr (W9 l) (4 * j+3))) (c':=(oArr (W9 l) (4 * j+4))) (j:=0) (m:=0) (H':=([(b45,.cells (oArr (W9 l) (4 * j+4)) 121 (0,0))]::[(D1,.deferred (some []))]::[(b1,.cells z32 121 (0,0))]::[(pb,.cells #[.slice xa l.length xc] 31 (0,0))]::H)) (hoff:=(by rw [oArr_size _ (by omega)]; show 0+Int.toNat _ * 1+1≤32; omega)) (hfz:=(fun _ _=>P5)) (hc':=oArr_set _ (q:=((4 * ((j:Nat):Int))+3)) (j:=4 * j+3) (by omega) (by omega) (by rw [(outB_at _ hj8).2.2.2,← wrap_b8])) (k:=B5 [] [2,8,40,41] (k:=D3 ?_))))))))
    refine A1 (A3 (A5 (j:=1) [0] (k:=F0 71 (((j:Nat):Int)+1) (by omega) (by omega) kr (B5 [0] [2,8,40,41] (k:=F6 (s':=(j+1)) [2,8,40,41] kr rfl (by omega) (by omega))))))
   ·
    have hj8:j=8:=by (have h9:=of_decide_eq_false hc46; omega)
    refine H0 (A6 (A6 (C3 (A1 (A2 (A3 (GL_loadA (i:=0) (ch:=[]) (b:=b45) (off:=0) (l:=(u8s (outB (W9 l)))) rfl rfl kr kr kr kr kr kr (At.grp 0 0 rfl rfl) (by rw [hj8]; exact oload _) (J8 (ch:=[]) (b:=b1) (off:=0) (v:=.agg (u8s (sumB l)).toArray) (c:=z32) (c':=(u8s (sumB l)).toArray) (j:=2) (m:=0) (H':=([(b45,.cells (oArr (W9 l) (4 * j)) 121 (0,0))]::[(D1,.deferred (some []))]::[(b1,.cells (u8s (sumB l)).toArray 121 (0,0))]::[(pb,.cells #[.slice xa l.length xc] 31 (0,0))]::H)) (hoff:=Nat.le_of_ble_eq_true rfl) (hfz:=(fun _ _=>P5)) (k:=?_)))))))))
    refine D5 (E':=[⟨2,[],pt b1⟩]) [] [2] (k:=A1 (C8 (N_pk 0 [1] (N_retM [.cell 2 121] [(.agg ((u8s (sumB l))).toArray)] rfl rfl (.cons (.agg (b:=b1) (off:=0) (l:=(u8s (sumB l))) kr kr kr (At.grp 1 0 rfl rfl) kr) (.nil)) rfl ⟨([(pb,.cells #[.slice xa l.length xc] 31 (0,0))]::H),?_,fun w h=>(h.pk 2 [2])⟩))))
    exact ⟨rfl,rfl⟩
theorem hex_ (pb:Nat) (xa:Option Addr) (xc:Nat) (S:Nat→Obj→Prop) (l:List UInt8) (hrd:Rd S xa (u8s l)) (h0:xa=none→l.length=0) (hn:l.length≤1099511627776) (W0:World) (H:List Grp) (hS:∀ y o,S y o→At W0 H y o):Tri Tryz.prog 64 #[.slice (some ⟨pb,0,none⟩) 1 1] W0 ([(pb,.cells #[.slice xa l.length xc] 31 (0,0))]::H) (fun v H'=>v=.string (hexM l)∧H'=([(pb,.cells #[.slice xa l.length xc] 31 (0,0))]::H)):=by
 refine D6 23 Tryz.func64 ?_
 refine A2 (G_p [0] [0] (k:=A1 (A2 (G_p [0] [0,3] (k:=A1 (A2 (A2 (A3 ?_))))))))
 refine A5 (j:=1) [0] (k:=E4 Tryz.func88 (sum_ pb xa xc S l hrd h0 hn _ _ (fun y o h=>(hS y o h))) ?_)
 rintro v H' ⟨rfl,rfl⟩
 refine B5 [0] [3,7,8] (k:=A1 (B8 (G_heap (H':=([]::[(pb,.cells #[.slice xa l.length xc] 31 (0,0))]::H)) (fun w h=>h.flat (List.Perm.refl _)) (I6 (EI:=(fun ξ:Nat × Value × Grp=>[⟨3,[],ξ.2.1⟩,⟨7,[],(.agg (u8s (sumB l)).toArray)⟩,⟨8,[],.int .i64 ((ξ.1:Nat):Int)⟩])) (HI:=(fun ξ:Nat × Value × Grp=>(ξ.2.2::[(pb,.cells #[.slice xa l.length xc] 31 (0,0))]::H))) (Φ:=(fun ξ:Nat × Value × Grp=>(ξ.1≤32)∧(Go.Sw.Own 5 1 ξ.2.1 ξ.2.2 (2 * ξ.1) (u8s (hexK (sumB l) ξ.1))))) (μ:=(fun ξ:Nat × Value × Grp=>32 - ξ.1)) (s0:=(0,.slice none 0 0,[])) [3,7,8] kr rfl ⟨(by omega),Go.Sw.Own.nil⟩ ?_))))
 rintro ⟨j,vh,gh⟩ ⟨hj,hOh⟩
 replace hOh:Go.Sw.Own 5 1 vh gh (2 * j) (u8s (hexK (sumB l) j)):=hOh
 refine A2 (G_p [0] [3,7,8,9] (k:=A1 (A2 (D2 (b:=decide (((j:Nat):Int)<32)) kr (fun hc1=>?_) (fun hc1=>?_)))))
 ·
  have hj8:=of_decide_eq_true hc1
  refine B6 (A1 (A2 (B8 (A2 (A3 (GL_indexV (i:=0) (ch:=[]) (vs:=(u8s (sumB l)).toArray) (kd:=.i64) (j:=((j:Nat):Int)) (len:=32) (e:=5) (v:=.int .u8 (byt (sumB l) j)) rfl rfl kr kr kr kr kr kr kr kr (fun _=>⟨by omega,by omega,by rw [Int.toNat_natCast,List.getElem?_toArray]; exact byt_at rfl (by show j<32; omega)⟩) ?_))))))
  refine B5 [0] [3,5,7,8] (k:=A1 (F4 ([(pb,.cells #[.slice xa l.length xc] 31 (0,0))]::H) kr (E2 (fuel:=7) [(0,0),(1,0),(2,0)] (fun w h=>(h.pk 1 [1])) (k:=A9 3 kr (fun w h=>(h.pk 1 [1])) (GL_ixq (mB #[48,49,50,51,52,53,54,55,56,57,97,98,99,100,101,102]) (Int.fdiv (byt (sumB l) j) (2 ^ 4)) (by have:=nib_at (sumB l) j; unfold low4 at this; intro _; exact ⟨by omega,by show _<16; omega⟩) (B4 kr rfl)) ?_))))
  have hb2:=A0b (mB #[48,49,50,51,52,53,54,55,56,57,97,98,99,100,101,102]) (Int.fdiv (byt (sumB l) j) (2 ^ 4))
  refine E2 (fuel:=4) [(4,0),(5,0)] (fun w h=>(h.pk 1 [1])) (k:=A9 6 kr (fun w h=>(h.pk 1 [1])) (GL_ixq (mB #[48,49,50,51,52,53,54,55,56,57,97,98,99,100,101,102]) (IntKind.wrap .u8 ((BitVec.ofInt (IntKind.bits .u8) (byt (sumB l) j) &&& BitVec.ofInt (IntKind.bits .u8) 15).toNat)) (by have:=nib_at (sumB l) j; unfold low4 at this; intro _; exact ⟨by omega,by show _<16; omega⟩) (B4 kr rfl)) ?_)
  have hb3:=A0b (mB #[48,49,50,51,52,53,54,55,56,57,97,98,99,100,101,102]) (IntKind.wrap .u8 ((BitVec.ofInt (IntKind.bits .u8) (byt (sumB l) j) &&& BitVec.ofInt (IntKind.bits .u8) 15).toNat))
  refine C2 7 (k:=N2 5 2 [.int .u8 (G9 (mB #[48,49,50,51,52,53,54,55,56,57,97,98,99,100,101,102]) (Int.fdiv (byt (sumB l) j) (2 ^ 4))),.int .u8 (G9 (mB #[48,49,50,51,52,53,54,55,56,57,97,98,99,100,101,102]) (IntKind.wrap .u8 ((BitVec.ofInt (IntKind.bits .u8) (byt (sumB l) j) &&& BitVec.ofInt (IntKind.bits .u8) 15).toNat)))] (fun b4=>A7 kr (fun w h=>(h.pk 2 [2])) (I0 ([(b4,.cells #[.int .u8 (G9 (mB #[48,49,50,51,52,53,54,55,56,57,97,98,99,100,101,102]) (Int.fdiv (byt (sumB l) j) (2 ^ 4))),.int .u8 (G9 (mB #[48,49,50,51,52,53,54,55,56,57,97,98,99,100,101,102]) (IntKind.wrap .u8 ((BitVec.ofInt (IntKind.bits .u8) (byt (sumB l) j) &&& BitVec.ofInt (IntKind.bits .u8) 15).toNat)))] 5 (0,0))]::[(pb,.cells #[.slice xa l.length xc] 31 (0,0))]::H) (fun w h=>(h.pk 1 [1])) (C2 8 (k:=GL_ap (inf:=Tryz.t5) 2 0 1 rfl rfl hOh (by omega) (by show ((2 * j)+2) * 1≤140737488355328; omega) (fun v5 g6 hO7=>?_))))))
  refine A7 kr (fun w h=>(h.pkT 1 [0,1])) (I0 ([(b4,.cells #[.int .u8 (G9 (mB #[48,49,50,51,52,53,54,55,56,57,97,98,99,100,101,102]) (Int.fdiv (byt (sumB l) j) (2 ^ 4))),.int .u8 (G9 (mB #[48,49,50,51,52,53,54,55,56,57,97,98,99,100,101,102]) (IntKind.wrap .u8 ((BitVec.ofInt (IntKind.bits .u8) (byt (sumB l) j) &&& BitVec.ofInt (IntKind.bits .u8) 15).toNat)))] 5 (0,0))]::g6::[(pb,.cells #[.slice xa l.length xc] 31 (0,0))]::H) (fun w h=>(h.pk 1 [0,1])) (E2 (fuel:=0) [(9,0)] (fun w h=>h.pkT 0 []) (k:=D8 (E':=[⟨3,[],v5⟩,⟨7,[],(.agg (u8s (sumB l)).toArray)⟩,⟨8,[],.int .i64 ((j:Nat):Int)⟩]) [3,7,8] (k:=D3 (A1 (A3 (A5 (j:=1) [0] (k:=F0 20 (((j:Nat):Int)+1) (by omega) (by omega) kr ?_))))))))
  refine B5 [0] [3,7,8] (k:=N_pk 1 [1,1] (F6 (s':=(j+1,v5,g6)) [3,7,8] kr kr ⟨(by omega),(X3 hO7 (hexK_succ (sumB l) (by show j<32; omega)))⟩ (by omega)))
 ·
  have hj8:j=32:=by (have h9:=of_decide_eq_false hc1; omega)
  obtain ⟨ah,ch,hvh,hch,hrh⟩:=(own_hex hOh).shape
  refine H0 (A6 (A6 (C3 (A1 (A2 (A3 (A5 (j:=1) [0] (k:=Y1 21 (x:=vh) (y:=.slice ah ((ByteArray.mk (hexK (sumB l) j).toArray).size) ch) (by rw [hvh,hex_size l hj]) ?_))))))))
  refine K6 (ch:=[]) (a:=ah) (cap:=ch) (e:=5) (S:=(inG gh)) (ByteArray.mk (hexK (sumB l) j).toArray) (hrd:=hrh) (hS:=H6 0 rfl) (k:=B5 [0] [2] (k:=A1 (C8 (N_pk 1 [1] (C5 [.tmp 2] [.string (ByteArray.mk (hexK (sumB l) j).toArray)] (k:=?_))))))
  exact ⟨by rw [hj8]; rfl,rfl⟩
end Go.Proofs.YtdolpaagdpeagaaGreatDoor
namespace Go.Proofs
open Go.Shelf
def Tryz.lays137_ren:Go.Shelf.Ren:=⟨fun | 137=>58 | 217=>83 | 266=>110 | n=>n,fun | 9=>9 | 5=>5 | 3=>3 | n=>n,fun | n=>n⟩
theorem Tryz.lays137:Go.Proofs.Lays.n137 Tryz.prog Tryz.lays137_ren:={
  mixed:=by kernel_rfl
  f137:=Tryz.func58.trans (congrArg some (by kernel_rfl))
  f217:=Tryz.func83.trans (congrArg some (by kernel_rfl))
  f266:=Tryz.func110.trans (congrArg some (by kernel_rfl))
  t3:=Tryz.underlying3
  a3:=Tryz.isAgg3
  z3:=Tryz.sizeOf3
  v3:=Tryz.zeroValue3
  t5:=Tryz.underlying5
  a5:=Tryz.isAgg5
  z5:=Tryz.sizeOf5
  v5:=Tryz.zeroValue5
  t9:=Tryz.underlying9
  a9:=Tryz.isAgg9
  z9:=Tryz.sizeOf9
  v9:=Tryz.zeroValue9 }
open Go.RowKit in
/-- strings.IndexByte: "IndexByte returns the index of the first instance of c in s, or -1 if c is not present in s.": IT RETURNS 'Lib.indexByte s c'; the world is as it was. (LAID: no walk: one application.) -/
theorem Tryz.strings_IndexByte (s:ByteArray) (c:Int) (w:World) :
    Calls Tryz.prog 58 #[.string s,.int .u8 c] w fun e w'=>e=.returned (.int .i64 (Lib.indexByte s.data.toList c.toNat.toUInt8))∧w'=w:=Any.strings_IndexByte Tryz.lays137 s c w
def Tryz.lays103_ren:Go.Shelf.Ren:=⟨fun | 103=>55 | 210=>80 | 206=>104 | n=>n,fun | 9=>9 | 4=>4 | 24=>100 | 3=>3 | n=>n,fun | n=>n⟩
theorem Tryz.lays103:Go.Proofs.Lays.n103 Tryz.prog Tryz.lays103_ren:={
  mixed:=by kernel_rfl
  f103:=Tryz.func55.trans (congrArg some (by kernel_rfl))
  f206:=Tryz.func104.trans (congrArg some (by kernel_rfl))
  f210:=Tryz.func80.trans (congrArg some (by kernel_rfl))
  t3:=Tryz.underlying3
  a3:=Tryz.isAgg3
  z3:=Tryz.sizeOf3
  v3:=Tryz.zeroValue3
  t4:=Tryz.underlying4
  a4:=Tryz.isAgg4
  z4:=Tryz.sizeOf4
  v4:=Tryz.zeroValue4
  t9:=Tryz.underlying9
  a9:=Tryz.isAgg9
  z9:=Tryz.sizeOf9
  v9:=Tryz.zeroValue9
  t24:=Tryz.underlying100
  a24:=Tryz.isAgg100
  z24:=Tryz.sizeOf100
  v24:=Tryz.zeroValue100 }
open Go.RowKit in
/-- strings.CutPrefix: "CutPrefix returns s without the provided leading prefix string and reports whether it found the prefix. If s doesn't start with prefix, CutPrefix returns s, false. If prefix is the empty string, CutPrefix returns s, true.": IT RETURNS '(Lib.trimPrefix s p, Lib.hasPrefix s p)'; the world is as it was. (LAID: no walk: one application.) -/
theorem Tryz.strings_CutPrefix (s p:ByteArray) (w:World) :
    Calls Tryz.prog 55 #[.string s,.string p] w fun e w'=>e=.returned (.tuple #[.string ⟨(Lib.trimPrefix s.data.toList p.data.toList).toArray⟩,.bool (Lib.hasPrefix s.data.toList p.data.toList)])∧w'=w:=Any.strings_CutPrefix Tryz.lays103 s p w
def Tryz.lays172_ren:Go.Shelf.Ren:=⟨fun | 172=>56 | 244=>81 | 245=>82 | 247=>105 | 279=>106 | 280=>107 | 281=>108 | 282=>109 | 287=>131 | 316=>132 | 171=>54 | 205=>133 | 321=>144 | 322=>145 | 243=>79 | 246=>103 | 283=>127 | 284=>128 | 285=>129 | 286=>130 | 129=>100 | 317=>140 | 318=>141 | 319=>142 | 320=>143 | 337=>146 | 338=>147 | n=>n,fun | 9=>9 | 3=>3 | 75=>103 | 76=>104 | 4=>4 | 5=>5 | 167=>140 | 37=>31 | 0=>0 | 85=>141 | 2=>2 | 168=>143 | 53=>136 | 175=>168 | 46=>44 | 210=>171 | 127=>123 | 145=>189 | 143=>187 | 21=>21 | 171=>164 | 173=>166 | 212=>183 | 51=>134 | 20=>20 | 213=>184 | 232=>121 | 233=>190 | 80=>112 | n=>n,fun | 15=>1 | 16=>2 | 17=>3 | 18=>4 | 19=>5 | n=>n⟩
theorem Tryz.lays172:Go.Proofs.Lays.n172 Tryz.prog Tryz.lays172_ren:={
  mixed:=by kernel_rfl
  f129:=Tryz.func100.trans (congrArg some (by kernel_rfl))
  f171:=Tryz.func54.trans (congrArg some (by kernel_rfl))
  f172:=Tryz.func56.trans (congrArg some (by kernel_rfl))
  f205:=Tryz.func133.trans (congrArg some (by kernel_rfl))
  f243:=Tryz.func79.trans (congrArg some (by kernel_rfl))
  f244:=Tryz.func81.trans (congrArg some (by kernel_rfl))
  f245:=Tryz.func82.trans (congrArg some (by kernel_rfl))
  f246:=Tryz.func103.trans (congrArg some (by kernel_rfl))
  f247:=Tryz.func105.trans (congrArg some (by kernel_rfl))
  f279:=Tryz.func106.trans (congrArg some (by kernel_rfl))
  f280:=Tryz.func107.trans (congrArg some (by kernel_rfl))
  f281:=Tryz.func108.trans (congrArg some (by kernel_rfl))
  f282:=Tryz.func109.trans (congrArg some (by kernel_rfl))
  f283:=Tryz.func127.trans (congrArg some (by kernel_rfl))
  f284:=Tryz.func128.trans (congrArg some (by kernel_rfl))
  f285:=Tryz.func129.trans (congrArg some (by kernel_rfl))
  f286:=Tryz.func130.trans (congrArg some (by kernel_rfl))
  f287:=Tryz.func131.trans (congrArg some (by kernel_rfl))
  f316:=Tryz.func132.trans (congrArg some (by kernel_rfl))
  f317:=Tryz.func140.trans (congrArg some (by kernel_rfl))
  f318:=Tryz.func141.trans (congrArg some (by kernel_rfl))
  f319:=Tryz.func142.trans (congrArg some (by kernel_rfl))
  f320:=Tryz.func143.trans (congrArg some (by kernel_rfl))
  f321:=Tryz.func144.trans (congrArg some (by kernel_rfl))
  f322:=Tryz.func145.trans (congrArg some (by kernel_rfl))
  f337:=Tryz.func146.trans (congrArg some (by kernel_rfl))
  f338:=Tryz.func147.trans (congrArg some (by kernel_rfl))
  t0:=Tryz.underlying0
  a0:=Tryz.isAgg0
  z0:=Tryz.sizeOf0
  v0:=Tryz.zeroValue0
  t2:=Tryz.underlying2
  a2:=Tryz.isAgg2
  z2:=Tryz.sizeOf2
  v2:=Tryz.zeroValue2
  t3:=Tryz.underlying3
  a3:=Tryz.isAgg3
  z3:=Tryz.sizeOf3
  v3:=Tryz.zeroValue3
  t4:=Tryz.underlying4
  a4:=Tryz.isAgg4
  z4:=Tryz.sizeOf4
  v4:=Tryz.zeroValue4
  t5:=Tryz.underlying5
  a5:=Tryz.isAgg5
  z5:=Tryz.sizeOf5
  v5:=Tryz.zeroValue5
  t9:=Tryz.underlying9
  a9:=Tryz.isAgg9
  z9:=Tryz.sizeOf9
  v9:=Tryz.zeroValue9
  t20:=Tryz.underlying20
  a20:=Tryz.isAgg20
  z20:=Tryz.sizeOf20
  v20:=Tryz.zeroValue20
  t21:=Tryz.underlying21
  a21:=Tryz.isAgg21
  z21:=Tryz.sizeOf21
  v21:=Tryz.zeroValue21
  t37:=Tryz.underlying31
  a37:=Tryz.isAgg31
  z37:=Tryz.sizeOf31
  v37:=Tryz.zeroValue31
  t46:=Tryz.underlying44
  a46:=Tryz.isAgg44
  z46:=Tryz.sizeOf44
  v46:=Tryz.zeroValue44
  t51:=Tryz.underlying134
  a51:=Tryz.isAgg134
  z51:=Tryz.sizeOf134
  v51:=Tryz.zeroValue134
  t53:=Tryz.underlying136
  a53:=Tryz.isAgg136
  z53:=Tryz.sizeOf136
  v53:=Tryz.zeroValue136
  t75:=Tryz.underlying103
  a75:=Tryz.isAgg103
  z75:=Tryz.sizeOf103
  v75:=Tryz.zeroValue103
  t76:=Tryz.underlying104
  a76:=Tryz.isAgg104
  z76:=Tryz.sizeOf104
  v76:=Tryz.zeroValue104
  t85:=Tryz.underlying141
  a85:=Tryz.isAgg141
  z85:=Tryz.sizeOf141
  v85:=Tryz.zeroValue141
  t127:=Tryz.underlying123
  a127:=Tryz.isAgg123
  z127:=Tryz.sizeOf123
  v127:=Tryz.zeroValue123
  t143:=Tryz.underlying187
  a143:=Tryz.isAgg187
  z143:=Tryz.sizeOf187
  v143:=Tryz.zeroValue187
  t145:=Tryz.underlying189
  a145:=Tryz.isAgg189
  z145:=Tryz.sizeOf189
  v145:=Tryz.zeroValue189
  t167:=Tryz.underlying140
  a167:=Tryz.isAgg140
  z167:=Tryz.sizeOf140
  v167:=Tryz.zeroValue140
  t168:=Tryz.underlying143
  a168:=Tryz.isAgg143
  z168:=Tryz.sizeOf143
  v168:=Tryz.zeroValue143
  t171:=Tryz.underlying164
  a171:=Tryz.isAgg164
  z171:=Tryz.sizeOf164
  v171:=Tryz.zeroValue164
  t173:=Tryz.underlying166
  a173:=Tryz.isAgg166
  z173:=Tryz.sizeOf166
  v173:=Tryz.zeroValue166
  t175:=Tryz.underlying168
  a175:=Tryz.isAgg168
  z175:=Tryz.sizeOf168
  v175:=Tryz.zeroValue168
  t210:=Tryz.underlying171
  a210:=Tryz.isAgg171
  z210:=Tryz.sizeOf171
  v210:=Tryz.zeroValue171
  t212:=Tryz.underlying183
  a212:=Tryz.isAgg183
  z212:=Tryz.sizeOf183
  v212:=Tryz.zeroValue183
  t213:=Tryz.underlying184
  a213:=Tryz.isAgg184
  z213:=Tryz.sizeOf184
  t232:=Tryz.underlying121
  a232:=Tryz.isAgg121
  z232:=Tryz.sizeOf121
  v232:=Tryz.zeroValue121
  t233:=Tryz.underlying190
  a233:=Tryz.isAgg190
  z233:=Tryz.sizeOf190
  v233:=Tryz.zeroValue190
  g15:=by kernel_rfl
  g16:=by kernel_rfl
  g17:=by kernel_rfl
  g18:=by kernel_rfl
  g19:=by kernel_rfl }
open Go.RowKit in
/-- strconv.Atoi: "Atoi is equivalent to ParseInt(s, 10, 0), converted to type int.": AT A DECIMAL NUMERAL OF AT MOST 18 BYTES: its value, and a nil error. The world behind the call: the one new row that the library's '[]byte(s)' lays. (LAID: no walk: one application.) -/
theorem Tryz.strconv_Atoi (s:ByteArray) (n:Int) (hl:s.size≤18) (h:Lib.atoi s.data.toList=some n) (w:World) :
    Calls Tryz.prog 56 #[.string s] w fun e w'=>e=.returned (.tuple #[.int .i64 n,.nilIface])∧∃ t,w'=Lib.bytesWorld w 5 t:=Any.strconv_Atoi Tryz.lays172 s n hl h w
def Tryz.lays171_ren:Go.Shelf.Ren:=⟨fun | 171=>54 | 243=>79 | 246=>103 | 283=>127 | 284=>128 | 285=>129 | 286=>130 | 129=>100 | 317=>140 | 318=>141 | 319=>142 | 320=>143 | 337=>146 | 338=>147 | n=>n,fun | 3=>3 | 9=>9 | 2=>2 | 4=>4 | 171=>164 | 0=>0 | 53=>136 | 37=>31 | 5=>5 | 173=>166 | 212=>183 | 51=>134 | 20=>20 | 213=>184 | 46=>44 | 232=>121 | 233=>190 | n=>n,fun | 17=>3 | 18=>4 | 19=>5 | n=>n⟩
theorem Tryz.lays171:Go.Proofs.Lays.n171 Tryz.prog Tryz.lays171_ren:={
  mixed:=by kernel_rfl
  f129:=Tryz.func100.trans (congrArg some (by kernel_rfl))
  f171:=Tryz.func54.trans (congrArg some (by kernel_rfl))
  f243:=Tryz.func79.trans (congrArg some (by kernel_rfl))
  f246:=Tryz.func103.trans (congrArg some (by kernel_rfl))
  f283:=Tryz.func127.trans (congrArg some (by kernel_rfl))
  f284:=Tryz.func128.trans (congrArg some (by kernel_rfl))
  f285:=Tryz.func129.trans (congrArg some (by kernel_rfl))
  f286:=Tryz.func130.trans (congrArg some (by kernel_rfl))
  f317:=Tryz.func140.trans (congrArg some (by kernel_rfl))
  f318:=Tryz.func141.trans (congrArg some (by kernel_rfl))
  f319:=Tryz.func142.trans (congrArg some (by kernel_rfl))
  f320:=Tryz.func143.trans (congrArg some (by kernel_rfl))
  f337:=Tryz.func146.trans (congrArg some (by kernel_rfl))
  f338:=Tryz.func147.trans (congrArg some (by kernel_rfl))
  t0:=Tryz.underlying0
  a0:=Tryz.isAgg0
  z0:=Tryz.sizeOf0
  v0:=Tryz.zeroValue0
  t2:=Tryz.underlying2
  a2:=Tryz.isAgg2
  z2:=Tryz.sizeOf2
  v2:=Tryz.zeroValue2
  t3:=Tryz.underlying3
  a3:=Tryz.isAgg3
  z3:=Tryz.sizeOf3
  v3:=Tryz.zeroValue3
  t4:=Tryz.underlying4
  a4:=Tryz.isAgg4
  z4:=Tryz.sizeOf4
  v4:=Tryz.zeroValue4
  t5:=Tryz.underlying5
  a5:=Tryz.isAgg5
  z5:=Tryz.sizeOf5
  v5:=Tryz.zeroValue5
  t9:=Tryz.underlying9
  a9:=Tryz.isAgg9
  z9:=Tryz.sizeOf9
  v9:=Tryz.zeroValue9
  t20:=Tryz.underlying20
  a20:=Tryz.isAgg20
  z20:=Tryz.sizeOf20
  v20:=Tryz.zeroValue20
  t37:=Tryz.underlying31
  a37:=Tryz.isAgg31
  z37:=Tryz.sizeOf31
  v37:=Tryz.zeroValue31
  t46:=Tryz.underlying44
  a46:=Tryz.isAgg44
  z46:=Tryz.sizeOf44
  v46:=Tryz.zeroValue44
  t51:=Tryz.underlying134
  a51:=Tryz.isAgg134
  z51:=Tryz.sizeOf134
  v51:=Tryz.zeroValue134
  t53:=Tryz.underlying136
  a53:=Tryz.isAgg136
  z53:=Tryz.sizeOf136
  v53:=Tryz.zeroValue136
  t171:=Tryz.underlying164
  a171:=Tryz.isAgg164
  z171:=Tryz.sizeOf164
  v171:=Tryz.zeroValue164
  t173:=Tryz.underlying166
  a173:=Tryz.isAgg166
  z173:=Tryz.sizeOf166
  v173:=Tryz.zeroValue166
  t212:=Tryz.underlying183
  a212:=Tryz.isAgg183
  z212:=Tryz.sizeOf183
  v212:=Tryz.zeroValue183
  t213:=Tryz.underlying184
  a213:=Tryz.isAgg184
  z213:=Tryz.sizeOf184
  t232:=Tryz.underlying121
  a232:=Tryz.isAgg121
  z232:=Tryz.sizeOf121
  v232:=Tryz.zeroValue121
  t233:=Tryz.underlying190
  a233:=Tryz.isAgg190
  z233:=Tryz.sizeOf190
  v233:=Tryz.zeroValue190
  g17:=by kernel_rfl
  g18:=by kernel_rfl
  g19:=by kernel_rfl }
open Go.RowKit Go.Sort Go.Lib in
/-- THE ROAD WITHOUT THE TABLE: 0 <= i < 100: NO PREMISE ON THE WORLD, AND THE WORLD IS AS IT WAS: a row that keeps its argument in that range need list no table ('laid = []'). (LAID: no walk: one application.) -/
theorem Tryz.strconv_Itoa_small (i:Nat) (hi:i<100) (w:World) :
    Calls Tryz.prog 54 #[.int .i64 i] w fun e w'=>e=.returned (.string ⟨(Lib.decDigits i).toArray⟩)∧w'=w:=Any.strconv_Itoa_small Tryz.lays171 i hi w
def Tryz.lays219_ren:Go.Shelf.Ren:=⟨fun | 219=>84 | 217=>83 | 225=>111 | 224=>112 | 267=>113 | 266=>110 | 314=>134 | n=>n,fun | 9=>9 | 3=>3 | 4=>4 | 5=>5 | 46=>44 | 146=>173 | 51=>134 | n=>n,fun | 1=>0 | n=>n⟩
theorem Tryz.lays219:Go.Proofs.Lays.n219 Tryz.prog Tryz.lays219_ren:={
  mixed:=by kernel_rfl
  f217:=Tryz.func83.trans (congrArg some (by kernel_rfl))
  f219:=Tryz.func84.trans (congrArg some (by kernel_rfl))
  f224:=Tryz.func112.trans (congrArg some (by kernel_rfl))
  f225:=Tryz.func111.trans (congrArg some (by kernel_rfl))
  f266:=Tryz.func110.trans (congrArg some (by kernel_rfl))
  f267:=Tryz.func113.trans (congrArg some (by kernel_rfl))
  f314:=Tryz.func134.trans (congrArg some (by kernel_rfl))
  t3:=Tryz.underlying3
  a3:=Tryz.isAgg3
  z3:=Tryz.sizeOf3
  v3:=Tryz.zeroValue3
  t4:=Tryz.underlying4
  a4:=Tryz.isAgg4
  z4:=Tryz.sizeOf4
  v4:=Tryz.zeroValue4
  t5:=Tryz.underlying5
  a5:=Tryz.isAgg5
  z5:=Tryz.sizeOf5
  v5:=Tryz.zeroValue5
  t9:=Tryz.underlying9
  a9:=Tryz.isAgg9
  z9:=Tryz.sizeOf9
  v9:=Tryz.zeroValue9
  t46:=Tryz.underlying44
  a46:=Tryz.isAgg44
  z46:=Tryz.sizeOf44
  v46:=Tryz.zeroValue44
  t51:=Tryz.underlying134
  a51:=Tryz.isAgg134
  z51:=Tryz.sizeOf134
  v51:=Tryz.zeroValue134
  t146:=Tryz.underlying173
  a146:=Tryz.isAgg173
  z146:=Tryz.sizeOf173
  v146:=Tryz.zeroValue173
  g1:=by kernel_rfl }
open Go.RowKit Go.Lib in
/-- internal/stringslite.Index (what strings.Index calls) AT A substr OF ONE BYTE c: IT RETURNS 'Lib.indexByte s c'; the world is as it was. (LAID: no walk: one application.) -/
theorem Tryz.stringslite_Index_one (s:ByteArray) (c:UInt8) (w:World) :
    Calls Tryz.prog 84 #[.string s,.string ⟨#[c]⟩] w fun e w'=>e=.returned (.int .i64 (Lib.indexByte s.data.toList c))∧w'=w:=Any.stringslite_Index_one Tryz.lays219 s c w
def Tryz.lays144_ren:Go.Shelf.Ren:=⟨fun | 144=>62 | 143=>86 | 219=>84 | 217=>83 | 225=>111 | 224=>112 | 267=>113 | 266=>110 | 314=>134 | n=>n,fun | 9=>9 | 4=>4 | 3=>3 | 5=>5 | 46=>44 | 146=>173 | 51=>134 | n=>n,fun | 1=>0 | n=>n⟩
theorem Tryz.lays144:Go.Proofs.Lays.n144 Tryz.prog Tryz.lays144_ren:={
  mixed:=by kernel_rfl
  f143:=Tryz.func86.trans (congrArg some (by kernel_rfl))
  f144:=Tryz.func62.trans (congrArg some (by kernel_rfl))
  f217:=Tryz.func83.trans (congrArg some (by kernel_rfl))
  f219:=Tryz.func84.trans (congrArg some (by kernel_rfl))
  f224:=Tryz.func112.trans (congrArg some (by kernel_rfl))
  f225:=Tryz.func111.trans (congrArg some (by kernel_rfl))
  f266:=Tryz.func110.trans (congrArg some (by kernel_rfl))
  f267:=Tryz.func113.trans (congrArg some (by kernel_rfl))
  f314:=Tryz.func134.trans (congrArg some (by kernel_rfl))
  t3:=Tryz.underlying3
  a3:=Tryz.isAgg3
  z3:=Tryz.sizeOf3
  v3:=Tryz.zeroValue3
  t4:=Tryz.underlying4
  a4:=Tryz.isAgg4
  z4:=Tryz.sizeOf4
  v4:=Tryz.zeroValue4
  t5:=Tryz.underlying5
  a5:=Tryz.isAgg5
  z5:=Tryz.sizeOf5
  v5:=Tryz.zeroValue5
  t9:=Tryz.underlying9
  a9:=Tryz.isAgg9
  z9:=Tryz.sizeOf9
  v9:=Tryz.zeroValue9
  t46:=Tryz.underlying44
  a46:=Tryz.isAgg44
  z46:=Tryz.sizeOf44
  v46:=Tryz.zeroValue44
  t51:=Tryz.underlying134
  a51:=Tryz.isAgg134
  z51:=Tryz.sizeOf134
  v51:=Tryz.zeroValue134
  t146:=Tryz.underlying173
  a146:=Tryz.isAgg173
  z146:=Tryz.sizeOf173
  v146:=Tryz.zeroValue173
  g1:=by kernel_rfl }
open Go.RowKit Go.Lib in
/-- strings.Contains: "Contains reports whether substr is within s.": AT A substr OF ONE BYTE c: IT RETURNS 'decide (0 ≤ Lib.indexByte s c)'; the world is as it was. (LAID: no walk: one application.) -/
theorem Tryz.strings_Contains_one (s:ByteArray) (c:UInt8) (w:World) :
    Calls Tryz.prog 62 #[.string s,.string ⟨#[c]⟩] w fun e w'=>e=.returned (.bool (decide (0≤Lib.indexByte s.data.toList c)))∧w'=w:=Any.strings_Contains_one Tryz.lays144 s c w
def Tryz.lays102_ren:Go.Shelf.Ren:=⟨fun | 102=>30 | 209=>60 | 207=>85 | n=>n,fun | 9=>9 | 4=>4 | 3=>3 | n=>n,fun | n=>n⟩
theorem Tryz.lays102:Go.Proofs.Lays.n102 Tryz.prog Tryz.lays102_ren:={
  mixed:=by kernel_rfl
  f102:=Tryz.func30.trans (congrArg some (by kernel_rfl))
  f207:=Tryz.func85.trans (congrArg some (by kernel_rfl))
  f209:=Tryz.func60.trans (congrArg some (by kernel_rfl))
  t3:=Tryz.underlying3
  a3:=Tryz.isAgg3
  z3:=Tryz.sizeOf3
  v3:=Tryz.zeroValue3
  t4:=Tryz.underlying4
  a4:=Tryz.isAgg4
  z4:=Tryz.sizeOf4
  v4:=Tryz.zeroValue4
  t9:=Tryz.underlying9
  a9:=Tryz.isAgg9
  z9:=Tryz.sizeOf9
  v9:=Tryz.zeroValue9 }
open Go.RowKit Go.Lib in
/-- strings.TrimSuffix: "TrimSuffix returns s without the provided trailing suffix string. If s doesn't end with suffix, s is returned unchanged.": IT RETURNS 'Lib.trimSuffix s suffix'; the world is as it was. (LAID: no walk: one application.) -/
theorem Tryz.strings_TrimSuffix (s p:ByteArray) (w:World) (hs:s.size≤9223372036854775807) :
    Calls Tryz.prog 30 #[.string s,.string p] w fun e w'=>e=.returned (.string ⟨(Lib.trimSuffix s.data.toList p.data.toList).toArray⟩)∧w'=w:=Any.strings_TrimSuffix Tryz.lays102 s p w hs
end Go.Proofs
namespace Go.Proofs.YtdolpaagdpeagaaGreatDoor
open Go.Sw Go.Lib Go.Vf Go.Sha Go.Pr Go.RowKit
theorem it_dig {n:Int} (h0:0≤n):itB n=⟨(Lib.decDigits n.toNat).toArray⟩:=by unfold itB Lib.itoa; rw [if_neg (by omega)]
theorem it_size {n:Int} (h0:0≤n∧n<100):(itB n).size≤2:=by
  rw [it_dig h0.1]
  show (Lib.decDigits n.toNat).toArray.size≤2
  rw [List.size_toArray]
  exact dig_len 1 n.toNat (by omega)
theorem itoaP (n:Int) (h:0≤n∧n<100) (W0:World) (H:List Grp):Tri Tryz.prog 54 #[.int .i64 n] W0 H (fun v H'=>v=.string (itB n)∧H'=H):=by
  obtain ⟨i,rfl⟩:=Int.eq_ofNat_of_zero_le h.1
  exact X9 (fun w _=>(Tryz.strconv_Itoa_small i (by omega) w).mono fun _ _ ⟨h1,h2⟩=>⟨by rw [h1,it_dig h.1]; rfl,by rw [h2]; exact ⟨rfl,rfl,rfl,Nat.le_refl _,fun _ _=>rfl⟩⟩)
theorem has_idx (c:UInt8):∀ l:List UInt8,decide (0≤Lib.indexByte l c)=l.contains c
  | []=>rfl
  | b::l=>by
    have ih:=has_idx c l
    rw [List.contains_cons]
    unfold Lib.indexByte
    by_cases h:b=c
    · subst h; simp
    · rw [if_neg (by simpa using h),show (c==b)=false from by rw [beq_eq_false_iff_ne]; exact fun e=>h e.symm,Bool.false_or,← ih]
      have hg:=Lib.indexByte_ge l c
      by_cases h1:Lib.indexByte l c=-1
      · rw [if_pos (by simpa using h1),h1]
      · rw [if_neg (by simpa using h1),decide_eq_true (by omega),decide_eq_true (by omega)]
theorem hasSlash (s:ByteArray) (W0:World) (H:List Grp):Tri Tryz.prog 62 #[.string s,.string (mB #[47])] W0 H (fun v H'=>v=.bool (s.data.toList.contains 47)∧H'=H) :=
  X9 (fun w _=>(Tryz.strings_Contains_one s 47 w).mono fun _ _ ⟨h1,h2⟩=>⟨by rw [h1,has_idx],by rw [h2]; exact ⟨rfl,rfl,rfl,Nat.le_refl _,fun _ _=>rfl⟩⟩)
theorem elt2 {cs l:List Value} {q:Nat} (h:(cs.drop q).take 2=l):∀ m (hm:m<l.length),cs[q+m]? = some l[m]:=by
  intro m hm
  subst h
  have h2:m<2:=by rw [List.length_take] at hm; omega
  rw [← List.getElem?_eq_getElem hm,List.getElem?_take_of_lt h2,List.getElem?_drop]
theorem P8 {S:Nat→Obj→Prop} {F:List FB} {cs:List Value} {k:Nat} (h:FRd S F cs) (hk:k<F.length):cs≠[]:=fun e=>by
  have:=h.len; rw [e,List.length_nil] at this; omega
theorem rd_non {S:Nat→Obj→Prop} {a:Option Addr} {l:List UInt8} (h:Rd S a (u8s l)) (ha:a=none):l.length=0:=by
  subst ha
  rcases h with h | ⟨_,_,_,_,_,h,_⟩
  · have:=congrArg List.length h
    unfold u8s at this; rw [List.length_map] at this; exact this
  · cases h
theorem Q6 (l:List UInt8):(hexM l).size=64:=hex_size l (Nat.le_refl 32)
theorem lines_succ {F:List FB} {k:Nat} (h:k<F.length):C6 (F.take (k+1))=C6 (F.take k)++R8 F[k]:=by
  have go:∀ (A:List FB) (f:FB),C6 (A++[f])=C6 A++R8 f:=by
    intro A f
    induction A with
    | nil=>show R8 f++ByteArray.empty=ByteArray.empty++R8 f; rw [ByteArray.append_empty,ByteArray.empty_append]
    | cons x A ih=>show R8 x++C6 (A++[f])=(R8 x++C6 A)++R8 f; rw [ih,ByteArray.append_assoc]
  rw [List.take_succ_eq_append_getElem h,go]
theorem Z8 (f:FB):(R8 f).size=f.1.size+66:=by
  unfold R8
  simp only [ByteArray.size_append,Q6]
  show 64+1+f.1.size+1=_
  omega
theorem A0i {z:Nat}:∀ {F:List FB},(∀ f∈F,f.1.size≤z)→(C6 F).size≤F.length * (z+66)
  | [],_=>Nat.zero_le _
  | f::F,h=>by
    have h1:=h f List.mem_cons_self
    have h2:=A0i fun g hg=>h g (List.mem_cons_of_mem _ hg)
    show (R8 f++C6 F).size≤_
    rw [ByteArray.size_append,Z8,List.length_cons,Nat.succ_mul]; omega
theorem dir_ (n:Int) (h:0≤n∧n<100) (W0:World) (H:List Grp):Tri Tryz.prog 26 #[.int .i64 n] W0 H (fun v H'=>v=.string (gB n)∧H'=H):=by
 have hit:=it_size h
 refine D6 6 Tryz.func26 ?_
 refine A2 (B9 (E':=[⟨0,[],.int .i64 n⟩]) [0] [0] (k:=A1 (A2 (A3 (A5 (j:=1) [0] (k:=G1 Tryz.func54 (itoaP n h _ _) (Z2 (mB #[103]) (itB n) (by intro _; show 1+(itB n).size≤_; omega) (B5 [0] [2] (k:=?_)))))))))
 refine A1 (C8 (C5 [.tmp 2] [.string ((mB #[103])++(itB n))] (k:=?_)))
 exact ⟨rfl,rfl⟩
theorem name_ (s:ByteArray) (hs:s.size≤9223372036854775807) (W0:World) (H:List Grp):Tri Tryz.prog 31 #[.string s] W0 H (fun v H'=>v=.bool (R2 s)∧H'=H):=by
 refine D6 14 Tryz.func31 ?_
 refine A2 (B9 (E':=[⟨0,[],.string s⟩]) [0] [0] (k:=A1 (A2 (A3 (A5 (j:=1) [0] (k:=G1 (vs:=[.string s]) Tryz.func61 (S7 _ (by omega) _ _) (A5 (j:=4) [0,0] (k:=A0p [(5,true)] Tryz.func62 (fun hc=>hasSlash s _ _) ?_))))))))
 refine B5 [0,6,0,0,0,6,0] [2] (k:=A1 (C8 (C5 [.tmp 2] [.bool (((A4 s)&&(!(s.data.toList.contains 47)))&&(!(s.toList==(mB #[109,97,110,105,102,101,115,116]).toList)))] (k:=?_))))
 exact ⟨rfl,rfl⟩
theorem bown_succP {v:Value} {g:Grp} {F:List FB} {f:FB} {k:Nat} (h:BOwn v g (C6 (F.take k)++R8 f)) (hk:k<F.length) (hf:f=F[k]):BOwn v g (C6 (F.take (k+1))):=by rw [lines_succ hk,← hf]; exact h
theorem bown_allP {v:Value} {g:Grp} {F:List FB} {k:Nat} (h:BOwn v g (C6 (F.take k))) (hk:F.length≤k):BOwn v g (C6 F):=by rw [List.take_of_length_le hk] at h; exact h
theorem lines_ (fa:Option Addr) (fc:Nat) (F:List FB) (cs:List Value) (S:Nat→Obj→Prop) (hrd:Rd S fa cs) (hF:FRd S F cs) (hn:F.length≤1000000) (hz:∀ f∈F,f.1.size≤1000000) (hb:∀ f∈F,f.2.size≤1000000000) (W0:World) (H:List Grp) (hS:∀ y o,S y o→At W0 H y o):Tri Tryz.prog 32 #[.slice fa F.length fc] W0 H (fun v H'=>v=.string (C6 F)∧H'=H):=by
 refine D6 24 Tryz.func32 ?_
 refine A2 (B9 (E':=[⟨0,[],.slice fa F.length fc⟩]) [0] [0] (k:=A1 (A2 (A3 (O0 (.agg #[.pointer none,.slice none 0 0]) (fun b1=>B5 [] [0,3] (k:=A1 (A2 ?_))))))))
 refine A2 (G_p [0,0,0] [3,6,7,8] (k:=A1 (B8 (G_heap (H':=([(b1,.cells #[.pointer none,.slice none 0 0] 110 (0,0))]::[]::H)) (fun w h=>Sat.flat h (List.Perm.refl _)) (I6 (EI:=(fun ξ:Nat × Value × Value × Grp=>[⟨3,[],pt b1⟩,⟨6,[],.slice fa F.length fc⟩,⟨7,[],.int .i64 ((F.length:Nat):Int)⟩,⟨8,[],.int .i64 ((ξ.1:Nat):Int)⟩])) (HI:=(fun ξ:Nat × Value × Value × Grp=>([(b1,.cells #[ξ.2.1,ξ.2.2.1] 110 (0,0))]::ξ.2.2.2::H))) (Φ:=(fun ξ:Nat × Value × Value × Grp=>(ξ.1≤F.length)∧(Bld b1 ξ.2.1)∧(BOwn ξ.2.2.1 ξ.2.2.2 (C6 (F.take ξ.1))))) (μ:=(fun ξ:Nat × Value × Value × Grp=>F.length - ξ.1)) (s0:=(0,.pointer none,.slice none 0 0,[])) [3,6,7,8] kr rfl ⟨(by omega),bld0,(by simpa [BOwn,C6,u8s] using Go.Sw.Own.nil)⟩ ?_)))))
 rintro ⟨k,p,v,g⟩ ⟨hk,hbp,hB⟩
 refine A2 (G_p [0] [3,6,7,8,9] (k:=A1 (A2 (D2 (b:=decide (((k:Nat):Int)<((F.length:Nat):Int))) kr (fun hc2=>?_) (fun hc2=>?_)))))
 ·
  have hlt:k<F.length:=by simp only [decide_eq_true_eq] at hc2; omega
  obtain ⟨ba,bc,hge,hgr,hgc⟩:=hF.get hlt
  obtain ⟨f,hfk⟩:∃ f,f=F[k]:=⟨_,rfl⟩
  rw [← hfk] at hge hgr hgc
  have hfm:f∈F:=by rw [hfk]; exact List.getElem_mem hlt
  refine B6 (A1 (A2 (B8 (A2 (A3 (L2 F.length ((k:Nat):Int) 2 hrd (by exact ⟨by omega,by omega,P8 hF hlt⟩) (L0 (ch:=[]) (a:=fa) (q:=k * 2) (S:=S) (cs:=cs) (l:=[.string f.1,.slice ba f.2.size bc]) (hrd:=hrd) (hS:=(fun y o h=>At.cons (At.cons (hS y o h)))) (hl:=List.cons_ne_nil _ _) (hv:=(fun _=>(elt2 hge))) (k:=O0 (.agg #[.string eB,.slice none 0 0]) (fun b3=>?_)))))))))
  refine M8 0 0 (.agg #[.string f.1,.slice ba f.2.size bc]) rfl (B5 [] [3,5,6,7,8] (k:=A1 (F4 ([(b3,.cells #[.string f.1,.slice ba f.2.size bc] 34 (0,0))]::H) kr (E2 (fuel:=9) [(0,0)] (fun w h=>(h.pkT 2 [0])) (k:=A9 1 kr (fun w h=>(h.pkT 2 [0])) (D0 0 1 rfl rfl (B4 kr rfl)) (E2 (fuel:=7) [(5,0)] (fun w h=>(h.pkT 2 [0])) (k:=A9 6 kr (fun w h=>(h.pkT 2 [0])) (D0 0 0 rfl rfl (B4 kr rfl)) (C2 2 (k:=?_)))))))))
  refine N2 31 1 [.slice ba f.2.size bc] (fun b4=>A7 kr (fun w h=>(h.pkT 3 [1])) (I0 ([(b4,.cells #[.slice ba f.2.size bc] 31 (0,0))]::[(b3,.cells #[.string f.1,.slice ba f.2.size bc] 34 (0,0))]::H) (fun w h=>(h.pk 1 [1])) (C2 3 (k:=E4 (vs:=[.slice (some ⟨b4,0,none⟩) 1 1]) Tryz.func64 (hex_ b4 ba bc S f.2.data.toList hgr (rd_non hgr) (by rw [Array.length_toList]; have:=hb f hfm; show f.2.size≤_; omega) _ _ (fun y o h=>At.cons (At.cons (At.cons (hS y o h))))) ?_))))
  rintro _ _ ⟨rfl,rfl⟩
  refine A7 kr (fun w h=>(h.pkT 2 [0,0])) (A9 4 kr (fun w h=>(h.pkT 2 [0,0])) (Z2 (hexM f.2.data.toList) (mB #[32]) (by intro _; have h5:=hz f hfm; simp only [Q6]; first | (show 64+1≤_; omega) | (show 64+1+f.1.size≤_; omega) | (show 64+1+f.1.size+1≤_; omega)) (B4 kr rfl)) (A9 7 kr (fun w h=>(h.pkT 2 [0,0])) (Z2 ((hexM f.2.data.toList)++(mB #[32])) f.1 (by intro _; have h5:=hz f hfm; simp only [ByteArray.size_append,Q6]; first | (show 64+1≤_; omega) | (show 64+1+f.1.size≤_; omega) | (show 64+1+f.1.size+1≤_; omega)) (B4 kr rfl)) (A9 8 kr (fun w h=>(h.pkT 2 [0,0])) (Z2 (((hexM f.2.data.toList)++(mB #[32]))++f.1) (mB #[10]) (by intro _; have h5:=hz f hfm; simp only [ByteArray.size_append,Q6]; first | (show 64+1≤_; omega) | (show 64+1+f.1.size≤_; omega) | (show 64+1+f.1.size+1≤_; omega)) (B4 kr rfl)) (C2 9 (k:=Z6 0 [2,2] (E4 (vs:=[pt b1,.string ((((hexM f.2.data.toList)++(mB #[32]))++f.1)++(mB #[10]))]) Tryz.func63 (writeString b1 (p) (v) g (C6 (F.take k)) ((((hexM f.2.data.toList)++(mB #[32]))++f.1)++(mB #[10])) hbp hB (by have h1:=A0i (F:=F.take k) (z:=1000000) (fun g hg=>hz g (List.mem_of_mem_take hg)); have h2:=List.length_take_le k F; have h3:(F.take k).length * (1000000+66)≤1000000 * (1000000+66):=Nat.mul_le_mul_right _ (by omega); have h4:=Z8 f; have h5:=hz f hfm; show (C6 (F.take k)).size+(R8 f).size≤_; omega) _ _) ?_))))))
  rintro _ _ ⟨rfl,v5,g6,hB7,rfl⟩
  refine A7 kr (fun w h=>(h.pk 2 [2,2])) (D8 (E':=[⟨3,[],pt b1⟩,⟨6,[],.slice fa F.length fc⟩,⟨7,[],.int .i64 ((F.length:Nat):Int)⟩,⟨8,[],.int .i64 ((k:Nat):Int)⟩]) [3,6,7,8] (k:=D3 (A1 (A3 (A5 (j:=1) [0] (k:=F0 22 (((k:Nat):Int)+1) (by omega) (by omega) kr (B5 [0] [3,6,7,8] (k:=N_pk 2 [0,0] ?_))))))))
  refine F6 (s':=((k+1),.pointer (some ⟨b1,0,none⟩),v5,g6)) [3,6,7,8] kr kr ⟨(by omega),bld1,(bown_succP hB7 hlt hfk)⟩ (by omega)
 ·
  have hge:¬ k<F.length:=by simp only [decide_eq_false_iff_not] at hc2; omega
  refine H0 (A6 (A6 (C3 (A1 (A2 (A3 (E4 (vs:=[pt b1]) Tryz.func65 (builderString b1 (p) (v) g (C6 F) (bown_allP hB (by omega)) (by have h1:=A0i (F:=F) (z:=1000000) hz; have h3:F.length * (1000000+66)≤1000000 * (1000000+66):=Nat.mul_le_mul_right _ hn; omega) _ _) ?_)))))))
  rintro _ _ ⟨rfl,rfl⟩
  refine D5 (E':=[⟨2,[],.string (C6 F)⟩]) [0] [2] (k:=A1 (C8 (G8 (fun w h=>h.erase 0) (C5 [.tmp 2] [.string (C6 F)] (k:=?_)))))
  exact ⟨rfl,rfl⟩
end Go.Proofs.YtdolpaagdpeagaaGreatDoor
namespace Go.Pr
open Go.Sw Go.Vf Go.Lib Go.Proofs.YtdolpaagdpeagaaGreatDoor
theorem V6 {p:ByteArray}:∀ {c l:List Nm},(∀ y∈c,y.1≠p)→C9 (E7 l c) p=C9 l p
  | [],_,_=>rfl
  | x::c,l,h=>by
    show C9 (E7 (Z3 l x) c) p=_
    rw [V6 fun y hy=>h y (List.mem_cons_of_mem _ hy),S6,if_neg]
    intro e
    rw [baEq] at e
    exact h x List.mem_cons_self e.symm
theorem Q5 {p:ByteArray}:∀ {ls:List (List Nm)} {l:List Nm},(∀ c∈ls,∀ y∈c,y.1≠p)→C9 (ls.foldl E7 l) p=C9 l p
  | [],_,_=>rfl
  | c::ls,l,h=>by
    show C9 (ls.foldl E7 (E7 l c)) p=_
    rw [Q5 fun x hx=>h x (List.mem_cons_of_mem _ hx),V6 (h c List.mem_cons_self)]
theorem T6 {p:ByteArray}:∀ {c l l':List Nm},C9 l p=C9 l' p→C9 (E7 l c) p=C9 (E7 l' c) p
  | [],_,_,h=>h
  | x::c,l,l',h=>by
    show C9 (E7 (Z3 l x) c) p=C9 (E7 (Z3 l' x) c) p
    exact T6 (by rw [S6,S6,h])
theorem R4 {p:ByteArray}:∀ {ls:List (List Nm)} {l l':List Nm},C9 l p=C9 l' p→C9 (ls.foldl E7 l) p=C9 (ls.foldl E7 l') p
  | [],_,_,h=>h
  | c::ls,_,_,h=>R4 (ls:=ls) (T6 (c:=c) h)
theorem ch_mem {l:List Ch} {d:ByteArray} {x:List Nm} (h:x∈H7 l d):∃ c∈l,c.dir=d∧c.l=x:=by
  unfold H7 at h
  obtain ⟨c,hc,rfl⟩:=List.mem_map.1 h
  obtain ⟨h1,h2⟩:=List.mem_filter.1 hc
  exact ⟨c,h1,(baEq.1 h2).symm,rfl⟩
theorem ch_filter (l:List Ch) (d q:ByteArray):H7 (l.filter fun c=>!(d==c.dir)) q=if d=q then [] else H7 l q:=by
  unfold H7
  rw [List.filter_filter]
  split
  · rename_i e; subst e
    rw [List.filter_eq_nil_iff.2,List.map_nil]
    intro c _ h; simp at h
  · rename_i e
    congr 1
    refine List.filter_congr fun c _=>?_
    by_cases h:q=c.dir
    · subst h
      have:(d==c.dir)=false:=by rw [beq_eq_false_iff_ne]; exact e
      rw [this]; simp
    · have:(q==c.dir)=false:=by rw [beq_eq_false_iff_ne]; exact h
      rw [this]; simp
structure Inv (M:DM):Prop where
  wd:∀ c∈M.changes,∀ y∈c.l,dirB y.1=c.dir
  coh:∀ p,C9 M.names p=C9 ((H7 M.changes (dirB p)).foldl E7 M.kept) p
def Bnd (M:DM) (p:ByteArray) (o:Option Int):Prop:=∀ j,C9 (((H7 M.changes (dirB p)).take j).foldl E7 M.kept) p=o
def Solid (M:DM) (k:Int) (c:ByteArray):Prop:=0≤k∧M.bodies[k.toNat]? = some ⟨c,c⟩
def St (M:DM) (p c:ByteArray):Prop:=∃ k,Bnd M p (some k)∧Solid M k c
def Now (M:DM) (p c:ByteArray):Prop:=∃ k,C9 M.names p=some k∧Solid M k c
theorem Bnd.look {M:DM} {p:ByteArray} {o:Option Int} (h:Bnd M p o) (hi:Inv M):C9 M.names p=o:=by
  rw [hi.coh,← h (H7 M.changes (dirB p)).length,List.take_length]
theorem St.now {M:DM} {p c:ByteArray} (h:St M p c) (hi:Inv M):Now M p c:=by
  obtain ⟨k,h1,h2⟩:=h
  exact ⟨k,h1.look hi,h2⟩
theorem Now.read {M:DM} {p c:ByteArray} (h:Now M p c):P1 M p=(c,0):=by
  obtain ⟨k,h1,h2,h3⟩:=h
  rw [readM_ok h1,I5,List.getD_eq_getElem?_getD,h3]; rfl
theorem Now.same {M:DM} {p c c':ByteArray} (h:Now M p c) (h':Now M p c'):c=c':=by
  have:=h.read.symm.trans h'.read
  injection this
theorem Inv.other {M:DM} (h:Inv M) {d p:ByteArray} (hd:dirB p≠d):∀ c∈H7 M.changes d,∀ y∈c,y.1≠p:=fun c hc y hy e=>by
  obtain ⟨C,hC,rfl,rfl⟩:=ch_mem hc
  exact hd (by rw [← e]; exact h.wd C hC y hy)
theorem bnd_change {M:DM} {p d:ByteArray} {o:Option Int} {l:List Nm} (h:Bnd M p o) (hl:∀ y∈l,y.1≠p):Bnd (P3 M d l) p o:=by
  intro j
  show C9 (((H7 (M.changes++[⟨d,l⟩]) (dirB p)).take j).foldl E7 M.kept) p=o
  rw [chOf_snoc]
  split
  · rw [List.take_append,List.foldl_append,Q5 fun c hc y hy=>by have e:=List.mem_singleton.1 (List.mem_of_mem_take hc); subst e; exact hl y hy]
    exact h j
  · exact h j
theorem inv_change {M:DM} {d:ByteArray} {l:List Nm} (h:Inv M) (hl:∀ y∈l,dirB y.1=d):Inv (P3 M d l):=by
  refine ⟨fun c hc=>?_,fun p=>?_⟩
  · rcases List.mem_append.1 (show c∈M.changes++[⟨d,l⟩] from hc) with hc | hc
    · exact h.wd c hc
    · rw [List.mem_singleton.1 hc]; exact hl
  · show C9 (E7 M.names l) p=C9 ((H7 (M.changes++[⟨d,l⟩]) (dirB p)).foldl E7 M.kept) p
    rw [chOf_snoc]
    split
    · rw [List.foldl_append]; exact T6 (h.coh p)
    · rename_i e
      rw [V6,h.coh]
      intro y hy e2
      exact e (baEq.2 (by rw [← e2]; exact hl y hy))
structure Kps (P:ByteArray→Prop) (M M':DM):Prop where
  inv:Inv M→Inv M'
  bnd:∀ p o,P p→Inv M→Bnd M p o→Bnd M' p o
  now:∀ p,P p→C9 M'.names p=C9 M.names p
  solid:∀ k c,Solid M k c→Solid M' k c
theorem Kps.refl (P:ByteArray→Prop) (M:DM):Kps P M M:=⟨id,fun _ _ _ _ h=>h,fun _ _=>rfl,fun _ _ h=>h⟩
theorem Kps.trans {P:ByteArray→Prop} {M M' M2:DM} (h:Kps P M M') (h2:Kps P M' M2):Kps P M M2 :=
  ⟨fun hi=>h2.inv (h.inv hi),fun p o hp hi hb=>h2.bnd p o hp (h.inv hi) (h.bnd p o hp hi hb),fun p hp=>(h2.now p hp).trans (h.now p hp),fun k c hs=>h2.solid k c (h.solid k c hs)⟩
theorem Kps.mono {P Q:ByteArray→Prop} {M M':DM} (h:Kps P M M') (hq:∀ p,Q p→P p):Kps Q M M' :=
  ⟨h.inv,fun p o hp=>h.bnd p o (hq p hp),fun p hp=>h.now p (hq p hp),h.solid⟩
theorem Kps.st {P:ByteArray→Prop} {M M':DM} (h:Kps P M M') (hi:Inv M) {p c:ByteArray} (hp:P p) (hs:St M p c):St M' p c:=by
  obtain ⟨k,h1,h2⟩:=hs
  exact ⟨k,h.bnd p _ hp hi h1,h.solid k c h2⟩
theorem Kps.nw {P:ByteArray→Prop} {M M':DM} (h:Kps P M M') {p c:ByteArray} (hp:P p) (hs:Now M p c):Now M' p c:=by
  obtain ⟨k,h1,h2⟩:=hs
  exact ⟨k,(h.now p hp).trans h1,h.solid k c h2⟩
theorem N8 (P:ByteArray→Prop) (M:DM) (r:Bool):Kps P M (J9 M r):=⟨fun h=>⟨h.wd,h.coh⟩,fun _ _ _ _ h=>h,fun _ _=>rfl,fun _ _ h=>h⟩
theorem kps_change {P:ByteArray→Prop} {M:DM} {d:ByteArray} {l:List Nm} (hl:∀ y∈l,dirB y.1=d∧¬ P y.1):Kps P M (P3 M d l) :=
  ⟨fun h=>inv_change h fun y hy=>(hl y hy).1,fun p o hp _ h=>bnd_change h fun y hy e=>(hl y hy).2 (by rw [e]; exact hp),fun p hp=>V6 fun y hy e=>(hl y hy).2 (by rw [e]; exact hp),fun _ _ h=>h⟩
theorem solid_snoc {M:DM} {k:Int} {c:ByteArray} (h:Solid M k c) (B:Body):Solid { M with bodies:=M.bodies++[B] } k c :=
  ⟨h.1,by
    show (M.bodies++[B])[k.toNat]? = _
    rw [List.getElem?_append_left (List.getElem?_eq_some_iff.1 h.2).1]; exact h.2⟩
theorem kps_write {P:ByteArray→Prop} (M:DM) {p:ByteArray} (hp:¬ P p) (b:ByteArray):Kps P M (E5 M p b).2:=by
  by_cases he:J0 M (A4 p)=0
  · by_cases hroom:(V0 M:Int) - (wasM M p:Int)+(b.size:Int) > M.room
    · rw [Q0 he hroom]; exact N8 P M _
    · rw [W7 he hroom]
      refine Kps.trans (M':={ J9 M (A4 p) with bodies:=M.bodies++[⟨b,ByteArray.mk #[]⟩] }) ⟨fun h=>⟨h.wd,h.coh⟩,fun _ _ _ _ h=>h,fun _ _=>rfl,fun k c h=>solid_snoc h _⟩ (kps_change fun y hy=>?_)
      rw [List.mem_singleton.1 hy]; exact ⟨rfl,hp⟩
  · rw [V8 he]; exact N8 P M _
theorem solid_set {M:DM} {k:Int} {c:ByteArray} (h:Solid M k c) (q:Int):Solid (setBody M q ⟨(I5 M q).now,(I5 M q).now⟩) k c:=by
  refine ⟨h.1,?_⟩
  show (M.bodies.set q.toNat _)[k.toNat]? = _
  by_cases e:q.toNat=k.toNat
  · have hlt:=(List.getElem?_eq_some_iff.1 h.2).1
    rw [e,List.getElem?_set_self hlt,I5,e,List.getD_eq_getElem?_getD,h.2]; rfl
  · rw [List.getElem?_set_ne e]; exact h.2
theorem kps_sync (P:ByteArray→Prop) (M:DM) (p:ByteArray):Kps P M (N5 M p).2:=by
  by_cases he:J0 M (A4 p)=0
  · cases hl:C9 M.names p with
    | none=>rw [syncM_no he hl]; exact N8 P M _
    | some k=>rw [Y4 he hl]; exact ⟨fun h=>⟨h.wd,h.coh⟩,fun _ _ _ _ h=>h,fun _ _=>rfl,fun q c h=>solid_set (M:=M) h k⟩
  · rw [S9 he]; exact N8 P M _
theorem kps_remove {P:ByteArray→Prop} (M:DM) {p:ByteArray} (hp:¬ P p):Kps P M (J6 M p).2:=by
  by_cases he:J0 M (A4 p)=0
  · cases hl:C9 M.names p with
    | none=>rw [W4 he hl]; exact N8 P M _
    | some k =>
      rw [S4 he hl]
      exact (N8 P M (A4 p)).trans (kps_change fun y hy=>by rw [List.mem_singleton.1 hy]; exact ⟨rfl,hp⟩)
  · rw [Q1 he]; exact N8 P M _
theorem ren_dir {p q:ByteArray} (h:renR p q=true):dirB p=dirB q:=by
  unfold renR at h
  simp only [Bool.and_eq_true,beq_iff_eq] at h
  exact Y8 h.2
theorem kps_rename {P:ByteArray→Prop} (M:DM) {p q:ByteArray} (hp:¬ P p) (hq:¬ P q):Kps P M (H9 M p q).2:=by
  by_cases he:J0 M (renR p q)=0
  · cases hl:C9 M.names p with
    | none=>rw [Z7 he hl]; exact N8 P M _
    | some k =>
      cases hs:p==q with
      | true=>rw [T0 he hl hs]; exact N8 P M _
      | false =>
        rw [N4 he hl hs]
        refine (N8 P M (renR p q)).trans (kps_change fun y hy=>?_)
        rcases List.mem_cons.1 hy with rfl | hy
        · exact ⟨ren_dir (err_right he),hp⟩
        · rw [List.mem_singleton.1 hy]; exact ⟨rfl,hq⟩
  · rw [M9 he]; exact N8 P M _
theorem kps_sdir (P:ByteArray→Prop) (M:DM) (d:ByteArray):Kps P M (H5 M d).2:=by
  by_cases he:J0 M (dirR d)=0
  · rw [K2 he]
    refine ⟨fun h=>⟨fun c hc=>h.wd c (List.mem_filter.1 hc).1,fun p=>?_⟩,fun p o _ hi h j=>?_,fun _ _=>rfl,fun _ _ h=>h⟩
    · show C9 M.names p=C9 ((H7 (M.changes.filter fun c=>!(d==c.dir)) (dirB p)).foldl E7 ((H7 M.changes d).foldl E7 M.kept)) p
      rw [h.coh p,ch_filter]
      split
      · rename_i e; rw [e]; rfl
      · rename_i e
        exact R4 (Q5 (h.other fun e2=>e e2.symm)).symm
    · show C9 (((H7 (M.changes.filter fun c=>!(d==c.dir)) (dirB p)).take j).foldl E7 ((H7 M.changes d).foldl E7 M.kept)) p=o
      rw [ch_filter]
      split
      · rename_i e
        rw [List.take_nil,e,← h (H7 M.changes (dirB p)).length,List.take_length]; rfl
      · rename_i e
        rw [← h j]
        exact R4 (Q5 (hi.other fun e2=>e e2.symm))
  · rw [K7 he]; exact N8 P M _
theorem bnd_sdir {M:DM} (hi:Inv M) {d p:ByteArray} (h0:(H5 M d).1=0) (hd:dirB p=d):Bnd (H5 M d).2 p (C9 M.names p):=by
  by_cases he:J0 M (dirR d)=0
  · rw [K2 he]
    intro j
    show C9 (((H7 (M.changes.filter fun c=>!(d==c.dir)) (dirB p)).take j).foldl E7 ((H7 M.changes d).foldl E7 M.kept)) p=_
    rw [ch_filter,if_pos hd.symm,List.take_nil,hi.coh p,hd]; rfl
  · rw [K7 he] at h0; exact absurd h0 he
theorem crash_no {l:List Ch} (hw:∀ c∈l,∀ y∈c.l,dirB y.1=c.dir) {p:ByteArray}:∀ {ds:List ByteArray} {ks:List Int} {K:List Nm},dirB p ∉ ds→C9 (Q8 l ds ks K) p=C9 K p
  | [],_,_,_=>rfl
  | d::ds,ks,K,h=>by
    rw [Q8,crash_no hw (fun h1=>h (List.mem_cons_of_mem _ h1)),Q5]
    intro c hc y hy e
    obtain ⟨C,hC,rfl,rfl⟩:=ch_mem (List.mem_of_mem_take hc)
    exact h (by rw [← e,hw C hC y hy]; exact List.mem_cons_self)
theorem crash_look {l:List Ch} (hw:∀ c∈l,∀ y∈c.l,dirB y.1=c.dir) {p:ByteArray}:∀ {ds:List ByteArray} {ks:List Int} {K:List Nm},ds.Nodup→∃ j,C9 (Q8 l ds ks K) p=C9 (((H7 l (dirB p)).take j).foldl E7 K) p
  | [],_,_,_=>⟨0,rfl⟩
  | d::ds,ks,K,h=>by
    rw [List.nodup_cons] at h
    rw [Q8]
    by_cases e:dirB p=d
    · subst e
      exact ⟨_,crash_no hw h.1⟩
    · obtain ⟨j,hj⟩:=crash_look hw (p:=p) (ds:=ds) (ks:=ks.drop 1) (K:=((H7 l d).take (E3 (ks.headD 0) (((H7 l d).length:Int)+1)).toNat).foldl E7 K) h.2
      refine ⟨j,hj.trans (R4 (Q5 fun c hc y hy e2=>?_))⟩
      obtain ⟨C,hC,rfl,rfl⟩:=ch_mem (List.mem_of_mem_take hc)
      exact e (by rw [← e2]; exact hw C hC y hy)
theorem crashB_solid {c:ByteArray}:∀ {Bs:List Body} {ks:List Int} {i:Nat},Bs[i]? = some ⟨c,c⟩→(O8 Bs ks).1[i]? = some ⟨c,c⟩
  | [],_,_,h=>by simp at h
  | B::Bs,ks,i,h=>by
    rw [O8]
    cases i with
    | zero =>
      rw [List.getElem?_cons_zero] at h
      injection h with h; subst h
      rw [if_neg (by dsimp only; omega)]; rfl
    | succ i =>
      rw [List.getElem?_cons_succ] at h
      split
      · exact crashB_solid h
      · exact crashB_solid h
theorem P7 (M:DM) (ks:List Int):Inv (N3 M ks):=⟨fun _ hc=>absurd hc List.not_mem_nil,fun _=>rfl⟩
theorem solid_crash {M:DM} {k:Int} {c:ByteArray} (h:Solid M k c) (ks:List Int):Solid (N3 M ks) k c:=⟨h.1,crashB_solid h.2⟩
theorem bnd_crash {M:DM} (hi:Inv M) (p:ByteArray) (ks:List Int):∃ j,Bnd (N3 M ks) p (C9 (((H7 M.changes (dirB p)).take j).foldl E7 M.kept) p):=by
  obtain ⟨j,hj⟩:=crash_look hi.wd (p:=p) (ds:=dirsOf M.changes) (ks:=(O8 M.bodies ks).2) (K:=M.kept) (dirs_nodup _)
  exact ⟨j,fun i=>by
    show C9 (((H7 [] (dirB p)).take i).foldl E7 (Q8 M.changes (dirsOf M.changes) (O8 M.bodies ks).2 M.kept)) p=_
    rw [show H7 [] (dirB p)=[] from rfl,List.take_nil]; exact hj⟩
theorem Bnd.crash {M:DM} {p:ByteArray} {o:Option Int} (h:Bnd M p o) (hi:Inv M) (ks:List Int):Bnd (N3 M ks) p o:=by
  obtain ⟨j,hj⟩:=bnd_crash hi p ks
  rwa [h j] at hj
theorem St.crash {M:DM} {p c:ByteArray} (h:St M p c) (hi:Inv M) (ks:List Int):St (N3 M ks) p c:=by
  obtain ⟨k,h1,h2⟩:=h
  exact ⟨k,h1.crash hi ks,solid_crash h2 ks⟩
theorem inv_new (room:Int):Inv (newM room):=⟨fun _ hc=>absurd hc List.not_mem_nil,fun _=>rfl⟩
theorem inv_fail {M:DM} (h:Inv M) (n:Int) (o:Bool):Inv (failM M n o):=⟨h.wd,h.coh⟩
theorem L3:∀ (A B:List (DM→Int × DM)) (M:DM),E9 (A++B) M=if (E9 A M).1 != 0 then E9 A M else E9 B (E9 A M).2
  | [],_,_=>rfl
  | f::A,B,M=>by
    show (if (f M).1 != 0 then f M else E9 (A++B) (f M).2)=if ((if (f M).1 != 0 then f M else E9 A (f M).2).1 != 0)=true then (if (f M).1 != 0 then f M else E9 A (f M).2) else E9 B (if (f M).1 != 0 then f M else E9 A (f M).2).2
    by_cases h:((f M).1 != 0)=true
    · simp only [if_pos h]
    · simp only [if_neg h]; exact L3 A B _
theorem tryP_kps {P:ByteArray→Prop}:∀ {A:List (DM→Int × DM)},(∀ f∈A,∀ M,Kps P M (f M).2)→∀ M,Kps P M (E9 A M).2
  | [],_,M=>Kps.refl P M
  | f::A,h,M=>by
    rw [E9]
    split
    · exact h f List.mem_cons_self M
    · exact (h f List.mem_cons_self M).trans (tryP_kps (fun g hg=>h g (List.mem_cons_of_mem _ hg)) _)
theorem tryP_ok {f:DM→Int × DM} {A:List (DM→Int × DM)} {M:DM} (h:(E9 (f::A) M).1=0):(f M).1=0∧E9 (f::A) M=E9 A (f M).2:=by
  rw [E9] at h
  by_cases e:(f M).1=0
  · exact ⟨e,by rw [E9,e]; rfl⟩
  · rw [if_pos (by simpa using e)] at h; exact absurd h e
theorem write_now {M:DM} {p b:ByteArray} (h:(E5 M p b).1=0):C9 (E5 M p b).2.names p=some (M.bodies.length:Int)∧(E5 M p b).2.bodies=M.bodies++[⟨b,ByteArray.mk #[]⟩]:=by
  by_cases he:J0 M (A4 p)=0
  · by_cases hroom:(V0 M:Int) - (wasM M p:Int)+(b.size:Int) > M.room
    · rw [Q0 he hroom] at h; cases h
    · rw [W7 he hroom]
      refine ⟨?_,rfl⟩
      show C9 (Z3 M.names (p,(M.bodies.length:Int))) p=_
      rw [S6,if_pos (baEq.2 rfl),if_pos (by show (0:Int)≤(M.bodies.length:Int); omega)]
  · rw [V8 he] at h; exact absurd h he
theorem sync_now {M:DM} {p:ByteArray} {k:Int} (h:(N5 M p).1=0) (hl:C9 M.names p=some k):(N5 M p).2.names=M.names∧(N5 M p).2.bodies=M.bodies.set k.toNat ⟨(I5 M k).now,(I5 M k).now⟩:=by
  by_cases he:J0 M (A4 p)=0
  · rw [Y4 he hl]; exact ⟨rfl,rfl⟩
  · rw [S9 he] at h; exact absurd h he
theorem put_now {M:DM} {p b:ByteArray} (h:(E9 (V3 p b) M).1=0):Now (E9 (V3 p b) M).2 p b:=by
  replace h:(E9 [fun M=>E5 M p b,fun M=>N5 M p] M).1=0:=h
  show Now (E9 [fun M=>E5 M p b,fun M=>N5 M p] M).2 p b
  obtain ⟨h1,e1⟩:=tryP_ok h
  rw [e1] at h ⊢
  obtain ⟨h2,e2⟩:=tryP_ok h
  rw [e2]
  obtain ⟨g1,g2⟩:=write_now h1
  obtain ⟨g3,g4⟩:=sync_now h2 g1
  refine ⟨M.bodies.length,by show C9 (N5 (E5 M p b).2 p).2.names p=_; rw [g3]; exact g1,by omega,?_⟩
  show (N5 (E5 M p b).2 p).2.bodies[((M.bodies.length:Nat):Int).toNat]? = _
  rw [g4,I5,g2,Int.toNat_natCast]
  simp
theorem kps_put {P:ByteArray→Prop} {p:ByteArray} (hp:¬ P p) (b:ByteArray):∀ f∈V3 p b,∀ M,Kps P M (f M).2:=fun f hf M=>by
  rcases List.mem_cons.1 hf with rfl | hf
  · exact kps_write M hp b
  · rw [List.mem_singleton.1 hf]; exact kps_sync P M p
theorem puts_mem {n:Int} {f:DM→Int × DM}:∀ {l:List FB},f∈S5 n l→∃ x∈l,f∈V3 (inG n x.1) x.2
  | x::l,h=>by
    rcases List.mem_append.1 h with h | h
    · exact ⟨x,List.mem_cons_self,h⟩
    · obtain ⟨y,hy,h2⟩:=puts_mem h
      exact ⟨y,List.mem_cons_of_mem _ hy,h2⟩
theorem puts_now {n:Int} (hinj:∀ x y,inG n x=inG n y→x=y):∀ {l:List FB} {M:DM},(l.map Prod.fst).Nodup→(E9 (S5 n l) M).1=0→∀ x∈l,Now (E9 (S5 n l) M).2 (inG n x.1) x.2
  | [],_,_,_,_,hx=>absurd hx List.not_mem_nil
  | y::l,M,hn,h,x,hx=>by
    rw [List.map_cons,List.nodup_cons] at hn
    show Now (E9 (V3 (inG n y.1) y.2++S5 n l) M).2 _ _
    replace h:(E9 (V3 (inG n y.1) y.2++S5 n l) M).1=0:=h
    rw [L3] at h ⊢
    by_cases e:(E9 (V3 (inG n y.1) y.2) M).1=0
    · have e':((E9 (V3 (inG n y.1) y.2) M).1 != 0)=false:=by rw [e]; rfl
      rw [e',if_neg Bool.false_ne_true] at h ⊢
      rcases List.mem_cons.1 hx with rfl | hx
      · refine (tryP_kps (P:=fun q=>q=inG n x.1) (fun f hf M=>?_) _).nw rfl (put_now e)
        obtain ⟨z,hz,hf⟩:=puts_mem hf
        exact kps_put (p:=inG n z.1) (fun e=>hn.1 (List.mem_map.2 ⟨z,hz,hinj _ _ e⟩)) _ f hf M
      · exact puts_now hinj hn.2 h x hx
    · rw [if_pos (by simpa using e)] at h; exact absurd h e
end Go.Pr
