/- XmlTexts: any text stands in an element and in a value as it is, line ends alone turned. The row, and its card, which ties what the library's tables hold to the program's text. No condition beyond the given statement's. (and what it stands on) -/
import Derived.Test.YtppgfiklmfoaeaaGreatDoorZ4
import Derived.Lib.Strings
namespace Go.Sw
def cellOk (P:Program) (t:TypeId):Value→Value→Bool
  | .string _,.string _=>(match P.underlying t with | some .string=>true | _=>false)
  | .bool _,.bool _=>(match P.underlying t with | some .bool=>true | _=>false)
  | _,_=>false
def fldOk (P:Program):List Field→Nat→List Value→List Value→Bool
  | [],_,[],[]=>true
  | f :: fs, i, a :: xs, b :: ys => f.name != "_" && f.offset == i && cellOk P f.type a b && fldOk P fs (i + 1) xs ys
  | _,_,_,_=>false
def cellEq:Value→Value→Bool
  | .string a,.string b=>a.toList==b.toList
  | .bool a,.bool b=>a==b
  | _,_=>true
def T4:List Value→List Value→Bool
  | a::xs,b::ys=>cellEq a b&&T4 xs ys
  | _,_=>true
theorem part_one {P:Program} {t:TypeId} {A:Array Value} {i:Nat} {v:Value} (w:World) (ht:P.underlying t=some .string∨P.underlying t=some .bool) (h:A[i]? = some v):(part t A i).run P w=.ok v w:=by
  unfold part isAgg
  rcases ht with ht | ht <;> simp [run_underlying ht,h]
theorem eqB_b (a b:ByteArray):(a==b)=(a.toList==b.toList):=by
  rw [Go.Lib.toList_data,Go.Lib.toList_data]
  show (a.data==b.data)=_
  rw [Bool.eq_iff_iff,beq_iff_eq,beq_iff_eq]
  exact ⟨fun h=>by rw [h],fun h=>Array.ext' h⟩
theorem cellOk_eq {P:Program} {t:TypeId} {a b:Value} (h:cellOk P t a b=true) (w:World) (d:Nat):(P.underlying t=some .string∨P.underlying t=some .bool)∧(Op.equalIn (d+1) t a b).run P w=.ok (cellEq a b) w:=by
  unfold cellOk at h
  split at h
  · split at h
    · rename_i ht; refine ⟨.inl ht,?_⟩
      rw [Op.equalIn]
      simp only [Sem.run_bind,run_underlying ht,Result.andThen_ok]
      show Result.ok _ w=_
      rw [eqB_b]; rfl
    · cases h
  · split at h
    · rename_i ht; refine ⟨.inr ht,?_⟩
      rw [Op.equalIn]
      simp only [Sem.run_bind,run_underlying ht,Result.andThen_ok]
      rfl
    · cases h
  · cases h
theorem cellsEq_same:∀ A:List Value,T4 A A=true
  | []=>rfl
  | a::A=>by
    rw [T4,cellsEq_same A,Bool.and_true]
    cases a <;> first | rfl | exact beq_self_eq_true _
theorem run_flds {P : Program} (w : World) (A B : Array Value) (F : Field → Option Bool × Unit → Sem (ForInStep (Option Bool × Unit))) (hF : ∀ f a b, A[f.offset]? = some a → B[f.offset]? = some b → f.name ≠ "_" → cellOk P f.type a b = true → (F f (none, ())).run P w = .ok (if cellEq a b then .yield (none, ()) else .done (some false, ())) w) :
    ∀ (fs:List Field) (i:Nat) (xs ys:List Value),fldOk P fs i xs ys=true→(∀ j v,xs[j]? = some v→A[i+j]? = some v)→(∀ j v,ys[j]? = some v→B[i+j]? = some v)→(forIn fs (none,()) F).run P w=.ok (if T4 xs ys then (none,()) else (some false,())) w
  | [],i,[],[],h,_,_=>rfl
  | [],i,[],_::_,h,_,_=>by cases h
  | [],i,_::_,_,h,_,_=>by unfold fldOk at h; cases h
  | _::_,i,[],_,h,_,_=>by unfold fldOk at h; cases h
  | _::_,i,_::_,[],h,_,_=>by unfold fldOk at h; cases h
  | f::fs,i,a::xs,b::ys,h,hA,hB=>by
    rw [fldOk,Bool.and_eq_true,Bool.and_eq_true,Bool.and_eq_true] at h
    obtain ⟨⟨⟨h1,h2⟩,h3⟩,h4⟩:=h
    have ho:f.offset=i:=by simpa using h2
    have hf:=hF f a b (by rw [ho]; exact hA 0 a rfl) (by rw [ho]; exact hB 0 b rfl) (by simpa using h1) h3
    have ih:=run_flds w A B F hF fs (i+1) xs ys h4 (fun j v hv=>by rw [Nat.add_assoc,Nat.add_comm 1]; exact hA (j+1) v hv) (fun j v hv=>by rw [Nat.add_assoc,Nat.add_comm 1]; exact hB (j+1) v hv)
    rw [List.forIn_cons,Sem.run_bind,hf,Result.andThen_ok]
    rw [T4]
    cases cellEq a b
    · rfl
    · simp only [if_true,Bool.true_and]; exact ih
theorem run_eqAgg {P:Program} (A B:Array Value) (w:World) (t:TypeId) (fs:Array Field) (ht:P.underlying t=some (.struct fs)) (hst:P.stoodInHeld t=false) (h:fldOk P fs.toList 0 A.toList B.toList=true) (d:Nat) :
    (Op.equalIn (d+2) t (.agg A) (.agg B)).run P w=.ok (T4 A.toList B.toList) w:=by
  rw [Op.equalIn]
  simp only [Sem.run_bind,run_underlying ht,Result.andThen_ok]
  rw [show (program).run P w=.ok P w from rfl]
  simp only [Result.andThen_ok,hst]
  rw [if_neg (by decide)]
  simp only [Sem.run_bind]
  rw [← Array.forIn_toList,run_flds w A B _ ?_ fs.toList 0 A.toList B.toList h (fun j v hv=>by rw [Nat.zero_add,← Array.getElem?_toList]; exact hv) (fun j v hv=>by rw [Nat.zero_add,← Array.getElem?_toList]; exact hv)]
  · cases T4 A.toList B.toList <;> rfl
  · intro f a b ha hb hn hc
    obtain ⟨h1,h2⟩:=cellOk_eq hc w d
    rw [if_pos hn]
    simp only [Sem.run_bind,part_one w h1 ha,part_one w h1 hb,h2,Result.andThen_ok]
    cases cellEq a b <;> rfl
def isEqT (P:Program) (t:TypeId) (xs ys:List Value):Bool:=match P.underlying t with
  | some (.struct fs)=>fldOk P fs.toList 0 xs ys&&!P.stoodInHeld t&&!P.eqGuardType P.depth t
  | _=>false
theorem run_binAgg {P:Program} (A B:List Value) (w:World) (t:TypeId) (h:isEqT P t A B=true) (ne:Bool) (x y:Operand) :
    (binOp (if ne then .neq else .eql) t (.agg A.toArray) (.agg B.toArray)).run P w=.ok (.bool (bif ne then !T4 A B else T4 A B)) w∧(eqGuard (if ne then .neq else .eql) t x y (.agg A.toArray) (.agg B.toArray)).run P w=.ok () w:=by
  unfold isEqT at h
  split at h
  · rename_i fs ht
    rw [Bool.and_eq_true,Bool.and_eq_true,Bool.not_eq_true',Bool.not_eq_true'] at h
    obtain ⟨⟨h1,h2⟩,h3⟩:=h
    have hr:=run_eqAgg A.toArray B.toArray w t fs ht h2 h1 9998
    constructor
    · cases ne
      · show (do pure (Value.bool (← Op.equal t (.agg A.toArray) (.agg B.toArray)))).run P w=_
        unfold Op.equal Op.maxDepth
        rw [Sem.run_bind,hr,Result.andThen_ok]; simp
      · show (do pure (Value.bool (!(← Op.equal t (.agg A.toArray) (.agg B.toArray))))).run P w=_
        unfold Op.equal Op.maxDepth
        rw [Sem.run_bind,hr,Result.andThen_ok]; simp
    · unfold eqGuard
      have hp:(program).run P w=.ok P w:=rfl
      cases ne <;> simp [hp,h3]
  · cases h
theorem GL_eqAgg {d:Bool} {P:Program} {ops:Array Oper} {i:Nat} {Q:E0} {n:Fr} {E:Env} {W0:World} {H:List Grp} {o:Oper} {ch:List (Nat × Bool)} {t t2:TypeId} {x y:Operand} {A B:List Value} {r:Bool} (ne:Bool)
    (ho:ops[i]? = some o) (hop:o.op=.binOp (if ne then .neq else .eql) t x y t2) (hx:evO E ch x=some (.agg A.toArray)) (hy:evO E ch y=some (.agg B.toArray)) (ht:isEqT P t A B=true) (hr:(bif ne then !T4 A B else T4 A B)=r)
    (hch:D0 ops E o.guard=some ch) (hd:F1 n ch o.dst=true) (hk:I8 E ch=true)
    (k:GL d P ops (i+1) Q n (Env.put E o.dst ch (.bool r)) W0 H):GL d P ops i Q n E W0 H:=by
  refine H9 ho hch hd hk (fun r hr _ w hsat=>?_) k
  unfold execOp
  simp only [hop]
  rw [hr _ _ hx,hr _ _ hy]
  obtain ⟨h1,h2⟩:=run_binAgg (P:=P) A B w t ht ne x y
  subst_vars
  simp only [Sem.run_bind,h2,h1,Result.andThen_ok]
  exact ⟨rfl,rfl⟩
end Go.Sw
namespace Go.Xml
open Go.Esc Go.Json Go.Lib
theorem fst_ne {c:UInt8} (h:fstX c=true):c≠47∧c≠62∧c≠33∧c≠63∧c≠60∧c≠91:=by
  refine ⟨?_,?_,?_,?_,?_,?_⟩ <;> (rintro rfl; revert h; decide)
end Go.Xml
namespace Go.Xml
open Go.Esc Go.Json Go.Lib
def arE (l:List UInt8):Option (List UInt8):=M6 (l.length+1) l
theorem aside_lt' {l r:List UInt8} (h:P7 l=some (some r)):r.length<l.length:=by
  have h1:=aside_ok (l:=l)
  rw [h] at h1
  have h2:=aside_lt (q:=(l,0)) (by rw [h1])
  rw [h1] at h2; exact h2
theorem around_fuel:∀ (n m:Nat) (l:List UInt8),l.length<n→l.length<m→M6 n l=M6 m l
  | 0,_,_,h,_=>absurd h (by omega)
  | _,0,_,_,h=>absurd h (by omega)
  | n+1,m+1,l,hn,hm=>by
    rw [M6,M6]
    cases ha:P7 (blk l) with
    | none=>rfl
    | some o =>
      cases o with
      | none=>rfl
      | some r =>
        have h1:=aside_lt' ha
        have h2:=W8 l
        exact around_fuel n m r (by omega) (by omega)
theorem arE_step (l:List UInt8):arE l=match P7 (blk l) with | none=>none | some (some r)=>arE r | some none=>some (blk l):=by
  unfold arE
  rw [M6]
  cases ha:P7 (blk l) with
  | none=>rfl
  | some o =>
    cases o with
    | none=>rfl
    | some r =>
      have h1:=aside_lt' ha
      have h2:=W8 l
      exact around_fuel _ _ r (by omega) (by omega)
def Amb (s:List UInt8):Prop:=(∀ l,arE (s++l)=arE l)∧Pl s
theorem Amb.nil:Amb []:=⟨fun _=>rfl,Pl.nil⟩
theorem Amb.app {a b:List UInt8} (ha:Amb a) (hb:Amb b):Amb (a++b):=⟨fun l=>by rw [List.append_assoc,ha.1,hb.1],ha.2.app hb.2⟩
theorem bom_ne {c:UInt8} {u:List UInt8} (h:c≠239):F2 (c::u)=c::u:=by
  unfold F2
  rw [if_neg (by intro h9; simp at h9; exact h h9.1.symm)]
theorem par_mk {l:List UInt8} (hl:l.length≤65536) (hp:Pl (F2 l)) {c:UInt8} {u r2:List UInt8} {x:XN} (h1:arE (F2 l)=some (60::c::u)) (h2:elE 24 H8 (c::u)=.ok (x,r2)):parE l=match arE r2 with | none=>(T9,70) | some r3=>if r3=[] then (x,0) else (T9,70):=by
  unfold parE
  rw [if_neg (by omega),if_neg (by rintro (h | h); rw [pl_valid hp] at h; cases h; exact h (pl_plain hp))]
  change (match arE (F2 l) with | none=>_ | some r=>_)=_
  rw [h1]
  dsimp only
  rw [show mustE [60] (60::c::u)=some (c::u) from rfl]
  dsimp only
  rw [h2]; rfl
end Go.Xml
namespace Go.Xml
open Go.Esc Go.Json Go.Lib
mutual
def cnX:XN→Nat
  | .mk _ _ ats l _=>1+ats.length+cnXL l
def cnXL:List XN→Nat
  | []=>0
  | v::l=>cnX v+cnXL l
end
theorem cnX_eq (s n:List UInt8) (ats:List XA) (l:List XN) (t:List UInt8):cnX (.mk s n ats l t)=1+ats.length+cnXL l:=by simp only [cnX]
theorem cnXL_cons (v:XN) (l:List XN):cnXL (v::l)=cnX v+cnXL l:=by simp only [cnXL]
theorem cnX_pos (v:XN):0<cnX v:=by cases v; rw [cnX_eq]; omega
theorem cnX_sum (x:XN):cnX x=1+x.attrs.length+cnXL x.kids:=by cases x; exact cnX_eq _ _ _ _ _
theorem cnXL_len:∀ l:List XN,l.length≤cnXL l
  | []=>Nat.zero_le _
  | v::l=>by have:=cnXL_len l; have:=cnX_pos v; rw [cnXL_cons,List.length_cons]; omega
theorem cnX_parts (x:XN):x.attrs.length+x.kids.length+1≤cnX x:=by
  have:=cnXL_len x.kids
  rw [cnX_sum]; omega
theorem cnXL_at:∀ {l:List XN} {i:Nat} (h:i<l.length),cnX l[i]≤cnXL l
  | [],_,h=>absurd h (Nat.not_lt_zero _)
  | v::l,0,_=>by rw [cnXL_cons]; show cnX v≤_; omega
  | v::l,i+1,h=>by
    have hi:i<l.length:=by simpa using h
    have:=cnXL_at hi
    rw [cnXL_cons]; show cnX l[i]≤_; omega
theorem cnX_kid {x:XN} {i:Nat} (h:i<x.kids.length):cnX x.kids[i]<cnX x:=by
  have:=cnXL_at h
  rw [cnX_sum x]; omega
mutual
theorem cnX_wt:∀ x:XN,cnX x≤wtX x
  | .mk s n ats l t=>by
    have h1:=cnXL_wt l
    have h2:=wtA_len ats
    rw [cnX_eq,wtX_eq]; omega
theorem cnXL_wt:∀ l:List XN,cnXL l≤wtXL l
  | []=>Nat.le_refl _
  | v::l=>by
    have h1:=cnX_wt v
    have h2:=cnXL_wt l
    rw [cnXL_cons,M8]; omega
end
end Go.Xml
namespace Go.Proofs.YtppgfiklmfoaeaaGreatDoor
open Go.Sw Go.Sha Go.Esc Go.RowKit Go.Json Go.Xml
theorem xsameW_ (x:XN) (an:Option Addr) (cn:Nat) (al:Option Addr) (cl:Nat) (cs:List Value) (S:Nat→Obj→Prop) (hra:Rd S an (xaV x.attrs)) (hrl:Rd S al cs) (hrc:XRdL S x.kids cs) (an2:Option Addr) (cn2:Nat) (al2:Option Addr) (cl2:Nat) (cs2:List Value) (S2:Nat→Obj→Prop) (hra2:Rd S2 an2 (xaV x.attrs)) (hrl2:Rd S2 al2 cs2) (hrc2:XRdL S2 x.kids cs2) (hw:cnX x≤100000000) (hrec:∀ (y:XN),cnX y<cnX x→cnX y≤100000000→∀ (an:Option Addr) (cn:Nat) (al:Option Addr) (cl:Nat) (cs:List Value),Rd S an (xaV y.attrs)→Rd S al cs→XRdL S y.kids cs→∀ (an2:Option Addr) (cn2:Nat) (al2:Option Addr) (cl2:Nat) (cs2:List Value),Rd S2 an2 (xaV y.attrs)→Rd S2 al2 cs2→XRdL S2 y.kids cs2→∀ (W0:World) (H:List Grp),(∀ z o,S z o→At W0 H z o)→(∀ z o,S2 z o→At W0 H z o)→Tri Tryz.prog 31 #[.agg (xvC y an cn al cl).toArray,.agg (xvC y an2 cn2 al2 cl2).toArray] W0 H (fun v H'=>v=.bool true∧H'=H)) (W0:World) (H:List Grp) (hS:∀ y o,S y o→At W0 H y o) (hS2:∀ y o,S2 y o→At W0 H y o):Tri Tryz.prog 31 #[.agg #[.string (bk x.space),.string (bk x.name),.slice an x.attrs.length cn,.slice al x.kids.length cl,.string (bk x.text)],.agg #[.string (bk x.space),.string (bk x.name),.slice an2 x.attrs.length cn2,.slice al2 x.kids.length cl2,.string (bk x.text)]] W0 H (fun v H'=>v=.bool true∧H'=H):=by
 have hpx:=cnX_parts x
 refine D3 81 Tryz.func31 ?_
 refine A1 (A2 (T7 (.agg #[.string (bk x.space),.string (bk x.name),.slice an x.attrs.length cn,.slice al x.kids.length cl,.string (bk x.text)]) (fun b1=>T7 (.agg #[.string (bk x.space),.string (bk x.name),.slice an2 x.attrs.length cn2,.slice al2 x.kids.length cl2,.string (bk x.text)]) (fun b2=>?_))))
 refine B1 (E':=[⟨2,[],pt b1⟩,⟨3,[],pt b2⟩]) [0] [2,3] (k:=A0 (A1 (A1 (A2 (A3 (j:=1) [0] (k:=C6 1 0 rfl rfl (A3 (j:=3) [0] (k:=C6 0 0 rfl rfl ?_))))))))
 refine A3 (j:=7) [0,0,0] (k:=C5 (ch:=[(12,false)]) (b:=b1) (off:=1) (v:=.string (bk x.name)) (hA:=At.grp 1 0 rfl rfl) (k:=A3 (j:=9) [0] (k:=C5 (ch:=[(12,false)]) (b:=b2) (off:=1) (v:=.string (bk x.name)) (hA:=At.grp 0 0 rfl rfl) (k:=A3 (j:=14) [0,5,0,0] (k:=C5 (ch:=[(19,false)]) (b:=b1) (off:=4) (v:=.string (bk x.text)) (hA:=At.grp 1 0 rfl rfl) (k:=A3 (j:=16) [0] (k:=C5 (ch:=[(19,false)]) (b:=b2) (off:=4) (v:=.string (bk x.text)) (hA:=At.grp 0 0 rfl rfl) (k:=A3 (j:=21) [0,5,0,0] (k:=?_)))))))))
 refine C5 (ch:=[(26,false)]) (b:=b1) (off:=2) (v:=.slice an x.attrs.length cn) (hA:=At.grp 1 0 rfl rfl) (k:=A3 (j:=24) [0,0] (k:=C5 (ch:=[(26,false)]) (b:=b2) (off:=2) (v:=.slice an2 x.attrs.length cn2) (hA:=At.grp 0 0 rfl rfl) (k:=A3 (j:=30) [0,0,5,0,0] (k:=C5 (ch:=[(35,false)]) (b:=b1) (off:=3) (v:=.slice al x.kids.length cl) (hA:=At.grp 1 0 rfl rfl) (k:=A3 (j:=33) [0,0] (k:=C5 (ch:=[(35,false)]) (b:=b2) (off:=3) (v:=.slice al2 x.kids.length cl2) (hA:=At.grp 0 0 rfl rfl) (k:=A7 [0,0,5] [2,3,43] (k:=A0 ?_))))))))
 refine B2 (b:=((((!((bk x.space).toList==(bk x.space).toList))||(!((bk x.name).toList==(bk x.name).toList)))||(!((bk x.text).toList==(bk x.text).toList)))||(((x.attrs.length:Nat):Int) != ((x.attrs.length:Nat):Int)))||(((x.kids.length:Nat):Int) != ((x.kids.length:Nat):Int))) kr (fun hc3=>?_) (fun hc3=>?_)
 ·
  simp at hc3
 ·
  skip
  refine A8 (A0 (A1 (A1 (A2 (A3 (j:=1) [0] (k:=C6 1 2 rfl rfl (A7 [0,0] [2,3,46,47] (k:=A0 ?_))))))))
  refine B4 (J7 (EI:=(fun ξ:Nat=>[⟨2,[],pt b1⟩,⟨3,[],pt b2⟩,⟨46,[],.int .i64 ((x.attrs.length:Nat):Int)⟩,⟨47,[],.int .i64 ((ξ:Nat):Int)⟩])) (HI:=(fun ξ:Nat=>([(b2,.cells #[.string (bk x.space),.string (bk x.name),.slice an2 x.attrs.length cn2,.slice al2 x.kids.length cl2,.string (bk x.text)] 55 (0,0))]::[(b1,.cells #[.string (bk x.space),.string (bk x.name),.slice an x.attrs.length cn,.slice al x.kids.length cl,.string (bk x.text)] 55 (0,0))]::H))) (Φ:=(fun ξ:Nat=>(ξ≤x.attrs.length))) (μ:=(fun ξ:Nat=>x.attrs.length - ξ)) (s0:=(0)) [2,3,46,47] kr rfl (Nat.zero_le _) ?_)
  rintro k hkl
  refine A1 (G_p [0] [2,3,46,47,48] (k:=A0 (A1 (B2 (b:=decide (((k:Nat):Int)<((x.attrs.length:Nat):Int))) kr (fun hc4=>?_) (fun hc4=>?_)))))
  ·
   have hk:k<x.attrs.length:=by have:=hc4; simp only [decide_eq_true_eq] at this; omega
   obtain ⟨y,hy⟩:∃ y,y=x.attrs[k]'hk:=⟨_,rfl⟩
   refine A8 (A0 (A1 (B4 (A1 (G_p [0,0] [2,3,5,46,47] (k:=A0 (A1 (I1 (k:=?_)))))))))
   refine A3 (j:=1) [0] (k:=C6 1 2 rfl rfl (A3 (j:=3) [0] (k:=E6 x.attrs.length ((k:Nat):Int) 3 hra (by exact ⟨by omega,by omega,by intro h; have h2:=congrArg List.length h; rw [xaV_len] at h2; simp only [List.length_nil] at h2; omega⟩) (K0 (ch:=[]) (a:=an) (q:=k * 3) (S:=S) (cs:=(xaV x.attrs)) (l:=[.string (bk y.space),.string (bk y.name),.string (bk y.value)]) (hrd:=hra) (hS:=(fun y o h=>At.cons (At.cons ((hS y o h))))) (hl:=List.cons_ne_nil _ _) (hv:=(fun _=>(elt3 (by rw [hy]; exact xaV_at hk)))) (k:=A3 (j:=6) [0] (k:=C6 0 2 rfl rfl (A3 (j:=8) [0] (k:=E6 x.attrs.length ((k:Nat):Int) 3 hra2 (by exact ⟨by omega,by omega,by intro h; have h2:=congrArg List.length h; rw [xaV_len] at h2; simp only [List.length_nil] at h2; omega⟩) ?_))))))))
   refine K0 (ch:=[]) (a:=an2) (q:=k * 3) (S:=S2) (cs:=(xaV x.attrs)) (l:=[.string (bk y.space),.string (bk y.name),.string (bk y.value)]) (hrd:=hra2) (hS:=(fun y o h=>At.cons (At.cons ((hS2 y o h))))) (hl:=List.cons_ne_nil _ _) (hv:=(fun _=>(elt3 (by rw [hy]; exact xaV_at hk)))) (k:=GL_eqAgg true (i:=10) (ch:=[]) (A:=[.string (bk y.space),.string (bk y.name),.string (bk y.value)]) (B:=[.string (bk y.space),.string (bk y.name),.string (bk y.value)]) (r:=false) rfl rfl kr kr kr (by rw [cellsEq_same]; rfl) kr kr kr (A7 [] [2,3,46,47,60] (k:=A0 (C8 kr (A8 (B7 (A0 (A2 ?_))))))))
   refine A3 (j:=1) [0] (k:=D1 61 (((k:Nat):Int)+1) (by omega) (by omega) kr (A7 [0] [2,3,46,47] (k:=D2 (s':=(k+1)) [2,3,46,47] kr rfl (by omega) (by omega))))
  ·
   have hk:x.attrs.length≤k:=by have:=hc4; simp only [decide_eq_false_iff_not] at this; omega
   refine E8 (A6 (A6 (B5 (A0 (A1 (A1 (A2 (A3 (j:=1) [0] (k:=?_)))))))))
   refine C6 1 3 rfl rfl (A7 [0,0] [2,3,64,65] (k:=A0 (B4 (J7 (EI:=(fun ξ:Nat=>[⟨2,[],pt b1⟩,⟨3,[],pt b2⟩,⟨64,[],.int .i64 ((x.kids.length:Nat):Int)⟩,⟨65,[],.int .i64 ((ξ:Nat):Int)⟩])) (HI:=(fun ξ:Nat=>([(b2,.cells #[.string (bk x.space),.string (bk x.name),.slice an2 x.attrs.length cn2,.slice al2 x.kids.length cl2,.string (bk x.text)] 55 (0,0))]::[(b1,.cells #[.string (bk x.space),.string (bk x.name),.slice an x.attrs.length cn,.slice al x.kids.length cl,.string (bk x.text)] 55 (0,0))]::H))) (Φ:=(fun ξ:Nat=>(ξ≤x.kids.length))) (μ:=(fun ξ:Nat=>x.kids.length - ξ)) (s0:=(0)) [2,3,64,65] kr rfl (Nat.zero_le _) ?_))))
   rintro k hkl
   refine A1 (G_p [0] [2,3,64,65,66] (k:=A0 (A1 (B2 (b:=decide (((k:Nat):Int)<((x.kids.length:Nat):Int))) kr (fun hc6=>?_) (fun hc6=>?_)))))
   ·
    have hk:k<x.kids.length:=by have:=hc6; simp only [decide_eq_true_eq] at this; omega
    obtain ⟨y,yan,ycn,yal,ycl,ycs,hyx,hye,hya,hyl,hyc,hycn⟩:=hrc.get hk
    have hyw:cnX y<cnX x:=by rw [hyx]; exact cnX_kid hk
    obtain ⟨y2,yan2,ycn2,yal2,ycl2,ycs2,hyx2,hye2,hya2,hyl2,hyc2,hycn2⟩:=hrc2.get hk
    have hyy:y2=y:=hyx2.trans hyx.symm
    rw [hyy] at hye2 hya2 hyc2
    refine A8 (A0 (A1 (B4 (A1 (G_p [0,0] [2,3,6,64,65] (k:=A0 (A1 (I1 (k:=?_)))))))))
    refine A3 (j:=1) [0] (k:=C6 1 3 rfl rfl (A3 (j:=3) [0] (k:=E6 x.kids.length ((k:Nat):Int) 5 hrl (by first | exact ⟨by omega,by omega,by intro h; have h2:=congrArg List.length h; rw [hrc.len] at h2; simp only [List.length_nil] at h2; omega⟩ | exact ⟨by omega,by omega,by intro h; have h2:=congrArg List.length h; rw [hrc2.len] at h2; simp only [List.length_nil] at h2; omega⟩) (K0 (ch:=[]) (a:=al) (q:=k * 5) (S:=S) (cs:=cs) (l:=[.string (bk y.space),.string (bk y.name),.slice yan y.attrs.length ycn,.slice yal y.kids.length ycl,.string (bk y.text)]) (hrd:=hrl) (hS:=(fun y o h=>At.cons (At.cons ((hS y o h))))) (hl:=List.cons_ne_nil _ _) (hv:=(fun _=>(elt5 hye))) (k:=A3 (j:=6) [0] (k:=C6 0 3 rfl rfl (A3 (j:=8) [0] (k:=E6 x.kids.length ((k:Nat):Int) 5 hrl2 (by first | exact ⟨by omega,by omega,by intro h; have h2:=congrArg List.length h; rw [hrc.len] at h2; simp only [List.length_nil] at h2; omega⟩ | exact ⟨by omega,by omega,by intro h; have h2:=congrArg List.length h; rw [hrc2.len] at h2; simp only [List.length_nil] at h2; omega⟩) ?_))))))))
    refine K0 (ch:=[]) (a:=al2) (q:=k * 5) (S:=S2) (cs:=cs2) (l:=[.string (bk y.space),.string (bk y.name),.slice yan2 y.attrs.length ycn2,.slice yal2 y.kids.length ycl2,.string (bk y.text)]) (hrd:=hrl2) (hS:=(fun y o h=>At.cons (At.cons ((hS2 y o h))))) (hl:=List.cons_ne_nil _ _) (hv:=(fun _=>(elt5 hye2))) (k:=K9 Tryz.func31 (hrec y hyw (by omega) yan ycn yal ycl ycs hya hyl hyc yan2 ycn2 yal2 ycl2 ycs2 hya2 hyl2 hyc2 _ _ (fun y o h=>At.cons (At.cons ((hS y o h)))) (fun y o h=>At.cons (At.cons ((hS2 y o h))))) (A7 [0] [2,3,64,65,79] (k:=A0 (C8 kr (A8 (B7 (A0 (A2 ?_))))))))
    refine A3 (j:=1) [0] (k:=D1 80 (((k:Nat):Int)+1) (by omega) (by omega) kr (A7 [0] [2,3,64,65] (k:=D2 (s':=(k+1)) [2,3,64,65] kr rfl (by omega) (by omega))))
   ·
    have hk:x.kids.length≤k:=by have:=hc6; simp only [decide_eq_false_iff_not] at this; omega
    refine E8 (A6 (A6 (B5 (A0 (A1 (C1 (E':=[⟨4,[],.bool true⟩]) [0] [4] (k:=A0 (B9 ?_))))))))
    refine F9 2 [] (B6 [.tmp 4] [.bool true] (k:=?_))
    exact ⟨rfl,rfl⟩
theorem xsame_:∀ (n:Nat) (x:XN),cnX x≤n→cnX x≤100000000→∀ (an:Option Addr) (cn:Nat) (al:Option Addr) (cl:Nat) (cs:List Value) (S:Nat→Obj→Prop),Rd S an (xaV x.attrs)→Rd S al cs→XRdL S x.kids cs→∀ (an2:Option Addr) (cn2:Nat) (al2:Option Addr) (cl2:Nat) (cs2:List Value) (S2:Nat→Obj→Prop),Rd S2 an2 (xaV x.attrs)→Rd S2 al2 cs2→XRdL S2 x.kids cs2→∀ (W0:World) (H:List Grp),(∀ z o,S z o→At W0 H z o)→(∀ z o,S2 z o→At W0 H z o)→Tri Tryz.prog 31 #[.agg (xvC x an cn al cl).toArray,.agg (xvC x an2 cn2 al2 cl2).toArray] W0 H (fun v H'=>v=.bool true∧H'=H)
  | 0,x,h,_,_,_,_,_,_,_,_,_,_,_,_,_,_,_,_,_,_,_,_,_,_,_=>absurd (cnX_pos x) (by omega)
  | n+1,x,h,hd,an,cn,al,cl,cs,S,h1,h2,h3,an2,cn2,al2,cl2,cs2,S2,k1,k2,k3,W0,H,hS,hS2=>xsameW_ x an cn al cl cs S h1 h2 h3 an2 cn2 al2 cl2 cs2 S2 k1 k2 k3 hd (fun y hy hdy an cn al cl cs h1 h2 h3 an2 cn2 al2 cl2 cs2 k1 k2 k3 W0 H hS hS2=>xsame_ n y (by omega) hdy an cn al cl cs S h1 h2 h3 an2 cn2 al2 cl2 cs2 S2 k1 k2 k3 W0 H hS hS2) W0 H hS hS2
theorem xsameC (x:XN) (hd:cnX x≤100000000) (c c2:List Value) (S S2:Nat→Obj→Prop) (h:XRd S x c) (h2:XRd S2 x c2) (W0:World) (H:List Grp) (hS:∀ z o,S z o→At W0 H z o) (hS2:∀ z o,S2 z o→At W0 H z o):Tri Tryz.prog 31 #[.agg c.toArray,.agg c2.toArray] W0 H (fun v H'=>v=.bool true∧H'=H):=by
  obtain ⟨an,al,cn,cl,cs,rfl,a1,a2,a3,_⟩:=h.shape
  obtain ⟨an2,al2,cn2,cl2,cs2,rfl,b1,b2,b3,_⟩:=h2.shape
  exact xsame_ (cnX x) x (Nat.le_refl _) hd an cn al cl cs S a1 a2 a3 an2 cn2 al2 cl2 cs2 S2 b1 b2 b3 W0 H hS hS2
end Go.Proofs.YtppgfiklmfoaeaaGreatDoor
namespace Go.Proofs.YtppgfiklmfoaeaaGreatDoor
open Go.Sw Go.Sha Go.Esc Go.RowKit
theorem w8i {x:Int} (h0:0≤x) (h1:x<256):IntKind.wrap .u8 x=x:=by rw [w8m]; omega
theorem is_ (n:Int) (W0:World) (H:List Grp):Tri Tryz.prog 161 #[.int .i64 n] W0 H (fun v H'=>v=.bool (isB n)∧H'=H):=by
 refine D3 17 Tryz.func161 ?_
 refine A1 (C1 (E':=[⟨0,[],.int .i64 n⟩]) [0] [0] (k:=A0 (A1 (G_p [0,0,0,0,0,6,0,0,0,0,0,0,5,6,0] [2] (k:=A0 (B9 (B6 [.tmp 2] [.bool (((decide (n ≥ 0))&&(decide (n≤1114111)))&&((decide (n<55296))||(decide (n > 57343))))] (k:=?_))))))))
 exact ⟨by unfold isB; rfl,rfl⟩
theorem read_ (s:ByteArray) (h0:0<s.size) (hs:s.size≤1000000000000) (W0:World) (H:List Grp):Tri Tryz.prog 139 #[.string s] W0 H (fun v H'=>v=.tuple #[.int .i64 (rdP s.data.toList).1,.int .i64 ((rdP s.data.toList).2:Int)]∧H'=H):=by
 have e0:=bt_eq s 0
 have e1:=bt_eq s 1
 have e2:=bt_eq s 2
 have e3:=bt_eq s 3
 have g0:bt s 0<256:=UInt8.toNat_lt _
 have g1:bt s 1<256:=UInt8.toNat_lt _
 have g2:bt s 2<256:=UInt8.toNat_lt _
 have g3:bt s 3<256:=UInt8.toNat_lt _
 have hl:=H7 s
 simp only [Int.cast_ofNat_Int] at e0 e1 e2 e3
 refine D3 77 Tryz.func139 ?_
 refine A1 (C1 (E':=[⟨0,[],.string s⟩]) [0,0] [0] (k:=A0 (A1 (A2 (A3 (j:=1) [0] (k:=H0 s 0 (fun _=>by omega) ?_))))))
 have hb1:=F3 s 0
 refine A3 (j:=3) [0] (k:=D1 11 (A9 s 0) (by omega) (by omega) kr (A7 [0] [0,4] (k:=A0 (A1 (G_p [0,0] [0,4] (k:=A0 (A1 (B4 ?_))))))))
 refine A1 (G_p [0,0,0] [0,4,12] (k:=A0 (B2 (b:=decide ((A9 s 0)<128)) kr (fun hc3=>?_) (fun hc3=>?_))))
 ·
  simp only [decide_eq_true_eq] at hc3
  refine A1 (G_p [0,0,0] [2,3] (k:=A0 (B9 (B8 (A5 (B6 [.tmp 2,.tmp 3] [.int .i64 (A9 s 0),.int .i64 1] (k:=?_)))))))
  exact ⟨by rw [rdP_ok (l:=s.data.toList) (dec1 (b0:=bt s 0) (b1:=bt s 1) (b2:=bt s 2) (b3:=bt s 3) (by (try rw [hl]); omega)) (by omega)]; exact congrArg (fun x=>Value.tuple #[.int .i64 x,.int .i64 1]) (by omega),rfl⟩
 ·
  simp only [decide_eq_false_iff_not] at hc3
  refine A1 (G_p [0,0,0,0,0,6,0] [0,4,16] (k:=A0 (B2 (b:=(decide ((A9 s 0) ≥ 194))&&(decide ((A9 s 0)<224))) kr (fun hc4=>?_) (fun hc4=>?_))))
  ·
   simp only [Bool.and_eq_true,decide_eq_true_eq,ge_iff_le] at hc4
   refine A2 (A3 (j:=2) [0,0] (k:=D1 24 ((A9 s 0) - 192) (by omega) (by omega) kr (A7 [0,0,0] [0,4,5,6] (k:=B7 (A0 (A1 (A1 (C1 (E':=[⟨0,[],.string s⟩,⟨4,[],.int .i64 ((A9 s 0) - 192)⟩,⟨5,[],.int .i64 2⟩,⟨6,[],.int .i64 128⟩,⟨46,[],.bool (decide ((s.size:Int)<2))⟩]) [0,0,0,0] [0,4,5,6,46] (k:=?_)))))))))
   refine A0 (B2 (b:=decide ((s.size:Int)<2)) kr (fun hc6=>?_) (fun hc6=>?_))
   ·
    simp only [decide_eq_true_eq] at hc6
    refine A1 (G_p [0,0] [2,3] (k:=A0 (B9 (A5 (B6 [.tmp 2,.tmp 3] [.int .i64 (-1),.int .i64 1] (k:=?_))))))
    exact ⟨by rw [P8 (l:=s.data.toList) (P9 (b0:=bt s 0) (b1:=bt s 1) (b2:=bt s 2) (b3:=bt s 3) (by rw [hl]; omega))]; rfl,rfl⟩
   ·
    simp only [decide_eq_false_iff_not] at hc6
    refine A8 (A0 (A1 (A1 (G_p [0] [0,4,5,6,7] (k:=A0 (B4 (M7 4 (E9 ?_))))))))
    refine A1 (A1 (G_p [0,0,0] [0,4,5,6,7,49] (k:=A0 (C4 kr (A8 (A0 (A1 (B4 ?_))))))))
    refine A1 (A2 (A3 (j:=2) [0,0] (k:=H0 s 1 (fun _=>by omega) ?_)))
    have hb7:=F3 s 1
    refine A3 (j:=4) [0] (k:=D1 55 (A9 s 1) (by omega) (by omega) kr (A7 [0] [0,4,5,6,7,8] (k:=A0 (A1 (A1 (G_p [0,0,0,0,0,5] [0,4,5,6,7,8,61] (k:=A0 (B2 (b:=(decide ((A9 s 1)<128))||(decide ((A9 s 1) ≥ 192))) kr (fun hc9=>?_) (fun hc9=>?_)))))))))
    ·
     simp only [Bool.or_eq_true,decide_eq_true_eq,ge_iff_le] at hc9
     refine A1 (G_p [0,0] [2,3] (k:=A0 (B9 (A5 (B8 (A5 (A5 (B8 ?_))))))))
     refine A5 (B6 [.tmp 2,.tmp 3] [.int .i64 (-1),.int .i64 1] (k:=?_))
     exact ⟨by rw [P8 (l:=s.data.toList) (P9 (b0:=bt s 0) (b1:=bt s 1) (b2:=bt s 2) (b3:=bt s 3) (by rw [hl]; omega))]; rfl,rfl⟩
    ·
     simp only [Bool.or_eq_false_iff,decide_eq_false_iff_not,ge_iff_le] at hc9
     refine A8 (A0 (A2 (A3 (j:=2) [0,0] (k:=D1 63 (64 * ((A9 s 0) - 192)) (by omega) (by omega) kr (A3 (j:=4) [0,0] (k:=D1 65 ((64 * ((A9 s 0) - 192))+(A9 s 1)) (by omega) (by omega) kr (A3 (j:=5) [0] (k:=D1 66 (((64 * ((A9 s 0) - 192))+(A9 s 1)) - 128) (by omega) (by omega) kr ?_))))))))
     refine A7 [0] [0,4,5,6,7] (k:=B7 (A0 (C1 (E':=[⟨0,[],.string s⟩,⟨4,[],.int .i64 (((64 * ((A9 s 0) - 192))+(A9 s 1)) - 128)⟩,⟨5,[],.int .i64 2⟩,⟨6,[],.int .i64 128⟩,⟨7,[],.int .i64 2⟩]) [0,0,0] [0,4,5,6,7] (k:=N_rd (E9 (A1 (A1 (G_p [0,0,0] [0,4,5,6,7,49] (k:=?_)))))))))
     refine A0 (C8 kr (E8 (A6 (A6 (B5 (A0 (A1 (A1 ?_))))))))
     refine A2 (A3 (j:=5) [0,0,0,0,0] (k:=P6 [(70,false)] Tryz.func161 (fun hc=>is_ (((64 * ((A9 s 0) - 192))+(A9 s 1)) - 128) _ _) (A7 [0,5] [4,5,74] (k:=A0 (B2 (b:=(decide ((((64 * ((A9 s 0) - 192))+(A9 s 1)) - 128)<128))||(!(isB (((64 * ((A9 s 0) - 192))+(A9 s 1)) - 128)))) kr (fun hc13=>?_) (fun hc13=>?_))))))
     ·
      simp only [Bool.or_eq_true,Bool.not_eq_true',decide_eq_true_eq,G7,isR] at hc13
      refine A1 (G_p [0,0] [2,3] (k:=A0 (B9 (A5 (B6 [.tmp 2,.tmp 3] [.int .i64 (-1),.int .i64 1] (k:=?_))))))
      exact ⟨by rw [P8 (l:=s.data.toList) (P9 (b0:=bt s 0) (b1:=bt s 1) (b2:=bt s 2) (b3:=bt s 3) (by rw [hl]; omega))]; rfl,rfl⟩
     ·
      simp only [Bool.or_eq_false_iff,Bool.not_eq_false',decide_eq_false_iff_not,isB_iff,isR] at hc13
      refine A8 (A0 (A1 (G_p [0,0,0,0] [2,3] (k:=A0 (B9 (B6 [.tmp 2,.tmp 3] [.int .i64 (((64 * ((A9 s 0) - 192))+(A9 s 1)) - 128),.int .i64 2] (k:=?_)))))))
      exact ⟨by rw [rdP_ok (l:=s.data.toList) (dec2 (b0:=bt s 0) (b1:=bt s 1) (b2:=bt s 2) (b3:=bt s 3) (by (try rw [hl]); omega)) (by omega)]; exact congrArg (fun x=>Value.tuple #[.int .i64 x,.int .i64 2]) (by omega),rfl⟩
  ·
   simp only [Bool.and_eq_false_iff,decide_eq_false_iff_not,ge_iff_le] at hc4
   refine A1 (G_p [0,0,0,0,0,6,0] [0,4,25] (k:=A0 (B2 (b:=(decide ((A9 s 0) ≥ 224))&&(decide ((A9 s 0)<240))) kr (fun hc14=>?_) (fun hc14=>?_))))
   ·
    simp only [Bool.and_eq_true,decide_eq_true_eq,ge_iff_le] at hc14
    refine A2 (A3 (j:=2) [0,0] (k:=D1 33 ((A9 s 0) - 224) (by omega) (by omega) kr (B1 (E':=[⟨0,[],.string s⟩,⟨4,[],.int .i64 ((A9 s 0) - 224)⟩,⟨5,[],.int .i64 3⟩,⟨6,[],.int .i64 2048⟩]) [0,0,0] [0,4,5,6] (k:=B7 (A0 (A1 (A1 (G_p [0,0,0,0] [0,4,5,6,46] (k:=?_)))))))))
    refine A0 (B2 (b:=decide ((s.size:Int)<3)) kr (fun hc16=>?_) (fun hc16=>?_))
    ·
     simp only [decide_eq_true_eq] at hc16
     refine A1 (G_p [0,0] [2,3] (k:=A0 (B9 (A5 (B6 [.tmp 2,.tmp 3] [.int .i64 (-1),.int .i64 1] (k:=?_))))))
     exact ⟨by rw [P8 (l:=s.data.toList) (P9 (b0:=bt s 0) (b1:=bt s 1) (b2:=bt s 2) (b3:=bt s 3) (by rw [hl]; omega))]; rfl,rfl⟩
    ·
     simp only [decide_eq_false_iff_not] at hc16
     refine A8 (A0 (A1 (A1 (G_p [0] [0,4,5,6,7] (k:=A0 (B4 (M7 4 (E9 ?_))))))))
     refine A1 (A1 (G_p [0,0,0] [0,4,5,6,7,49] (k:=A0 (C4 kr (A8 (A0 (A1 (B4 ?_))))))))
     refine A1 (A2 (A3 (j:=2) [0,0] (k:=H0 s 1 (fun _=>by omega) ?_)))
     have hb17:=F3 s 1
     refine A3 (j:=4) [0] (k:=D1 55 (A9 s 1) (by omega) (by omega) kr (A7 [0] [0,4,5,6,7,8] (k:=A0 (A1 (A1 (G_p [0,0,0,0,0,5] [0,4,5,6,7,8,61] (k:=A0 (B2 (b:=(decide ((A9 s 1)<128))||(decide ((A9 s 1) ≥ 192))) kr (fun hc19=>?_) (fun hc19=>?_)))))))))
     ·
      simp only [Bool.or_eq_true,decide_eq_true_eq,ge_iff_le] at hc19
      refine A1 (C1 (E':=[⟨2,[],.int .i64 (-1)⟩,⟨3,[],.int .i64 1⟩]) [0,0] [2,3] (k:=A0 (B9 (A5 (B8 (A5 (A5 (B8 ?_))))))))
      refine A5 (B6 [.tmp 2,.tmp 3] [.int .i64 (-1),.int .i64 1] (k:=?_))
      exact ⟨by rw [P8 (l:=s.data.toList) (P9 (b0:=bt s 0) (b1:=bt s 1) (b2:=bt s 2) (b3:=bt s 3) (by rw [hl]; omega))]; rfl,rfl⟩
     ·
      simp only [Bool.or_eq_false_iff,decide_eq_false_iff_not,ge_iff_le] at hc19
      refine A8 (A0 (A2 (A3 (j:=2) [0,0] (k:=D1 63 (64 * ((A9 s 0) - 224)) (by omega) (by omega) kr (A3 (j:=4) [0,0] (k:=D1 65 ((64 * ((A9 s 0) - 224))+(A9 s 1)) (by omega) (by omega) kr (A3 (j:=5) [0] (k:=D1 66 (((64 * ((A9 s 0) - 224))+(A9 s 1)) - 128) (by omega) (by omega) kr ?_))))))))
      refine B1 (E':=[⟨0,[],.string s⟩,⟨4,[],.int .i64 (((64 * ((A9 s 0) - 224))+(A9 s 1)) - 128)⟩,⟨5,[],.int .i64 3⟩,⟨6,[],.int .i64 2048⟩,⟨7,[],.int .i64 1⟩]) [0] [0,4,5,6,7] (k:=B7 (A0 (G_p [0,0,0] [0,4,5,6,7] (k:=N_rd (E9 (A1 (A1 (G_p [0,0,0] [0,4,5,6,7,49] (k:=?_)))))))))
      refine A0 (C4 kr (A8 (A0 (A1 (B4 (A1 (A2 (A3 (j:=2) [0,0] (k:=?_)))))))))
      refine H0 s 2 (fun _=>by omega) ?_
      have hb23:=F3 s 2
      refine A3 (j:=4) [0] (k:=D1 55 (A9 s 2) (by omega) (by omega) kr (A7 [0] [0,4,5,6,7,8] (k:=A0 (A1 (A1 (G_p [0,0,0,0,0,5] [0,4,5,6,7,8,61] (k:=A0 (B2 (b:=(decide ((A9 s 2)<128))||(decide ((A9 s 2) ≥ 192))) kr (fun hc25=>?_) (fun hc25=>?_)))))))))
      ·
       simp only [Bool.or_eq_true,decide_eq_true_eq,ge_iff_le] at hc25
       refine A1 (G_p [0,0] [2,3] (k:=A0 (B9 (A5 (B8 (A5 (A5 (B8 ?_))))))))
       refine A5 (B6 [.tmp 2,.tmp 3] [.int .i64 (-1),.int .i64 1] (k:=?_))
       exact ⟨by rw [P8 (l:=s.data.toList) (P9 (b0:=bt s 0) (b1:=bt s 1) (b2:=bt s 2) (b3:=bt s 3) (by rw [hl]; omega))]; rfl,rfl⟩
      ·
       simp only [Bool.or_eq_false_iff,decide_eq_false_iff_not,ge_iff_le] at hc25
       refine A8 (A0 (A2 (A3 (j:=2) [0,0] (k:=D1 63 (64 * (((64 * ((A9 s 0) - 224))+(A9 s 1)) - 128)) (by omega) (by omega) kr (A3 (j:=4) [0,0] (k:=D1 65 ((64 * (((64 * ((A9 s 0) - 224))+(A9 s 1)) - 128))+(A9 s 2)) (by omega) (by omega) kr (A3 (j:=5) [0] (k:=D1 66 (((64 * (((64 * ((A9 s 0) - 224))+(A9 s 1)) - 128))+(A9 s 2)) - 128) (by omega) (by omega) kr ?_))))))))
       refine A7 [0] [0,4,5,6,7] (k:=B7 (A0 (C1 (E':=[⟨0,[],.string s⟩,⟨4,[],.int .i64 (((64 * (((64 * ((A9 s 0) - 224))+(A9 s 1)) - 128))+(A9 s 2)) - 128)⟩,⟨5,[],.int .i64 3⟩,⟨6,[],.int .i64 2048⟩,⟨7,[],.int .i64 3⟩]) [0,0,0] [0,4,5,6,7] (k:=N_rd (E9 (A1 (A1 (G_p [0,0,0] [0,4,5,6,7,49] (k:=?_)))))))))
       refine A0 (C8 kr (E8 (A6 (A6 (B5 (A0 (A1 (A1 ?_))))))))
       refine A2 (A3 (j:=5) [0,0,0,0,0] (k:=P6 [(70,false)] Tryz.func161 (fun hc=>is_ (((64 * (((64 * ((A9 s 0) - 224))+(A9 s 1)) - 128))+(A9 s 2)) - 128) _ _) (A7 [0,5] [4,5,74] (k:=A0 (B2 (b:=(decide ((((64 * (((64 * ((A9 s 0) - 224))+(A9 s 1)) - 128))+(A9 s 2)) - 128)<2048))||(!(isB (((64 * (((64 * ((A9 s 0) - 224))+(A9 s 1)) - 128))+(A9 s 2)) - 128)))) kr (fun hc29=>?_) (fun hc29=>?_))))))
       ·
        simp only [Bool.or_eq_true,Bool.not_eq_true',decide_eq_true_eq,G7,isR] at hc29
        refine A1 (G_p [0,0] [2,3] (k:=A0 (B9 (A5 (B6 [.tmp 2,.tmp 3] [.int .i64 (-1),.int .i64 1] (k:=?_))))))
        exact ⟨by rw [P8 (l:=s.data.toList) (P9 (b0:=bt s 0) (b1:=bt s 1) (b2:=bt s 2) (b3:=bt s 3) (by rw [hl]; omega))]; rfl,rfl⟩
       ·
        simp only [Bool.or_eq_false_iff,Bool.not_eq_false',decide_eq_false_iff_not,isB_iff,isR] at hc29
        refine A8 (A0 (A1 (G_p [0,0,0,0] [2,3] (k:=A0 (B9 (B6 [.tmp 2,.tmp 3] [.int .i64 (((64 * (((64 * ((A9 s 0) - 224))+(A9 s 1)) - 128))+(A9 s 2)) - 128),.int .i64 3] (k:=?_)))))))
        exact ⟨by rw [rdP_ok (l:=s.data.toList) (dec3 (b0:=bt s 0) (b1:=bt s 1) (b2:=bt s 2) (b3:=bt s 3) (by (try rw [hl]); omega)) (by omega)]; exact congrArg (fun x=>Value.tuple #[.int .i64 x,.int .i64 3]) (by omega),rfl⟩
   ·
    simp only [Bool.and_eq_false_iff,decide_eq_false_iff_not,ge_iff_le] at hc14
    refine A1 (C1 (E':=[⟨0,[],.string s⟩,⟨4,[],.int .i64 (A9 s 0)⟩,⟨34,[],.bool ((decide ((A9 s 0) ≥ 240))&&(decide ((A9 s 0)<245)))⟩]) [0,0,0,0,0,6,0] [0,4,34] (k:=A0 (B2 (b:=(decide ((A9 s 0) ≥ 240))&&(decide ((A9 s 0)<245))) kr (fun hc30=>?_) (fun hc30=>?_))))
    ·
     simp only [Bool.and_eq_true,decide_eq_true_eq,ge_iff_le] at hc30
     refine A2 (A3 (j:=2) [0,0] (k:=D1 42 ((A9 s 0) - 240) (by omega) (by omega) kr (A7 [0,0,0] [0,4,5,6] (k:=B7 (A0 (A1 (A1 (G_p [0,0,0,0] [0,4,5,6,46] (k:=?_)))))))))
     refine A0 (B2 (b:=decide ((s.size:Int)<4)) kr (fun hc32=>?_) (fun hc32=>?_))
     ·
      simp only [decide_eq_true_eq] at hc32
      refine A1 (G_p [0,0] [2,3] (k:=A0 (B9 (A5 (B6 [.tmp 2,.tmp 3] [.int .i64 (-1),.int .i64 1] (k:=?_))))))
      exact ⟨by rw [P8 (l:=s.data.toList) (P9 (b0:=bt s 0) (b1:=bt s 1) (b2:=bt s 2) (b3:=bt s 3) (by rw [hl]; omega))]; rfl,rfl⟩
     ·
      simp only [decide_eq_false_iff_not] at hc32
      refine A8 (A0 (A1 (A1 (G_p [0] [0,4,5,6,7] (k:=A0 (B4 (M7 4 (E9 ?_))))))))
      refine A1 (A1 (G_p [0,0,0] [0,4,5,6,7,49] (k:=A0 (C4 kr (A8 (A0 (A1 (B4 ?_))))))))
      refine A1 (A2 (A3 (j:=2) [0,0] (k:=H0 s 1 (fun _=>by omega) ?_)))
      have hb33:=F3 s 1
      refine A3 (j:=4) [0] (k:=D1 55 (A9 s 1) (by omega) (by omega) kr (A7 [0] [0,4,5,6,7,8] (k:=A0 (A1 (A1 (C1 (E':=[⟨0,[],.string s⟩,⟨4,[],.int .i64 ((A9 s 0) - 240)⟩,⟨5,[],.int .i64 4⟩,⟨6,[],.int .i64 65536⟩,⟨7,[],.int .i64 1⟩,⟨8,[],.int .i64 (A9 s 1)⟩,⟨61,[],.bool ((decide ((A9 s 1)<128))||(decide ((A9 s 1) ≥ 192)))⟩]) [0,0,0,0,0,5] [0,4,5,6,7,8,61] (k:=A0 (B2 (b:=(decide ((A9 s 1)<128))||(decide ((A9 s 1) ≥ 192))) kr (fun hc35=>?_) (fun hc35=>?_)))))))))
      ·
       simp only [Bool.or_eq_true,decide_eq_true_eq,ge_iff_le] at hc35
       refine A1 (G_p [0,0] [2,3] (k:=A0 (B9 (A5 (B8 (A5 (A5 (B8 ?_))))))))
       refine A5 (B6 [.tmp 2,.tmp 3] [.int .i64 (-1),.int .i64 1] (k:=?_))
       exact ⟨by rw [P8 (l:=s.data.toList) (P9 (b0:=bt s 0) (b1:=bt s 1) (b2:=bt s 2) (b3:=bt s 3) (by rw [hl]; omega))]; rfl,rfl⟩
      ·
       simp only [Bool.or_eq_false_iff,decide_eq_false_iff_not,ge_iff_le] at hc35
       refine A8 (A0 (A2 (A3 (j:=2) [0,0] (k:=D1 63 (64 * ((A9 s 0) - 240)) (by omega) (by omega) kr (A3 (j:=4) [0,0] (k:=D1 65 ((64 * ((A9 s 0) - 240))+(A9 s 1)) (by omega) (by omega) kr (A3 (j:=5) [0] (k:=D1 66 (((64 * ((A9 s 0) - 240))+(A9 s 1)) - 128) (by omega) (by omega) kr ?_))))))))
       refine A7 [0] [0,4,5,6,7] (k:=B7 (A0 (G_p [0,0,0] [0,4,5,6,7] (k:=N_rd (E9 (A1 (A1 (G_p [0,0,0] [0,4,5,6,7,49] (k:=?_)))))))))
       refine A0 (C4 kr (A8 (A0 (A1 (B4 (A1 (A2 (A3 (j:=2) [0,0] (k:=?_)))))))))
       refine H0 s 2 (fun _=>by omega) ?_
       have hb39:=F3 s 2
       refine A3 (j:=4) [0] (k:=D1 55 (A9 s 2) (by omega) (by omega) kr (A7 [0] [0,4,5,6,7,8] (k:=A0 (A1 (A1 (G_p [0,0,0,0,0,5] [0,4,5,6,7,8,61] (k:=A0 (B2 (b:=(decide ((A9 s 2)<128))||(decide ((A9 s 2) ≥ 192))) kr (fun hc41=>?_) (fun hc41=>?_)))))))))
       ·
        simp only [Bool.or_eq_true,decide_eq_true_eq,ge_iff_le] at hc41
        refine A1 (C1 (E':=[⟨2,[],.int .i64 (-1)⟩,⟨3,[],.int .i64 1⟩]) [0,0] [2,3] (k:=A0 (B9 (A5 (B8 (A5 (A5 (B8 ?_))))))))
        refine A5 (B6 [.tmp 2,.tmp 3] [.int .i64 (-1),.int .i64 1] (k:=?_))
        exact ⟨by rw [P8 (l:=s.data.toList) (P9 (b0:=bt s 0) (b1:=bt s 1) (b2:=bt s 2) (b3:=bt s 3) (by rw [hl]; omega))]; rfl,rfl⟩
       ·
        simp only [Bool.or_eq_false_iff,decide_eq_false_iff_not,ge_iff_le] at hc41
        refine A8 (A0 (A2 (A3 (j:=2) [0,0] (k:=D1 63 (64 * (((64 * ((A9 s 0) - 240))+(A9 s 1)) - 128)) (by omega) (by omega) kr (A3 (j:=4) [0,0] (k:=D1 65 ((64 * (((64 * ((A9 s 0) - 240))+(A9 s 1)) - 128))+(A9 s 2)) (by omega) (by omega) kr (A3 (j:=5) [0] (k:=D1 66 (((64 * (((64 * ((A9 s 0) - 240))+(A9 s 1)) - 128))+(A9 s 2)) - 128) (by omega) (by omega) kr ?_))))))))
        refine B1 (E':=[⟨0,[],.string s⟩,⟨4,[],.int .i64 (((64 * (((64 * ((A9 s 0) - 240))+(A9 s 1)) - 128))+(A9 s 2)) - 128)⟩,⟨5,[],.int .i64 4⟩,⟨6,[],.int .i64 65536⟩,⟨7,[],.int .i64 2⟩]) [0] [0,4,5,6,7] (k:=B7 (A0 (G_p [0,0,0] [0,4,5,6,7] (k:=N_rd (E9 (A1 (A1 (G_p [0,0,0] [0,4,5,6,7,49] (k:=?_)))))))))
        refine A0 (C4 kr (A8 (A0 (A1 (B4 (A1 (A2 (A3 (j:=2) [0,0] (k:=?_)))))))))
        refine H0 s 3 (fun _=>by omega) ?_
        have hb45:=F3 s 3
        refine A3 (j:=4) [0] (k:=D1 55 (A9 s 3) (by omega) (by omega) kr (A7 [0] [0,4,5,6,7,8] (k:=A0 (A1 (A1 (G_p [0,0,0,0,0,5] [0,4,5,6,7,8,61] (k:=A0 (B2 (b:=(decide ((A9 s 3)<128))||(decide ((A9 s 3) ≥ 192))) kr (fun hc47=>?_) (fun hc47=>?_)))))))))
        ·
         simp only [Bool.or_eq_true,decide_eq_true_eq,ge_iff_le] at hc47
         refine A1 (G_p [0,0] [2,3] (k:=A0 (B9 (A5 (B8 (A5 (A5 (B8 ?_))))))))
         refine A5 (B6 [.tmp 2,.tmp 3] [.int .i64 (-1),.int .i64 1] (k:=?_))
         exact ⟨by rw [P8 (l:=s.data.toList) (P9 (b0:=bt s 0) (b1:=bt s 1) (b2:=bt s 2) (b3:=bt s 3) (by rw [hl]; omega))]; rfl,rfl⟩
        ·
         simp only [Bool.or_eq_false_iff,decide_eq_false_iff_not,ge_iff_le] at hc47
         refine A8 (A0 (A2 (A3 (j:=2) [0,0] (k:=D1 63 (64 * (((64 * (((64 * ((A9 s 0) - 240))+(A9 s 1)) - 128))+(A9 s 2)) - 128)) (by omega) (by omega) kr (A3 (j:=4) [0,0] (k:=D1 65 ((64 * (((64 * (((64 * ((A9 s 0) - 240))+(A9 s 1)) - 128))+(A9 s 2)) - 128))+(A9 s 3)) (by omega) (by omega) kr (A3 (j:=5) [0] (k:=D1 66 (((64 * (((64 * (((64 * ((A9 s 0) - 240))+(A9 s 1)) - 128))+(A9 s 2)) - 128))+(A9 s 3)) - 128) (by omega) (by omega) kr ?_))))))))
         refine A7 [0] [0,4,5,6,7] (k:=B7 (A0 (C1 (E':=[⟨0,[],.string s⟩,⟨4,[],.int .i64 (((64 * (((64 * (((64 * ((A9 s 0) - 240))+(A9 s 1)) - 128))+(A9 s 2)) - 128))+(A9 s 3)) - 128)⟩,⟨5,[],.int .i64 4⟩,⟨6,[],.int .i64 65536⟩,⟨7,[],.int .i64 4⟩]) [0,0,0] [0,4,5,6,7] (k:=N_rd (E9 (A1 (A1 (G_p [0,0,0] [0,4,5,6,7,49] (k:=?_)))))))))
         refine A0 (C8 kr (E8 (A6 (A6 (B5 (A0 (A1 (A1 ?_))))))))
         refine A2 (A3 (j:=5) [0,0,0,0,0] (k:=P6 [(70,false)] Tryz.func161 (fun hc=>is_ (((64 * (((64 * (((64 * ((A9 s 0) - 240))+(A9 s 1)) - 128))+(A9 s 2)) - 128))+(A9 s 3)) - 128) _ _) (A7 [0,5] [4,5,74] (k:=A0 (B2 (b:=(decide ((((64 * (((64 * (((64 * ((A9 s 0) - 240))+(A9 s 1)) - 128))+(A9 s 2)) - 128))+(A9 s 3)) - 128)<65536))||(!(isB (((64 * (((64 * (((64 * ((A9 s 0) - 240))+(A9 s 1)) - 128))+(A9 s 2)) - 128))+(A9 s 3)) - 128)))) kr (fun hc51=>?_) (fun hc51=>?_))))))
         ·
          simp only [Bool.or_eq_true,Bool.not_eq_true',decide_eq_true_eq,G7,isR] at hc51
          refine A1 (G_p [0,0] [2,3] (k:=A0 (B9 (A5 (B6 [.tmp 2,.tmp 3] [.int .i64 (-1),.int .i64 1] (k:=?_))))))
          exact ⟨by rw [P8 (l:=s.data.toList) (P9 (b0:=bt s 0) (b1:=bt s 1) (b2:=bt s 2) (b3:=bt s 3) (by rw [hl]; omega))]; rfl,rfl⟩
         ·
          simp only [Bool.or_eq_false_iff,Bool.not_eq_false',decide_eq_false_iff_not,isB_iff,isR] at hc51
          refine A8 (A0 (A1 (G_p [0,0,0,0] [2,3] (k:=A0 (B9 (B6 [.tmp 2,.tmp 3] [.int .i64 (((64 * (((64 * (((64 * ((A9 s 0) - 240))+(A9 s 1)) - 128))+(A9 s 2)) - 128))+(A9 s 3)) - 128),.int .i64 4] (k:=?_)))))))
          exact ⟨by rw [rdP_ok (l:=s.data.toList) (dec4 (b0:=bt s 0) (b1:=bt s 1) (b2:=bt s 2) (b3:=bt s 3) (by (try rw [hl]); omega)) (by omega)]; exact congrArg (fun x=>Value.tuple #[.int .i64 x,.int .i64 4]) (by omega),rfl⟩
    ·
     simp only [Bool.and_eq_false_iff,decide_eq_false_iff_not,ge_iff_le] at hc30
     refine A1 (G_p [0,0] [2,3] (k:=A0 (B9 (B8 (A5 (B6 [.tmp 2,.tmp 3] [.int .i64 (-1),.int .i64 1] (k:=?_)))))))
     exact ⟨by rw [P8 (l:=s.data.toList) (P9 (b0:=bt s 0) (b1:=bt s 1) (b2:=bt s 2) (b3:=bt s 3) (by rw [hl]; omega))]; rfl,rfl⟩
theorem one_ (p:Int) (hp:isR p) (W0:World) (H:List Grp):Tri Tryz.prog 122 #[.int .i64 p] W0 H (fun v H'=>∃ b,v=.slice (some ⟨b,0,none⟩) (Lib.encodeRune p).length (Lib.encodeRune p).length∧H'=[(b,.cells (u8s (Lib.encodeRune p)).toArray 5 (0,0))]::H):=by
 obtain ⟨hp0,hp1,hp2⟩:=hp
 refine D3 57 Tryz.func122 ?_
 refine A1 (C1 (E':=[⟨0,[],.int .i64 p⟩]) [0] [0] (k:=A0 (A1 (B4 (A1 (G_p [0,0,0] [0,3] (k:=A0 (B2 (b:=decide (p<128)) kr (fun hc1=>?_) (fun hc1=>?_)))))))))
 ·
  simp only [decide_eq_true_eq] at hc1
  refine A1 (A2 (A3 (j:=2) [0,0] (k:=E5 7 (x:=.int .u8 (IntKind.wrap .u8 p)) (y:=.int .u8 p) (by rw [w8i (x:=p) (by omega) (by omega)]) (J2 5 1 [.int .u8 p] (fun b2=>A7 [0] [2] (k:=A0 (B9 (B8 ?_))))))))
  refine A5 (B6 [.tmp 2] [.slice (some ⟨b2,0,none⟩) 1 1] (k:=?_))
  exact ⟨b2,by rw [show (Lib.encodeRune p).length=1 by unfold Lib.encodeRune; rw [Lib.encodeRuneZ_one (r:=p) (by omega) (by omega)]; rfl]; rfl,by rw [X6,Lib.encodeRuneZ_one (r:=p) (by omega) (by omega)]; rfl⟩
 ·
  simp only [decide_eq_false_iff_not] at hc1
  refine A1 (G_p [0,0,0] [0,9] (k:=A0 (B2 (b:=decide (p<2048)) kr (fun hc3=>?_) (fun hc3=>?_))))
  ·
   simp only [decide_eq_true_eq] at hc3
   refine A1 (A2 (A3 (j:=2) [0,0] (k:=?_)))
   have hw4:IntKind.wrap .i64 (Int.tdiv p 64)=p / 64:=q64 (by omega) (by omega) (by decide)
   refine GL_w 13 hw4 kr (A3 (j:=3) [0] (k:=D1 14 (192+(p / 64)) (by omega) (by omega) kr (A3 (j:=4) [0] (k:=E5 15 (x:=.int .u8 (IntKind.wrap .u8 (192+(p / 64)))) (y:=.int .u8 (192+(p / 64))) (by rw [w8i (x:=(192+(p / 64))) (by omega) (by omega)]) (A3 (j:=6) [0,0] (k:=?_))))))
   have hw6:Int.tmod p 64=p % 64:=r64 (by omega)
   refine GL_w 17 hw6 kr (A3 (j:=7) [0] (k:=D1 18 (128+(p % 64)) (by omega) (by omega) kr (A3 (j:=8) [0] (k:=E5 19 (x:=.int .u8 (IntKind.wrap .u8 (128+(p % 64)))) (y:=.int .u8 (128+(p % 64))) (by rw [w8i (x:=(128+(p % 64))) (by omega) (by omega)]) (J2 5 2 [.int .u8 (192+(p / 64)),.int .u8 (128+(p % 64))] (fun b8=>A7 [0] [2] (k:=A0 (B9 ?_))))))))
   refine B8 (A5 (B6 [.tmp 2] [.slice (some ⟨b8,0,none⟩) 2 2] (k:=?_)))
   exact ⟨b8,by rw [show (Lib.encodeRune p).length=2 by unfold Lib.encodeRune; rw [Lib.encodeRuneZ_two (r:=p) (by omega) (by omega)]; rfl]; rfl,by rw [X6,Lib.encodeRuneZ_two (r:=p) (by omega) (by omega)]; rfl⟩
  ·
   simp only [decide_eq_false_iff_not] at hc3
   refine A1 (G_p [0,0,0] [0,21] (k:=A0 (B2 (b:=decide (p<65536)) kr (fun hc9=>?_) (fun hc9=>?_))))
   ·
    simp only [decide_eq_true_eq] at hc9
    refine A1 (A2 (A3 (j:=2) [0,0] (k:=?_)))
    have hw10:IntKind.wrap .i64 (Int.tdiv p 4096)=p / 4096:=q64 (by omega) (by omega) (by decide)
    refine GL_w 25 hw10 kr (A3 (j:=3) [0] (k:=D1 26 (224+(p / 4096)) (by omega) (by omega) kr (A3 (j:=4) [0] (k:=E5 27 (x:=.int .u8 (IntKind.wrap .u8 (224+(p / 4096)))) (y:=.int .u8 (224+(p / 4096))) (by rw [w8i (x:=(224+(p / 4096))) (by omega) (by omega)]) (A3 (j:=6) [0,0] (k:=?_))))))
    have hw12:IntKind.wrap .i64 (Int.tdiv p 64)=p / 64:=q64 (by omega) (by omega) (by decide)
    refine GL_w 29 hw12 kr (A3 (j:=7) [0] (k:=?_))
    have hw13:Int.tmod (p / 64) 64=(p / 64) % 64:=r64 (by omega)
    refine GL_w 30 hw13 kr (A3 (j:=8) [0] (k:=D1 31 (128+((p / 64) % 64)) (by omega) (by omega) kr (A3 (j:=9) [0] (k:=E5 32 (x:=.int .u8 (IntKind.wrap .u8 (128+((p / 64) % 64)))) (y:=.int .u8 (128+((p / 64) % 64))) (by rw [w8i (x:=(128+((p / 64) % 64))) (by omega) (by omega)]) (A3 (j:=11) [0,0] (k:=?_))))))
    have hw15:Int.tmod p 64=p % 64:=r64 (by omega)
    refine GL_w 34 hw15 kr (A3 (j:=12) [0] (k:=D1 35 (128+(p % 64)) (by omega) (by omega) kr (A3 (j:=13) [0] (k:=E5 36 (x:=.int .u8 (IntKind.wrap .u8 (128+(p % 64)))) (y:=.int .u8 (128+(p % 64))) (by rw [w8i (x:=(128+(p % 64))) (by omega) (by omega)]) (J2 5 3 [.int .u8 (224+(p / 4096)),.int .u8 (128+((p / 64) % 64)),.int .u8 (128+(p % 64))] (fun b17=>A7 [0] [2] (k:=A0 (B9 ?_))))))))
    refine B8 (A5 (B6 [.tmp 2] [.slice (some ⟨b17,0,none⟩) 3 3] (k:=?_)))
    exact ⟨b17,by rw [show (Lib.encodeRune p).length=3 by unfold Lib.encodeRune; rw [Lib.encodeRuneZ_three (r:=p) (by omega)]; rfl]; rfl,by rw [X6,Lib.encodeRuneZ_three (r:=p) (by omega)]; rfl⟩
   ·
    simp only [decide_eq_false_iff_not] at hc9
    refine A8 (B7 (A0 (A1 (A2 (A3 (j:=2) [0,0] (k:=?_))))))
    have hw18:IntKind.wrap .i64 (Int.tdiv p 262144)=p / 262144:=q64 (by omega) (by omega) (by decide)
    refine GL_w 39 hw18 kr (A3 (j:=3) [0] (k:=D1 40 (240+(p / 262144)) (by omega) (by omega) kr (A3 (j:=4) [0] (k:=E5 41 (x:=.int .u8 (IntKind.wrap .u8 (240+(p / 262144)))) (y:=.int .u8 (240+(p / 262144))) (by rw [w8i (x:=(240+(p / 262144))) (by omega) (by omega)]) (A3 (j:=6) [0,0] (k:=?_))))))
    have hw20:IntKind.wrap .i64 (Int.tdiv p 4096)=p / 4096:=q64 (by omega) (by omega) (by decide)
    refine GL_w 43 hw20 kr (A3 (j:=7) [0] (k:=?_))
    have hw21:Int.tmod (p / 4096) 64=(p / 4096) % 64:=r64 (by omega)
    refine GL_w 44 hw21 kr (A3 (j:=8) [0] (k:=D1 45 (128+((p / 4096) % 64)) (by omega) (by omega) kr (A3 (j:=9) [0] (k:=E5 46 (x:=.int .u8 (IntKind.wrap .u8 (128+((p / 4096) % 64)))) (y:=.int .u8 (128+((p / 4096) % 64))) (by rw [w8i (x:=(128+((p / 4096) % 64))) (by omega) (by omega)]) (A3 (j:=11) [0,0] (k:=?_))))))
    have hw23:IntKind.wrap .i64 (Int.tdiv p 64)=p / 64:=q64 (by omega) (by omega) (by decide)
    refine GL_w 48 hw23 kr (A3 (j:=12) [0] (k:=?_))
    have hw24:Int.tmod (p / 64) 64=(p / 64) % 64:=r64 (by omega)
    refine GL_w 49 hw24 kr (A3 (j:=13) [0] (k:=D1 50 (128+((p / 64) % 64)) (by omega) (by omega) kr (A3 (j:=14) [0] (k:=E5 51 (x:=.int .u8 (IntKind.wrap .u8 (128+((p / 64) % 64)))) (y:=.int .u8 (128+((p / 64) % 64))) (by rw [w8i (x:=(128+((p / 64) % 64))) (by omega) (by omega)]) (A3 (j:=16) [0,0] (k:=?_))))))
    have hw26:Int.tmod p 64=p % 64:=r64 (by omega)
    refine GL_w 53 hw26 kr (A3 (j:=17) [0] (k:=D1 54 (128+(p % 64)) (by omega) (by omega) kr (A3 (j:=18) [0] (k:=E5 55 (x:=.int .u8 (IntKind.wrap .u8 (128+(p % 64)))) (y:=.int .u8 (128+(p % 64))) (by rw [w8i (x:=(128+(p % 64))) (by omega) (by omega)]) (J2 5 4 [.int .u8 (240+(p / 262144)),.int .u8 (128+((p / 4096) % 64)),.int .u8 (128+((p / 64) % 64)),.int .u8 (128+(p % 64))] (fun b28=>A7 [0] [2] (k:=A0 (B9 ?_))))))))
    refine B6 [.tmp 2] [.slice (some ⟨b28,0,none⟩) 4 4] (k:=?_)
    exact ⟨b28,by rw [show (Lib.encodeRune p).length=4 by unfold Lib.encodeRune; rw [Lib.encodeRuneZ_four (r:=p) (by omega) (by omega)]; rfl]; rfl,by rw [X6,Lib.encodeRuneZ_four (r:=p) (by omega) (by omega)]; rfl⟩
theorem points_ (s:ByteArray) (hs:s.size≤1000000000) (W0:World) (H:List Grp):Tri Tryz.prog 94 #[.string s] W0 H (fun v H'=>∃ a c g,v=.slice a (pts s.data.toList).length c∧Go.Sw.Own 3 1 (.slice a (pts s.data.toList).length c) g (pts s.data.toList).length (intV (pts s.data.toList))∧H'=g::H):=by
 refine D3 26 Tryz.func94 ?_
 refine A1 (C1 (E':=[⟨0,[],.string s⟩]) [0] [0] (k:=A0 (A1 (G_p [0] [0,3] (k:=A0 (A1 (A1 (G_p [0] [0,3,4] (k:=?_)))))))))
 refine A0 (B4 (T5 (H':=([]::H)) (fun w h=>h.flat (List.Perm.refl _)) (J7 (EI:=(fun ξ:Option Addr × Nat × Grp × List Int × Nat=>[⟨0,[],.string s⟩,⟨3,[],.slice ξ.1 ξ.2.2.2.1.length ξ.2.1⟩,⟨4,[],.int .i64 ((ξ.2.2.2.2:Nat):Int)⟩])) (HI:=(fun ξ:Option Addr × Nat × Grp × List Int × Nat=>(ξ.2.2.1::H))) (Φ:=(fun ξ:Option Addr × Nat × Grp × List Int × Nat=>(Go.Sw.Own 3 1 (.slice ξ.1 ξ.2.2.2.1.length ξ.2.1) ξ.2.2.1 ξ.2.2.2.1.length (intV ξ.2.2.2.1))∧(ξ.2.2.2.2≤s.size)∧(ξ.2.2.2.1++pts (s.data.toList.drop ξ.2.2.2.2)=pts s.data.toList))) (μ:=(fun ξ:Option Addr × Nat × Grp × List Int × Nat=>s.size - ξ.2.2.2.2)) (s0:=(none,0,[],[],0)) [0,3,4] kr rfl ⟨Go.Sw.Own.nil,(by (try dsimp only); omega),rfl⟩ ?_)))
 rintro ⟨ra,rc,rg,l1,i⟩ ⟨hO,hi,hT⟩
 dsimp only at hO hi hT
 have hll:l1.length≤s.size:=by
  have h1:=congrArg List.length hT
  have h2:=pts_len s.data.toList
  rw [List.length_append] at h1; rw [H7] at h2; omega
 refine A1 (A1 (G_p [0,0,0,0] [0,3,4,10] (k:=A0 (B2 (b:=decide (((i:Nat):Int)<(s.size:Int))) kr (fun hc1=>?_) (fun hc1=>?_)))))
 ·
  simp only [decide_eq_true_eq] at hc1
  have hlt:i<s.size:=by omega
  have hw:=rdP_w (s.data.toList.drop i) (dropR_ne (by omega))
  rw [← N9,H7,sz_dropR] at hw
  refine A8 (A0 (B4 (A1 (A2 (A3 (j:=2) [0,0] (k:=N4 s ((i:Nat):Int) (s.size:Int) (fun _=>by omega) (K9 Tryz.func139 (read_ (s.extract i s.size) (by first | omega | (rw [sz_dropR]; omega)) (by first | omega | (rw [sz_dropR]; omega)) _ _) (A7 [0,0,0,0,0] [0,3,4,5,6] (k:=?_)))))))))
  refine A0 (A1 (A2 (A3 (j:=2) [0,0] (k:=J2 3 1 [.int .i64 ((rdP (s.extract i s.size).data.toList).1)] (fun b2=>M1 (inf:=Tryz.t3) 1 0 1 rfl rfl hO (by omega) (by show (l1.length+1) * 8≤140737488355328; omega) (fun v3 g4 hO5=>?_))))))
  obtain ⟨a6,cap7,rfl,hcap8,hrd9⟩:=hO5.shape
  refine A7 [0] [0,3,4,6] (k:=A0 ?_)
  have hw10:IntKind.wrap .i64 (((i:Nat):Int)+((rdP (s.extract i s.size).data.toList).2:Int))=((i:Nat):Int)+((rdP (s.extract i s.size).data.toList).2:Int):=w64 (by omega) (by omega)
  refine A2 (A3 (j:=3) [0,0,0] (k:=E5 24 (x:=.int .i64 (IntKind.wrap .i64 (((i:Nat):Int)+((rdP (s.extract i s.size).data.toList).2:Int)))) (y:=.int .i64 (((i:Nat):Int)+((rdP (s.extract i s.size).data.toList).2:Int))) (by simp only [hw10]) (E5 24 (x:=.int .i64 (((i:Nat):Int)+((rdP (s.extract i s.size).data.toList).2:Int))) (y:=.int .i64 ((i+(rdP (s.extract i s.size).data.toList).2:Nat):Int)) (by rw [Int.natCast_add]) (A7 [0] [0,3,4] (k:=B7 ?_)))))
  have hln:(l1.length+1)=(l1++[((rdP (s.extract i s.size).data.toList).1)]).length:=by first | exact List.length_append.symm | (rw [List.length_append]; rfl)
  refine M0 (E':=[⟨0,[],.string s⟩,⟨3,[],.slice a6 (l1.length+1) cap7⟩,⟨4,[],.int .i64 ((i+(rdP (s.extract i s.size).data.toList).2:Nat):Int)⟩]) kr (M0 (E':=[⟨0,[],.string s⟩,⟨3,[],.slice a6 ((l1++[((rdP (s.extract i s.size).data.toList).1)]).length) cap7⟩,⟨4,[],.int .i64 ((i+(rdP (s.extract i s.size).data.toList).2:Nat):Int)⟩]) (by rw [hln]) (F9 1 [1] (D2 (s':=(a6,cap7,g4,(l1++[((rdP (s.extract i s.size).data.toList).1)]),i+(rdP (s.extract i s.size).data.toList).2)) [0,3,4] kr kr ⟨(N7 hO5 hln (by dsimp only; first | exact (iv_app _ _).symm | (rw [iv_app]; rfl))),(by dsimp only; omega),(by dsimp only; rw [List.append_assoc,List.singleton_append,← pts_next hlt]; exact hT)⟩ (by dsimp only; omega))))
 ·
  simp only [decide_eq_false_iff_not] at hc1
  refine E8 (A6 (A6 (B5 (A0 (A1 (C1 (E':=[⟨2,[],.slice ra l1.length rc⟩]) [0,0] [2] (k:=A0 (B9 ?_))))))))
  refine B6 [.tmp 2] [.slice ra l1.length rc] (k:=?_)
  have he:l1=pts s.data.toList:=by rw [← hT,List.drop_eq_nil_of_le (by rw [H7]; omega)]; exact (List.append_nil _).symm
  rw [he] at hO ⊢
  exact ⟨_,_,_,rfl,hO,rfl⟩
end Go.Proofs.YtppgfiklmfoaeaaGreatDoor
namespace Go.Proofs.YtppgfiklmfoaeaaGreatDoor
open Go.Sw Go.Sha Go.Esc Go.RowKit
theorem text_ (a:Option Addr) (c:Nat) (ps:List Int) (S:Nat→Obj→Prop) (hrd:Rd S a (intV ps)) (hps:∀ p∈ps,isR p) (hl:ps.length≤1000000000) (W0:World) (H:List Grp) (hS:∀ y o,S y o→At W0 H y o):Tri Tryz.prog 76 #[.slice a ps.length c] W0 H (fun v H'=>v=.string ⟨(I6 ps).toArray⟩∧H'=H):=by
 refine D3 19 Tryz.func76 ?_
 refine A1 (C1 (E':=[⟨0,[],.slice a ps.length c⟩]) [0] [0] (k:=A0 (A1 (G_p [0] [0,3] (k:=A0 (A1 (A1 (G_p [0,0,0] [3,6,7,8] (k:=?_)))))))))
 refine A0 (B4 (T5 (H':=([]::H)) (fun w h=>h.flat (List.Perm.refl _)) (J7 (EI:=(fun ξ:Option Addr × Nat × Grp × List UInt8 × Nat=>[⟨3,[],.slice ξ.1 ξ.2.2.2.1.length ξ.2.1⟩,⟨6,[],.slice a ps.length c⟩,⟨7,[],.int .i64 ((ps.length:Nat):Int)⟩,⟨8,[],.int .i64 ((ξ.2.2.2.2:Nat):Int)⟩])) (HI:=(fun ξ:Option Addr × Nat × Grp × List UInt8 × Nat=>(ξ.2.2.1::H))) (Φ:=(fun ξ:Option Addr × Nat × Grp × List UInt8 × Nat=>(Go.Sw.Own 5 1 (.slice ξ.1 ξ.2.2.2.1.length ξ.2.1) ξ.2.2.1 ξ.2.2.2.1.length (u8s ξ.2.2.2.1))∧(ξ.2.2.2.2≤ps.length)∧(ξ.2.2.2.1=I6 (ps.take ξ.2.2.2.2)))) (μ:=(fun ξ:Option Addr × Nat × Grp × List UInt8 × Nat=>ps.length - ξ.2.2.2.2)) (s0:=(none,0,[],[],0)) [3,6,7,8] kr rfl ⟨Go.Sw.Own.nil,(by (try dsimp only); omega),rfl⟩ ?_)))
 rintro ⟨ra,rc,rg,l1,k⟩ ⟨hO,hk,hT⟩
 dsimp only at hO hk hT
 have hll:l1.length≤4 * ps.length:=by
  rw [hT]; have:=encL_len (ps.take k); rw [List.length_take] at this; omega
 refine A1 (G_p [0] [3,6,7,8,9] (k:=A0 (A1 (B2 (b:=decide (((k:Nat):Int)<((ps.length:Nat):Int))) kr (fun hc1=>?_) (fun hc1=>?_)))))
 ·
  simp only [decide_eq_true_eq] at hc1
  have hlt:k<ps.length:=by omega
  have hel:=enc_len (ps.getD k 0)
  refine A8 (A0 (A1 (B4 (A1 (A2 (E6 ps.length ((k:Nat):Int) 1 hrd (by exact ⟨by omega,by omega,iv_ne (by omega)⟩) (H6 (k * 1) (.int .i64 (ps.getD k 0)) hrd (fun y o h=>(At.cons (hS y o h))) (fun _=>(by rw [Nat.mul_one]; exact iv_at (ps:=ps) (k:=k) (by omega))) (A7 [0] [3,5,6,7,8] (k:=?_)))))))))
  refine A0 (A2 (A3 (j:=2) [0,0] (k:=D9 (vs:=[.int .i64 (ps.getD k 0)]) Tryz.func122 (one_ (ps.getD k 0) (hps _ (memI hlt)) _ _) ?_)))
  rintro _ _ ⟨ob2,rfl,rfl⟩
  refine GL_append (i:=3) (ch:=[]) (t:=22) (tx:=22) (e:=5) (inf:=Tryz.t5) (s:=.slice ra l1.length rc) (x:=.slice (some ⟨ob2,0,none⟩) ((Lib.encodeRune (ps.getD k 0)).length) ((Lib.encodeRune (ps.getD k 0)).length)) (n:=l1.length) (m:=(Lib.encodeRune (ps.getD k 0)).length) (j:=1) (cs:=(u8s l1)) (news:=(u8s (Lib.encodeRune (ps.getD k 0)))) (g:=rg) (S:=(inG [(ob2,.cells (u8s (Lib.encodeRune (ps.getD k 0))).toArray 5 (0,0))])) rfl rfl rfl rfl kr kr kr rfl rfl (.inl ⟨5,kr⟩) (fun ⟨_,h⟩=>by cases h) (fun _=>⟨5,kr⟩) kr kr kr rfl hO (SrcOf.slice _ _ _ _ Rd.lit (fun h=>by cases h)) (D7 0 rfl) (by rw [show (u8s (Lib.encodeRune _)).length=_ from List.length_map _]; exact (Nat.mul_one _).symm) Go.Sha.u8_one (by omega) (by show (l1.length+(Lib.encodeRune (ps.getD k 0)).length) * 1≤140737488355328; omega) (fun v3 g4 hO5=>?_)
  obtain ⟨a6,cap7,rfl,hcap8,hrd9⟩:=hO5.shape
  refine A7 [0] [3,6,7,8] (k:=B7 (A0 (A2 (A3 (j:=1) [0] (k:=D1 16 (((k:Nat):Int)+1) (by omega) (by omega) kr (A7 [0] [3,6,7,8] (k:=?_)))))))
  have hln:(l1.length+(Lib.encodeRune (ps.getD k 0)).length)=(l1++(Lib.encodeRune (ps.getD k 0))).length:=by first | exact List.length_append.symm | (rw [List.length_append]; rfl)
  refine M0 (E':=[⟨3,[],.slice a6 (l1.length+(Lib.encodeRune (ps.getD k 0)).length) cap7⟩,⟨6,[],.slice a ps.length c⟩,⟨7,[],.int .i64 ((ps.length:Nat):Int)⟩,⟨8,[],.int .i64 (((k:Nat):Int)+1)⟩]) kr (M0 (E':=[⟨3,[],.slice a6 ((l1++(Lib.encodeRune (ps.getD k 0))).length) cap7⟩,⟨6,[],.slice a ps.length c⟩,⟨7,[],.int .i64 ((ps.length:Nat):Int)⟩,⟨8,[],.int .i64 (((k:Nat):Int)+1)⟩]) (by rw [hln]) (F9 1 [1] (D2 (s':=(a6,cap7,g4,(l1++(Lib.encodeRune (ps.getD k 0))),k+1)) [3,6,7,8] kr kr ⟨(N7 hO5 hln (by dsimp only; first | exact (Go.Sha.u8s_append _ _).symm | (rw [Go.Sha.u8s_append]; rfl))),(by (try dsimp only); omega),(by dsimp only; rw [takeI _ hlt,encL_app,← hT]; congr 1; exact (List.append_nil _).symm)⟩ (by (try dsimp only); omega))))
 ·
  simp only [decide_eq_false_iff_not] at hc1
  refine E8 (A6 (A6 (B5 (A0 (A1 (A2 (A3 (j:=1) [0] (k:=GL_bytesB (ch:=[]) (a:=ra) (cap:=rc) (e:=5) (S:=(inG rg)) (bk l1) (hrd:=I4 hO) (hS:=D7 0 rfl) (k:=?_)))))))))
  refine B1 (E':=[⟨2,[],.string (bk l1)⟩]) [0] [2] (k:=A0 (B9 (F9 1 [] (B6 [.tmp 2] [.string (bk l1)] (k:=?_)))))
  exact ⟨congrArg Value.string (by rw [hT,List.take_of_length_le (by omega)]),rfl⟩
theorem fixed_ (s:ByteArray) (hs:s.size≤1000000000) (W0:World) (H:List Grp):Tri Tryz.prog 75 #[.string s] W0 H (fun v H'=>∃ a c g,v=.slice a (G1 s.data.toList).length c∧Go.Sw.Own 3 1 (.slice a (G1 s.data.toList).length c) g (G1 s.data.toList).length (intV (G1 s.data.toList))∧H'=g::H):=by
 refine D3 21 Tryz.func75 ?_
 refine A1 (C1 (E':=[⟨0,[],.string s⟩]) [0] [0] (k:=A0 (A1 (G_p [0] [0,3] (k:=A0 (A1 (A1 (A2 ?_))))))))
 refine A3 (j:=1) [0] (k:=D9 Tryz.func94 (points_ s (by omega) _ _) ?_)
 rintro _ _ ⟨iap0,icp0,igp0,rfl,iOp0,rfl⟩
 refine A7 [0,0] [3,7,8,9] (k:=A0 (B4 (T5 (H':=([]::igp0::H)) (fun w h=>h.flat (List.Perm.refl _)) (J7 (EI:=(fun ξ:Option Addr × Nat × Grp × List Int × Nat=>[⟨3,[],.slice ξ.1 ξ.2.2.2.1.length ξ.2.1⟩,⟨7,[],.slice iap0 ((pts s.data.toList).length) icp0⟩,⟨8,[],.int .i64 (((pts s.data.toList).length:Nat):Int)⟩,⟨9,[],.int .i64 ((ξ.2.2.2.2:Nat):Int)⟩])) (HI:=(fun ξ:Option Addr × Nat × Grp × List Int × Nat=>(ξ.2.2.1::igp0::H))) (Φ:=(fun ξ:Option Addr × Nat × Grp × List Int × Nat=>(Go.Sw.Own 3 1 (.slice ξ.1 ξ.2.2.2.1.length ξ.2.1) ξ.2.2.1 ξ.2.2.2.1.length (intV ξ.2.2.2.1))∧(ξ.2.2.2.2≤(pts s.data.toList).length)∧(ξ.2.2.2.1=((pts s.data.toList).take ξ.2.2.2.2).map fixP))) (μ:=(fun ξ:Option Addr × Nat × Grp × List Int × Nat=>(pts s.data.toList).length - ξ.2.2.2.2)) (s0:=(none,0,[],[],0)) [3,7,8,9] kr rfl ⟨Go.Sw.Own.nil,(by (try dsimp only); omega),rfl⟩ ?_))))
 rintro ⟨ra,rc,rg,l1,k⟩ ⟨hO,hk,hT⟩
 dsimp only at hO hk hT
 have hpl:=pts_len s.data.toList
 rw [H7] at hpl
 have hll:l1.length≤s.size:=by
  rw [hT,List.length_map,List.length_take]; omega
 refine A1 (G_p [0] [3,7,8,9,10] (k:=A0 (A1 (B2 (b:=decide (((k:Nat):Int)<(((pts s.data.toList).length:Nat):Int))) kr (fun hc2=>?_) (fun hc2=>?_)))))
 ·
  simp only [decide_eq_true_eq] at hc2
  have hlt:k<(pts s.data.toList).length:=by omega
  refine A8 (A0 (A1 (B4 (A1 (A2 (E6 (a:=iap0) (S:=(inG igp0)) (cs:=(intV (pts s.data.toList))) ((pts s.data.toList).length) ((k:Nat):Int) 1 (I4 iOp0) (by exact ⟨by omega,by omega,iv_ne (by omega)⟩) (H6 (a:=iap0) (S:=(inG igp0)) (cs:=(intV (pts s.data.toList))) (k * 1) (.int .i64 ((pts s.data.toList).getD k 0)) (I4 iOp0) (D7 1 rfl) (fun _=>(by rw [Nat.mul_one]; exact iv_at (ps:=(pts s.data.toList)) (k:=k) (by omega))) (A7 [0] [3,5,7,8,9] (k:=?_)))))))))
  refine A0 (A1 (A1 (G_p [0,0] [3,5,7,8,9,14] (k:=A0 (B2 (b:=decide (((pts s.data.toList).getD k 0)<0)) kr (fun hc3=>?_) (fun hc3=>?_))))))
  ·
   simp only [decide_eq_true_eq] at hc3
   refine G_p [0] [3,5,7,8,9] (k:=A0 (A2 (A3 (j:=2) [0,0] (k:=J2 3 1 [.int .i64 65533] (fun b4=>M1 (inf:=Tryz.t3) 1 0 1 rfl rfl hO (by omega) (by show (l1.length+1) * 8≤140737488355328; omega) (fun v5 g6 hO7=>?_))))))
   obtain ⟨a8,cap9,rfl,hcap10,hrd11⟩:=hO7.shape
   refine A7 [0] [3,7,8,9] (k:=B7 (A0 (A2 (A3 (j:=1) [0] (k:=D1 19 (((k:Nat):Int)+1) (by omega) (by omega) kr (B1 (E':=[⟨3,[],.slice a8 (l1.length+1) cap9⟩,⟨7,[],.slice iap0 ((pts s.data.toList).length) icp0⟩,⟨8,[],.int .i64 (((pts s.data.toList).length:Nat):Int)⟩,⟨9,[],.int .i64 (((k:Nat):Int)+1)⟩]) [0] [3,7,8,9] (k:=?_)))))))
   have hln:(l1.length+1)=(l1++[65533]).length:=by first | exact List.length_append.symm | (rw [List.length_append]; rfl)
   refine M0 (E':=[⟨3,[],.slice a8 ((l1++[65533]).length) cap9⟩,⟨7,[],.slice iap0 ((pts s.data.toList).length) icp0⟩,⟨8,[],.int .i64 (((pts s.data.toList).length:Nat):Int)⟩,⟨9,[],.int .i64 (((k:Nat):Int)+1)⟩]) (by rw [hln]) (F9 1 [1,1] (D2 (s':=(a8,cap9,g6,(l1++[65533]),k+1)) [3,7,8,9] kr kr ⟨(N7 hO7 hln (by dsimp only; first | exact (iv_app _ _).symm | (rw [iv_app]; rfl))),(by (try dsimp only); omega),(by dsimp only; rw [takeI _ hlt,List.map_append,← hT]; unfold fixP; simp only [List.map_cons,List.map_nil]; first | rw [if_pos (by omega)] | rw [if_neg (by omega)])⟩ (by (try dsimp only); omega)))
  ·
   simp only [decide_eq_false_iff_not] at hc3
   refine A8 (A0 (A2 (A3 (j:=2) [0,0] (k:=J2 3 1 [.int .i64 ((pts s.data.toList).getD k 0)] (fun b13=>M1 (inf:=Tryz.t3) 1 0 1 rfl rfl hO (by omega) (by show (l1.length+1) * 8≤140737488355328; omega) (fun v14 g15 hO16=>?_))))))
   obtain ⟨a17,cap18,rfl,hcap19,hrd20⟩:=hO16.shape
   refine A7 [0] [3,7,8,9] (k:=B7 (A0 (A2 (A3 (j:=1) [0] (k:=D1 19 (((k:Nat):Int)+1) (by omega) (by omega) kr (A7 [0] [3,7,8,9] (k:=?_)))))))
   have hln:(l1.length+1)=(l1++[((pts s.data.toList).getD k 0)]).length:=by first | exact List.length_append.symm | (rw [List.length_append]; rfl)
   refine M0 (E':=[⟨3,[],.slice a17 (l1.length+1) cap18⟩,⟨7,[],.slice iap0 ((pts s.data.toList).length) icp0⟩,⟨8,[],.int .i64 (((pts s.data.toList).length:Nat):Int)⟩,⟨9,[],.int .i64 (((k:Nat):Int)+1)⟩]) kr (M0 (E':=[⟨3,[],.slice a17 ((l1++[((pts s.data.toList).getD k 0)]).length) cap18⟩,⟨7,[],.slice iap0 ((pts s.data.toList).length) icp0⟩,⟨8,[],.int .i64 (((pts s.data.toList).length:Nat):Int)⟩,⟨9,[],.int .i64 (((k:Nat):Int)+1)⟩]) (by rw [hln]) (F9 1 [1,1] (D2 (s':=(a17,cap18,g15,(l1++[((pts s.data.toList).getD k 0)]),k+1)) [3,7,8,9] kr kr ⟨(N7 hO16 hln (by dsimp only; first | exact (iv_app _ _).symm | (rw [iv_app]; rfl))),(by (try dsimp only); omega),(by dsimp only; rw [takeI _ hlt,List.map_append,← hT]; unfold fixP; simp only [List.map_cons,List.map_nil]; first | rw [if_pos (by omega)] | rw [if_neg (by omega)])⟩ (by (try dsimp only); omega))))
 ·
  simp only [decide_eq_false_iff_not] at hc2
  refine E8 (A6 (A6 (B5 (A0 (A1 (C1 (E':=[⟨2,[],.slice ra l1.length rc⟩]) [0,0] [2] (k:=A0 (B9 ?_))))))))
  refine F9 1 [0] (B6 [.tmp 2] [.slice ra l1.length rc] (k:=?_))
  have he:l1=G1 s.data.toList:=by rw [hT,List.take_of_length_le (by omega),runes_pts]
  rw [he] at hO ⊢
  exact ⟨_,_,_,rfl,hO,rfl⟩
theorem rplain_ (s:ByteArray) (hs:s.size≤1000000000) (W0:World) (H:List Grp):Tri Tryz.prog 45 #[.string s] W0 H (fun v H'=>v=.string ⟨(G4 s.data.toList).toArray⟩∧H'=H):=by
 refine D3 42 Tryz.func45 ?_
 refine A1 (C1 (E':=[⟨0,[],.string s⟩]) [0] [0] (k:=A0 (A1 (G_p [0] [0,3] (k:=A0 (A1 (A1 (A2 ?_))))))))
 refine A3 (j:=1) [0] (k:=D9 Tryz.func75 (fixed_ s (by omega) _ _) ?_)
 rintro _ _ ⟨iaf0,icf0,igf0,rfl,iOf0,rfl⟩
 refine A7 [0,0] [3,7,8,9] (k:=A0 (B4 (T5 (H':=([]::igf0::H)) (fun w h=>h.flat (List.Perm.refl _)) (J7 (EI:=(fun ξ:Option Addr × Nat × Grp × List Int × Nat=>[⟨3,[],.slice ξ.1 ξ.2.2.2.1.length ξ.2.1⟩,⟨7,[],.slice iaf0 ((G1 s.data.toList).length) icf0⟩,⟨8,[],.int .i64 (((G1 s.data.toList).length:Nat):Int)⟩,⟨9,[],.int .i64 ((ξ.2.2.2.2:Nat):Int)⟩])) (HI:=(fun ξ:Option Addr × Nat × Grp × List Int × Nat=>(ξ.2.2.1::igf0::H))) (Φ:=(fun ξ:Option Addr × Nat × Grp × List Int × Nat=>(Go.Sw.Own 3 1 (.slice ξ.1 ξ.2.2.2.1.length ξ.2.1) ξ.2.2.1 ξ.2.2.2.1.length (intV ξ.2.2.2.1))∧(ξ.2.2.2.2≤(G1 s.data.toList).length)∧(ξ.2.2.2.1=((G1 s.data.toList).take ξ.2.2.2.2).filter K5))) (μ:=(fun ξ:Option Addr × Nat × Grp × List Int × Nat=>(G1 s.data.toList).length - ξ.2.2.2.2)) (s0:=(none,0,[],[],0)) [3,7,8,9] kr rfl ⟨Go.Sw.Own.nil,(by (try dsimp only); omega),rfl⟩ ?_))))
 rintro ⟨ra,rc,rg,l1,k⟩ ⟨hO,hk,hT⟩
 dsimp only at hO hk hT
 have hpn:=runes_len s.data.toList
 rw [H7] at hpn
 have hll:l1.length≤s.size:=by
  have h1:=List.length_filter_le K5 ((G1 s.data.toList).take k)
  rw [← hT,List.length_take] at h1; omega
 refine A1 (G_p [0] [3,7,8,9,10] (k:=A0 (A1 (B2 (b:=decide (((k:Nat):Int)<(((G1 s.data.toList).length:Nat):Int))) kr (fun hc2=>?_) (fun hc2=>?_)))))
 ·
  simp only [decide_eq_true_eq] at hc2
  have hlt:k<(G1 s.data.toList).length:=by omega
  refine A8 (A0 (A1 (B4 (A1 (A2 (E6 (a:=iaf0) (S:=(inG igf0)) (cs:=(intV (G1 s.data.toList))) ((G1 s.data.toList).length) ((k:Nat):Int) 1 (I4 iOf0) (by exact ⟨by omega,by omega,iv_ne (by omega)⟩) (H6 (a:=iaf0) (S:=(inG igf0)) (cs:=(intV (G1 s.data.toList))) (k * 1) (.int .i64 ((G1 s.data.toList).getD k 0)) (I4 iOf0) (D7 1 rfl) (fun _=>(by rw [Nat.mul_one]; exact iv_at (ps:=(G1 s.data.toList)) (k:=k) (by omega))) (A7 [0] [3,5,7,8,9] (k:=?_)))))))))
  refine A0 (A1 (G_p [0,0,0,0,0,6,0,0,0,6,0,0,0,5,0,0,0,5,0,0,0,5] [3,5,7,8,9,34] (k:=A0 (B2 (b:=(((((decide (((G1 s.data.toList).getD k 0) ≥ 32))&&(((G1 s.data.toList).getD k 0) != 65534))&&(((G1 s.data.toList).getD k 0) != 65535))||(((G1 s.data.toList).getD k 0)==9))||(((G1 s.data.toList).getD k 0)==10))||(((G1 s.data.toList).getD k 0)==13)) kr (fun hc3=>?_) (fun hc3=>?_)))))
  ·
   have hpl:K5 ((G1 s.data.toList).getD k 0)=true:=hc3
   refine A2 (A3 (j:=2) [0,0] (k:=J2 3 1 [.int .i64 ((G1 s.data.toList).getD k 0)] (fun b4=>M1 (inf:=Tryz.t3) 1 0 1 rfl rfl hO (by omega) (by show (l1.length+1) * 8≤140737488355328; omega) (fun v5 g6 hO7=>?_))))
   obtain ⟨a8,cap9,rfl,hcap10,hrd11⟩:=hO7.shape
   refine A7 [0] [3,7,8,9] (k:=B7 (A0 (A2 (A3 (j:=1) [0] (k:=D1 39 (((k:Nat):Int)+1) (by omega) (by omega) kr (A7 [0] [3,7,8,9] (k:=?_)))))))
   have hln:(l1.length+1)=(l1++[((G1 s.data.toList).getD k 0)]).length:=by first | exact List.length_append.symm | (rw [List.length_append]; rfl)
   refine M0 (E':=[⟨3,[],.slice a8 (l1.length+1) cap9⟩,⟨7,[],.slice iaf0 ((G1 s.data.toList).length) icf0⟩,⟨8,[],.int .i64 (((G1 s.data.toList).length:Nat):Int)⟩,⟨9,[],.int .i64 (((k:Nat):Int)+1)⟩]) kr (M0 (E':=[⟨3,[],.slice a8 ((l1++[((G1 s.data.toList).getD k 0)]).length) cap9⟩,⟨7,[],.slice iaf0 ((G1 s.data.toList).length) icf0⟩,⟨8,[],.int .i64 (((G1 s.data.toList).length:Nat):Int)⟩,⟨9,[],.int .i64 (((k:Nat):Int)+1)⟩]) (by rw [hln]) (F9 1 [1,1] (D2 (s':=(a8,cap9,g6,(l1++[((G1 s.data.toList).getD k 0)]),k+1)) [3,7,8,9] kr kr ⟨(N7 hO7 hln (by dsimp only; first | exact (iv_app _ _).symm | (rw [iv_app]; rfl))),(by (try dsimp only); omega),(by dsimp only; rw [takeI _ hlt,List.filter_append,← hT]; simp only [List.filter_cons,List.filter_nil,hpl,if_true])⟩ (by (try dsimp only); omega))))
  ·
   have hpl:K5 ((G1 s.data.toList).getD k 0)=false:=hc3
   refine A8 (B7 (A0 (A2 (A3 (j:=1) [0] (k:=D1 39 (((k:Nat):Int)+1) (by omega) (by omega) kr (A7 [0] [3,7,8,9] (k:=D2 (s':=(ra,rc,rg,l1,k+1)) [3,7,8,9] kr rfl ⟨hO,(by (try dsimp only); omega),(by dsimp only; rw [takeI _ hlt,List.filter_append,← hT]; simp only [List.filter_cons,List.filter_nil,hpl,Bool.false_eq_true,if_false,List.append_nil])⟩ (by (try dsimp only); omega))))))))
 ·
  simp only [decide_eq_false_iff_not] at hc2
  refine E8 (A6 (A6 (B5 (A0 (A1 (A2 (A3 (j:=1) [0] (k:=D9 Tryz.func76 (text_ ra rc l1 (inG rg) (I4 hO) (by rw [hT]; intro p hp; exact runes_isR s.data.toList p (List.mem_of_mem_take (List.mem_filter.1 hp).1)) (by omega) _ _ (D7 0 rfl)) ?_))))))))
  rintro _ _ ⟨rfl,rfl⟩
  refine B1 (E':=[⟨2,[],.string (bk (I6 l1))⟩]) [0] [2] (k:=A0 (B9 (F9 2 [] (B6 [.tmp 2] [.string (bk (I6 l1))] (k:=?_)))))
  exact ⟨congrArg Value.string (by rw [hT,List.take_of_length_le (by omega)]; rfl),rfl⟩
end Go.Proofs.YtppgfiklmfoaeaaGreatDoor
namespace Go.Proofs.YtppgfiklmfoaeaaGreatDoor
open Go.Sw Go.Sha Go.Esc Go.RowKit Go.Xml
theorem lines_skip {l:List UInt8} {i:Nat} (hi:i+1<l.length) (h0:l.getD i 0=13) (h1:l.getD (i+1) 0=10):B0 (l.drop i)=B0 (l.drop (i+1)):=by
  rw [drop_getD (show i<l.length by omega),drop_getD hi,h0,h1,lines_cr,lines_no (by decide)]
theorem lines_turn {l:List UInt8} {i:Nat} (hi:i<l.length) (h0:l.getD i 0=13) (h1:¬ (i+1<l.length∧l.getD (i+1) 0=10)):B0 (l.drop i)=[10]++B0 (l.drop (i+1)):=by
  rw [drop_getD hi,h0,lines_13]; rfl
  intro u hu
  by_cases h2:i+1<l.length
  · rw [drop_getD h2] at hu; injection hu with hu _; exact h1 ⟨h2,hu⟩
  · rw [List.drop_eq_nil_of_le (by omega)] at hu; cases hu
theorem lines_stay {l:List UInt8} {i:Nat} {b:UInt8} (hi:i<l.length) (hb:b=l.getD i 0) (h0:¬ b=13):B0 (l.drop i)=[b]++B0 (l.drop (i+1)):=by
  rw [drop_getD hi,← hb,lines_no h0]; rfl
theorem rlines_ (s:ByteArray) (hs:s.size≤100000000) (W0:World) (H:List Grp):Tri Tryz.prog 44 #[.string s] W0 H (fun v H'=>v=.string ⟨(B0 s.data.toList).toArray⟩∧H'=H):=by
 refine D3 44 Tryz.func44 ?_
 refine A1 (C1 (E':=[⟨0,[],.string s⟩]) [0] [0] (k:=A0 (A1 (G_p [0] [0,3] (k:=A0 (A1 (A1 (G_p [0] [0,3,4] (k:=?_)))))))))
 refine A0 (B4 (T5 (H':=([]::H)) (fun w h=>h.flat (List.Perm.refl _)) (J7 (EI:=(fun ξ:Option Addr × Nat × Grp × List UInt8 × Nat=>[⟨0,[],.string s⟩,⟨3,[],.slice ξ.1 ξ.2.2.2.1.length ξ.2.1⟩,⟨4,[],.int .i64 ((ξ.2.2.2.2:Nat):Int)⟩])) (HI:=(fun ξ:Option Addr × Nat × Grp × List UInt8 × Nat=>(ξ.2.2.1::H))) (Φ:=(fun ξ:Option Addr × Nat × Grp × List UInt8 × Nat=>(Go.Sw.Own 5 1 (.slice ξ.1 ξ.2.2.2.1.length ξ.2.1) ξ.2.2.1 ξ.2.2.2.1.length (u8s ξ.2.2.2.1))∧(ξ.2.2.2.2≤s.size)∧(ξ.2.2.2.1++B0 (s.data.toList.drop ξ.2.2.2.2)=B0 s.data.toList))) (μ:=(fun ξ:Option Addr × Nat × Grp × List UInt8 × Nat=>s.size - ξ.2.2.2.2)) (s0:=(none,0,[],[],0)) [0,3,4] kr rfl ⟨Go.Sw.Own.nil,(by (try dsimp only); omega),rfl⟩ ?_)))
 rintro ⟨ra,rc,rg,l1,i⟩ ⟨hO,hi,hT⟩
 dsimp only at hO hi hT
 have hll:l1.length≤s.size:=by
  have h1:=congrArg List.length hT
  have h2:=P2 s.data.toList
  rw [List.length_append] at h1; rw [H7] at h2; omega
 obtain ⟨b,hb⟩:∃ b:UInt8,b=s.data.toList.getD i 0:=⟨_,rfl⟩
 have hbyte:A9 s (i:Int)=(b.toNat:Int):=by rw [K4,hb]
 obtain ⟨d,hd⟩:∃ d:UInt8,d=s.data.toList.getD (i+1) 0:=⟨_,rfl⟩
 have hdyte:A9 s ((i:Int)+1)=(d.toNat:Int):=by rw [← Int.natCast_succ,K4,hd]
 refine A1 (A1 (G_p [0,0,0,0] [0,3,4,8] (k:=A0 (B2 (b:=decide (((i:Nat):Int)<(s.size:Int))) kr (fun hc1=>?_) (fun hc1=>?_)))))
 ·
  simp only [decide_eq_true_eq] at hc1
  have hlt:i<s.data.toList.length:=by rw [H7]; omega
  refine A8 (A0 (A1 (B4 (A1 (A1 ?_)))))
  rcases (show (b≠13)∨(b=13∧¬ i+1<s.size)∨(b=13∧i+1<s.size) from by by_cases h1:b=13 <;> by_cases h2:i+1<s.size <;> simp [h1,h2]) with h13 | h13 | h13
  ·
   have hn13:¬ (b.toNat:Int)=13:=by intro h; exact h13 (UInt8.toNat_inj.1 (by show b.toNat=13; omega))
   refine A2 (A3 (j:=2) [0,0] (k:=H0 s ((i:Nat):Int) (fun _=>by omega) ?_))
   have hb2:=F3 s ((i:Nat):Int)
   refine A3 (j:=4) [0] (k:=E5 14 (x:=.bool ((A9 s ((i:Nat):Int))==13)) (y:=.bool false) (by rw [hbyte,show ((b.toNat:Int)==13)=false from beq_eq_false_iff_ne.2 hn13]) (A7 [0,1,1,1,1,1,3,0,1,1,1,1,1,3] [0,3,4,28] (k:=A0 (C8 kr (A8 (A0 (A1 (A2 ?_))))))))
   refine A3 (j:=2) [0,0] (k:=H0 s ((i:Nat):Int) (fun _=>by omega) ?_)
   have hb3:=F3 s ((i:Nat):Int)
   refine E5 31 (x:=.int .u8 (A9 s ((i:Nat):Int))) (y:=.int .u8 (b.toNat:Int)) (by rw [hbyte]) (A7 [0] [0,3,4,32] (k:=A0 (B2 (b:=(b.toNat:Int)==13) kr (fun hc4=>?_) (fun hc4=>?_))))
   ·
    have hb13:b=13:=UInt8.toNat_inj.1 (by show b.toNat=13; have:=hc4; simp only [beq_iff_eq] at this; omega)
    have hst:B0 (s.data.toList.drop i)=[10]++B0 (s.data.toList.drop (i+1)):=by first | exact lines_turn hlt (by rw [← hb,hb13]) hno | exact absurd hb13 h13
    refine A2 (A3 (j:=1) [0] (k:=J2 5 1 [.int .u8 10] (fun b5=>M1 (inf:=Tryz.t5) 1 0 1 rfl rfl hO (by omega) (by show (l1.length+1) * 1≤140737488355328; omega) (fun v6 g7 hO8=>?_))))
    obtain ⟨a9,cap10,rfl,hcap11,hrd12⟩:=hO8.shape
    refine A7 [0] [0,3,4] (k:=B7 (A0 (A2 (A3 (j:=2) [0,0] (k:=D1 10 (((i:Nat):Int)+1) (by omega) (by omega) kr (A7 [0] [0,3,4] (k:=?_)))))))
    have hln:(l1.length+1)=(l1++[10]).length:=by first | exact List.length_append.symm | (rw [List.length_append]; rfl)
    refine M0 (E':=[⟨0,[],.string s⟩,⟨3,[],.slice a9 (l1.length+1) cap10⟩,⟨4,[],.int .i64 (((i:Nat):Int)+1)⟩]) kr (M0 (E':=[⟨0,[],.string s⟩,⟨3,[],.slice a9 ((l1++[10]).length) cap10⟩,⟨4,[],.int .i64 (((i:Nat):Int)+1)⟩]) (by rw [hln]) (F9 1 [1] (D2 (s':=(a9,cap10,g7,(l1++[10]),i+1)) [0,3,4] kr kr ⟨(N7 hO8 hln (by dsimp only; first | exact (Go.Sha.u8s_append _ _).symm | (rw [Go.Sha.u8s_append]; rfl))),(by dsimp only; omega),(by dsimp only; rw [List.append_assoc,← hst]; exact hT)⟩ (by dsimp only; omega))))
   ·
    have hst:B0 (s.data.toList.drop i)=[b]++B0 (s.data.toList.drop (i+1)):=lines_stay hlt hb (by rintro rfl; have:=hc4; simp at this)
    refine A2 (A3 (j:=3) [0,0,0] (k:=H0 s ((i:Nat):Int) (fun _=>by omega) ?_))
    have hb14:=F3 s ((i:Nat):Int)
    refine E5 39 (x:=.int .u8 (A9 s ((i:Nat):Int))) (y:=.int .u8 (b.toNat:Int)) (by rw [hbyte]) (J2 5 1 [.int .u8 (b.toNat:Int)] (fun b15=>M1 (inf:=Tryz.t5) 1 0 1 rfl rfl hO (by omega) (by show (l1.length+1) * 1≤140737488355328; omega) (fun v16 g17 hO18=>?_)))
    obtain ⟨a19,cap20,rfl,hcap21,hrd22⟩:=hO18.shape
    refine A7 [0] [0,3,4] (k:=B7 (A0 (A2 (A3 (j:=2) [0,0] (k:=D1 10 (((i:Nat):Int)+1) (by omega) (by omega) kr (A7 [0] [0,3,4] (k:=?_)))))))
    have hln:(l1.length+1)=(l1++[b]).length:=by first | exact List.length_append.symm | (rw [List.length_append]; rfl)
    refine M0 (E':=[⟨0,[],.string s⟩,⟨3,[],.slice a19 (l1.length+1) cap20⟩,⟨4,[],.int .i64 (((i:Nat):Int)+1)⟩]) kr (M0 (E':=[⟨0,[],.string s⟩,⟨3,[],.slice a19 ((l1++[b]).length) cap20⟩,⟨4,[],.int .i64 (((i:Nat):Int)+1)⟩]) (by rw [hln]) (F9 1 [1] (D2 (s':=(a19,cap20,g17,(l1++[b]),i+1)) [0,3,4] kr kr ⟨(N7 hO18 hln (by dsimp only; first | exact (Go.Sha.u8s_append _ _).symm | (rw [Go.Sha.u8s_append]; rfl))),(by dsimp only; omega),(by dsimp only; rw [List.append_assoc,← hst]; exact hT)⟩ (by dsimp only; omega))))
  ·
   have hno:¬ (i+1<s.data.toList.length∧s.data.toList.getD (i+1) 0=10):=by rw [H7]; exact fun h=>h13.2 h.1
   refine A2 (A3 (j:=2) [0,0] (k:=H0 s ((i:Nat):Int) (fun _=>by omega) ?_))
   have hb24:=F3 s ((i:Nat):Int)
   refine A3 (j:=4) [0] (k:=E5 14 (x:=.bool ((A9 s ((i:Nat):Int))==13)) (y:=.bool true) (by rw [hbyte,h13.1]; rfl) (A3 (j:=7) [0,0,0] (k:=T6 17 [(15,true)] (x:=.int .i64 (IntKind.wrap .i64 (((i:Nat):Int)+1))) (y:=.int .i64 (((i:Nat):Int)+1)) (by rw [w64 (by omega) (by omega)]) (A3 (j:=10) [0,0,0] (k:=T6 20 [(15,true)] (x:=.bool (decide ((((i:Nat):Int)+1)<(s.size:Int)))) (y:=.bool false) (by rw [show decide (((i:Nat):Int)+1<((s.size:Nat):Int))=false from decide_eq_false (by omega)]) (A7 [2,0,1,1,1,1,1,3] [0,3,4,28] (k:=A0 (C8 kr ?_))))))))
   refine A8 (A0 (A1 (A2 (A3 (j:=2) [0,0] (k:=H0 s ((i:Nat):Int) (fun _=>by omega) ?_)))))
   have hb25:=F3 s ((i:Nat):Int)
   refine E5 31 (x:=.int .u8 (A9 s ((i:Nat):Int))) (y:=.int .u8 (b.toNat:Int)) (by rw [hbyte]) (A7 [0] [0,3,4,32] (k:=A0 (B2 (b:=(b.toNat:Int)==13) kr (fun hc26=>?_) (fun hc26=>?_))))
   ·
    have hb13:b=13:=UInt8.toNat_inj.1 (by show b.toNat=13; have:=hc26; simp only [beq_iff_eq] at this; omega)
    have hst:B0 (s.data.toList.drop i)=[10]++B0 (s.data.toList.drop (i+1)):=by first | exact lines_turn hlt (by rw [← hb,hb13]) hno | exact absurd hb13 h13
    refine A2 (A3 (j:=1) [0] (k:=J2 5 1 [.int .u8 10] (fun b27=>M1 (inf:=Tryz.t5) 1 0 1 rfl rfl hO (by omega) (by show (l1.length+1) * 1≤140737488355328; omega) (fun v28 g29 hO30=>?_))))
    obtain ⟨a31,cap32,rfl,hcap33,hrd34⟩:=hO30.shape
    refine A7 [0] [0,3,4] (k:=B7 (A0 (A2 (A3 (j:=2) [0,0] (k:=D1 10 (((i:Nat):Int)+1) (by omega) (by omega) kr (A7 [0] [0,3,4] (k:=?_)))))))
    have hln:(l1.length+1)=(l1++[10]).length:=by first | exact List.length_append.symm | (rw [List.length_append]; rfl)
    refine M0 (E':=[⟨0,[],.string s⟩,⟨3,[],.slice a31 (l1.length+1) cap32⟩,⟨4,[],.int .i64 (((i:Nat):Int)+1)⟩]) kr (M0 (E':=[⟨0,[],.string s⟩,⟨3,[],.slice a31 ((l1++[10]).length) cap32⟩,⟨4,[],.int .i64 (((i:Nat):Int)+1)⟩]) (by rw [hln]) (F9 1 [1] (D2 (s':=(a31,cap32,g29,(l1++[10]),i+1)) [0,3,4] kr kr ⟨(N7 hO30 hln (by dsimp only; first | exact (Go.Sha.u8s_append _ _).symm | (rw [Go.Sha.u8s_append]; rfl))),(by dsimp only; omega),(by dsimp only; rw [List.append_assoc,← hst]; exact hT)⟩ (by dsimp only; omega))))
   ·
    have hst:B0 (s.data.toList.drop i)=[b]++B0 (s.data.toList.drop (i+1)):=lines_stay hlt hb (by rintro rfl; have:=hc26; simp at this)
    refine A2 (A3 (j:=3) [0,0,0] (k:=H0 s ((i:Nat):Int) (fun _=>by omega) ?_))
    have hb36:=F3 s ((i:Nat):Int)
    refine E5 39 (x:=.int .u8 (A9 s ((i:Nat):Int))) (y:=.int .u8 (b.toNat:Int)) (by rw [hbyte]) (J2 5 1 [.int .u8 (b.toNat:Int)] (fun b37=>M1 (inf:=Tryz.t5) 1 0 1 rfl rfl hO (by omega) (by show (l1.length+1) * 1≤140737488355328; omega) (fun v38 g39 hO40=>?_)))
    obtain ⟨a41,cap42,rfl,hcap43,hrd44⟩:=hO40.shape
    refine A7 [0] [0,3,4] (k:=B7 (A0 (A2 (A3 (j:=2) [0,0] (k:=D1 10 (((i:Nat):Int)+1) (by omega) (by omega) kr (A7 [0] [0,3,4] (k:=?_)))))))
    have hln:(l1.length+1)=(l1++[b]).length:=by first | exact List.length_append.symm | (rw [List.length_append]; rfl)
    refine M0 (E':=[⟨0,[],.string s⟩,⟨3,[],.slice a41 (l1.length+1) cap42⟩,⟨4,[],.int .i64 (((i:Nat):Int)+1)⟩]) kr (M0 (E':=[⟨0,[],.string s⟩,⟨3,[],.slice a41 ((l1++[b]).length) cap42⟩,⟨4,[],.int .i64 (((i:Nat):Int)+1)⟩]) (by rw [hln]) (F9 1 [1] (D2 (s':=(a41,cap42,g39,(l1++[b]),i+1)) [0,3,4] kr kr ⟨(N7 hO40 hln (by dsimp only; first | exact (Go.Sha.u8s_append _ _).symm | (rw [Go.Sha.u8s_append]; rfl))),(by dsimp only; omega),(by dsimp only; rw [List.append_assoc,← hst]; exact hT)⟩ (by dsimp only; omega))))
  ·
   have h14:=h13
   refine A2 (A3 (j:=2) [0,0] (k:=H0 s ((i:Nat):Int) (fun _=>by omega) ?_))
   have hb46:=F3 s ((i:Nat):Int)
   refine A3 (j:=4) [0] (k:=E5 14 (x:=.bool ((A9 s ((i:Nat):Int))==13)) (y:=.bool true) (by rw [hbyte,h13.1]; rfl) (A3 (j:=7) [0,0,0] (k:=T6 17 [(15,true)] (x:=.int .i64 (IntKind.wrap .i64 (((i:Nat):Int)+1))) (y:=.int .i64 (((i:Nat):Int)+1)) (by rw [w64 (by omega) (by omega)]) (A3 (j:=10) [0,0,0] (k:=T6 20 [(15,true)] (x:=.bool (decide ((((i:Nat):Int)+1)<(s.size:Int)))) (y:=.bool true) (by rw [show decide (((i:Nat):Int)+1<((s.size:Nat):Int))=true from decide_eq_true (by omega)]) (A3 (j:=15) [2,0,0,0,0] (k:=T6 25 [(22,true)] (x:=.int .i64 (IntKind.wrap .i64 (((i:Nat):Int)+1))) (y:=.int .i64 (((i:Nat):Int)+1)) (by rw [w64 (by omega) (by omega)]) (GL_index (i:=15) (ch:=[(22,true)]) (s:=s) (kd:=.i64) (j:=((i:Nat):Int)+1) rfl rfl kr kr kr kr kr kr (fun hc=>by have hg0:=chB_hd (t:=22) (c:=[]) (b:=true) hc kr; (try simp at hg0); omega) ?_))))))))
   have hb47:=F3 s (((i:Nat):Int)+1)
   refine T6 26 [(22,true)] (x:=.int .u8 (A9 s (((i:Nat):Int)+1))) (y:=.int .u8 (d.toNat:Int)) (by rw [hdyte]) (A7 [0,2] [0,3,4,28] (k:=A0 (B2 (b:=(d.toNat:Int)==10) kr (fun hc48=>?_) (fun hc48=>?_))))
   ·
    have hst:B0 (s.data.toList.drop i)=B0 (s.data.toList.drop (i+1)):=lines_skip (by rw [H7]; omega) (by rw [← hb,h13.1]) (by rw [← hd]; exact UInt8.toNat_inj.1 (by show d.toNat=10; have:=hc48; simp only [beq_iff_eq] at this; omega))
    refine E8 (A6 (B5 (A0 (A2 (A3 (j:=2) [0,0] (k:=D1 10 (((i:Nat):Int)+1) (by omega) (by omega) kr (A7 [0] [0,3,4] (k:=D2 (s':=(ra,rc,rg,l1,i+1)) [0,3,4] kr rfl ⟨hO,(by dsimp only; omega),(by dsimp only; rw [← hst]; exact hT)⟩ (by dsimp only; omega)))))))))
   ·
    have hno:¬ (i+1<s.data.toList.length∧s.data.toList.getD (i+1) 0=10):=by
     rintro ⟨_,h9⟩
     rw [← hd] at h9
     have:=hc48; rw [h9] at this; simp at this
    refine A8 (A0 (A1 (A2 (A3 (j:=2) [0,0] (k:=H0 s ((i:Nat):Int) (fun _=>by omega) ?_)))))
    have hb50:=F3 s ((i:Nat):Int)
    refine E5 31 (x:=.int .u8 (A9 s ((i:Nat):Int))) (y:=.int .u8 (b.toNat:Int)) (by rw [hbyte]) (A7 [0] [0,3,4,32] (k:=A0 (B2 (b:=(b.toNat:Int)==13) kr (fun hc51=>?_) (fun hc51=>?_))))
    ·
     have hb13:b=13:=UInt8.toNat_inj.1 (by show b.toNat=13; have:=hc51; simp only [beq_iff_eq] at this; omega)
     have hst:B0 (s.data.toList.drop i)=[10]++B0 (s.data.toList.drop (i+1)):=by first | exact lines_turn hlt (by rw [← hb,hb13]) hno | exact absurd hb13 h13
     refine A2 (A3 (j:=1) [0] (k:=J2 5 1 [.int .u8 10] (fun b52=>M1 (inf:=Tryz.t5) 1 0 1 rfl rfl hO (by omega) (by show (l1.length+1) * 1≤140737488355328; omega) (fun v53 g54 hO55=>?_))))
     obtain ⟨a56,cap57,rfl,hcap58,hrd59⟩:=hO55.shape
     refine A7 [0] [0,3,4] (k:=B7 (A0 (A2 (A3 (j:=2) [0,0] (k:=D1 10 (((i:Nat):Int)+1) (by omega) (by omega) kr (A7 [0] [0,3,4] (k:=?_)))))))
     have hln:(l1.length+1)=(l1++[10]).length:=by first | exact List.length_append.symm | (rw [List.length_append]; rfl)
     refine M0 (E':=[⟨0,[],.string s⟩,⟨3,[],.slice a56 (l1.length+1) cap57⟩,⟨4,[],.int .i64 (((i:Nat):Int)+1)⟩]) kr (M0 (E':=[⟨0,[],.string s⟩,⟨3,[],.slice a56 ((l1++[10]).length) cap57⟩,⟨4,[],.int .i64 (((i:Nat):Int)+1)⟩]) (by rw [hln]) (F9 1 [1] (D2 (s':=(a56,cap57,g54,(l1++[10]),i+1)) [0,3,4] kr kr ⟨(N7 hO55 hln (by dsimp only; first | exact (Go.Sha.u8s_append _ _).symm | (rw [Go.Sha.u8s_append]; rfl))),(by dsimp only; omega),(by dsimp only; rw [List.append_assoc,← hst]; exact hT)⟩ (by dsimp only; omega))))
    ·
     have hst:B0 (s.data.toList.drop i)=[b]++B0 (s.data.toList.drop (i+1)):=lines_stay hlt hb (by rintro rfl; have:=hc51; simp at this)
     refine A2 (A3 (j:=3) [0,0,0] (k:=H0 s ((i:Nat):Int) (fun _=>by omega) ?_))
     have hb61:=F3 s ((i:Nat):Int)
     refine E5 39 (x:=.int .u8 (A9 s ((i:Nat):Int))) (y:=.int .u8 (b.toNat:Int)) (by rw [hbyte]) (J2 5 1 [.int .u8 (b.toNat:Int)] (fun b62=>M1 (inf:=Tryz.t5) 1 0 1 rfl rfl hO (by omega) (by show (l1.length+1) * 1≤140737488355328; omega) (fun v63 g64 hO65=>?_)))
     obtain ⟨a66,cap67,rfl,hcap68,hrd69⟩:=hO65.shape
     refine A7 [0] [0,3,4] (k:=B7 (A0 (A2 (A3 (j:=2) [0,0] (k:=D1 10 (((i:Nat):Int)+1) (by omega) (by omega) kr (A7 [0] [0,3,4] (k:=?_)))))))
     have hln:(l1.length+1)=(l1++[b]).length:=by first | exact List.length_append.symm | (rw [List.length_append]; rfl)
     refine M0 (E':=[⟨0,[],.string s⟩,⟨3,[],.slice a66 (l1.length+1) cap67⟩,⟨4,[],.int .i64 (((i:Nat):Int)+1)⟩]) kr (M0 (E':=[⟨0,[],.string s⟩,⟨3,[],.slice a66 ((l1++[b]).length) cap67⟩,⟨4,[],.int .i64 (((i:Nat):Int)+1)⟩]) (by rw [hln]) (F9 1 [1] (D2 (s':=(a66,cap67,g64,(l1++[b]),i+1)) [0,3,4] kr kr ⟨(N7 hO65 hln (by dsimp only; first | exact (Go.Sha.u8s_append _ _).symm | (rw [Go.Sha.u8s_append]; rfl))),(by dsimp only; omega),(by dsimp only; rw [List.append_assoc,← hst]; exact hT)⟩ (by dsimp only; omega))))
 ·
  simp only [decide_eq_false_iff_not] at hc1
  refine E8 (A6 (A6 (B5 (A0 (A1 (A2 (A3 (j:=1) [0] (k:=GL_bytesB (ch:=[]) (a:=ra) (cap:=rc) (e:=5) (S:=(inG rg)) (bk l1) (hrd:=I4 hO) (hS:=D7 0 rfl) (k:=?_)))))))))
  refine B1 (E':=[⟨2,[],.string (bk l1)⟩]) [0] [2] (k:=A0 (B9 (F9 1 [] (B6 [.tmp 2] [.string (bk l1)] (k:=?_)))))
  have he:l1=B0 s.data.toList:=by rw [← hT,List.drop_eq_nil_of_le (by rw [H7]; omega)]; rw [show B0 []=[] from by rw [B0]]; exact (List.append_nil _).symm
  exact ⟨congrArg Value.string (by rw [he]),rfl⟩
end Go.Proofs.YtppgfiklmfoaeaaGreatDoor
namespace Go.Xml
open Go.Esc Go.Json Go.Lib
theorem idx1_none {c:UInt8}:∀ {l:List UInt8},idxL [c] l=none→∀ b∈l,b≠c
  | [],_=>fun _ h=>absurd h List.not_mem_nil
  | b::l,h=>by
    unfold idxL at h
    split at h
    · cases h
    · rename_i hp
      cases hq:idxL [c] l with
      | some j=>rw [hq] at h; cases h
      | none =>
        intro x hx
        rcases List.mem_cons.1 hx with rfl | hx
        · rintro rfl; exact hp (by simp)
        · exact idx1_none hq x hx
theorem idx1_at {c:UInt8}:∀ {p u:List UInt8},(∀ b∈p,b≠c)→idxL [c] (p++c::u)=some p.length
  | [],u,_=>by simp [idxL,List.isPrefixOf]
  | b::p,u,h=>by
    have hb:b≠c:=h b List.mem_cons_self
    rw [List.cons_append,idxL,idx1_at (fun x hx=>h x (List.mem_cons_of_mem _ hx)),if_neg (by simpa [List.isPrefixOf] using fun e=>hb e.symm)]
    rfl
def Wr (l:List UInt8) (ps:List Int):Prop:=l=I6 ps∧∀ p∈ps,isR p∧K5 p=true∧p≠13
theorem plX_wr {l:List UInt8} (h:plX l=true):∃ ps,Wr l ps:=by
  unfold plX at h
  rw [Bool.and_eq_true,Bool.and_eq_true,Bool.not_eq_true',beq_iff_eq] at h
  obtain ⟨⟨h1,h2⟩,h3⟩:=h
  obtain ⟨ps,hp,e⟩:=pl_of h1 h2
  have h13:=idx1_none (c:=13) (l:=l) (by cases hq:idxL [13] l with | none=>rfl | some i=>rw [hq] at h3; cases h3)
  refine ⟨ps,e,fun p hq=>⟨(hp p hq).1,(hp p hq).2,?_⟩⟩
  rintro rfl
  refine h13 13 ?_ rfl
  rw [e]
  unfold I6
  rw [List.mem_flatMap]
  exact ⟨13,hq,by rw [show encodeRune 13=[13] from by decide +kernel]; exact List.mem_singleton.2 rfl⟩
theorem Wr.pl {l:List UInt8} {ps:List Int} (h:Wr l ps):Pl l:=⟨ps,fun p hp=>⟨(h.2 p hp).1,(h.2 p hp).2.1⟩,h.1⟩
theorem wr_html {l:List UInt8} {ps:List Int} (h:Wr l ps):L7 l=ps.flatMap V6:=by
  rw [htmlL_eq]
  unfold keepL
  rw [h.1,runes_enc0 (fun p hp=>(h.2 p hp).1),List.filter_eq_self.2 (fun p hp=>(h.2 p hp).2.1)]
def quoP (p:Int):List UInt8:=if p=10 then [38,35,49,48,59] else if p=9 then [38,35,57,59] else V6 p
theorem quo_one {p:Int} (h:isR p):C2 D6 (V6 p)=quoP p:=by
  unfold quoP
  by_cases h1:p=10
  · subst h1; decide +kernel
  by_cases h2:p=9
  · subst h2; decide +kernel
  rw [if_neg h1,if_neg h2]
  unfold V6
  (repeat' split) <;> first | decide +kernel | skip
  refine W3 _ _ fun b hb=>?_
  have n1:b≠10:=enc_no h (c:=10) (by decide) h1 b hb
  have n2:b≠9:=enc_no h (c:=9) (by decide) h2 b hb
  unfold D6
  rw [if_neg n1,if_neg n2]
theorem quo_flat:∀ {ps:List Int},(∀ p∈ps,isR p)→C2 D6 (ps.flatMap V6)=ps.flatMap quoP
  | [],_=>rfl
  | p::ps,h=>by rw [List.flatMap_cons,K7,quo_one (h p List.mem_cons_self),quo_flat (fun q hq=>h q (List.mem_cons_of_mem _ hq)),List.flatMap_cons]
theorem wr_quo {l:List UInt8} {ps:List Int} (h:Wr l ps):C2 D6 (L7 l)=ps.flatMap quoP:=by
  rw [wr_html h,quo_flat (fun p hp=>(h.2 p hp).1)]
theorem rfs_lit {p t:List UInt8} {q:Int} (hr:X5 p=q) (hq:0≤q) (hp:K5 q=true) (h:∀ b∈p,b≠59):rfs (38::(p++59::t))=(rfs t).map (encodeRune q++·):=by
  rw [rfs_cons,if_neg (by simp),ref_at h]
  dsimp only
  rw [hr,if_neg (by rintro (h | h); omega; rw [hp] at h; cases h),show (p++59::t).drop (p.length+1)=t from by rw [show p++59::t=(p++[59])++t by simp,List.drop_left' (by simp)]]
theorem rfs_html {p:Int} (h:isR p) (t:List UInt8):rfs (V6 p++t)=(rfs t).map (encodeRune p++·):=by
  unfold V6
  by_cases e1:p=38
  · subst e1; exact rfs_lit (p:=[97,109,112]) (by decide +kernel) (by decide) (by decide) (by decide)
  rw [if_neg e1]
  by_cases e2:p=60
  · subst e2; exact rfs_lit (p:=[108,116]) (by decide +kernel) (by decide) (by decide) (by decide)
  rw [if_neg e2]
  by_cases e3:p=62
  · subst e3; exact rfs_lit (p:=[103,116]) (by decide +kernel) (by decide) (by decide) (by decide)
  rw [if_neg e3]
  by_cases e4:p=34
  · subst e4; exact rfs_lit (p:=[113,117,111,116]) (by decide +kernel) (by decide) (by decide) (by decide)
  rw [if_neg e4]
  by_cases e5:p=39
  · subst e5; exact rfs_lit (p:=[35,51,57]) (by decide +kernel) (by decide) (by decide) (by decide)
  rw [if_neg e5]
  exact rfs_keep _ _ (enc_no h (c:=38) (by decide) e1)
theorem rfs_quo {p:Int} (h:isR p) (t:List UInt8):rfs (quoP p++t)=(rfs t).map (encodeRune p++·):=by
  unfold quoP
  by_cases e1:p=10
  · subst e1; exact rfs_lit (p:=[35,49,48]) (by decide +kernel) (by decide) (by decide) (by decide)
  rw [if_neg e1]
  by_cases e2:p=9
  · subst e2; exact rfs_lit (p:=[35,57]) (by decide +kernel) (by decide) (by decide) (by decide)
  rw [if_neg e2]
  exact rfs_html h t
theorem rfs_flat (f:Int→List UInt8) (hf:∀ p,isR p→∀ t,rfs (f p++t)=(rfs t).map (encodeRune p++·)):∀ {ps:List Int},(∀ p∈ps,isR p)→rfs (ps.flatMap f)=some (I6 ps)
  | [],_=>rfl
  | p::ps,h=>by rw [List.flatMap_cons,hf p (h p List.mem_cons_self),rfs_flat f hf (fun q hq=>h q (List.mem_cons_of_mem _ hq)),I0]; rfl
theorem html_no13 {p:Int} (h:isR p) (h13:p≠13):∀ b∈V6 p,b≠13:=by
  unfold V6
  (repeat' split) <;> first | decide | exact enc_no h (c:=13) (by decide) h13
theorem quo_no13 {p:Int} (h:isR p) (h13:p≠13):∀ b∈quoP p,b≠13:=by
  unfold quoP
  split
  · decide
  · split
    · decide
    · exact html_no13 h h13
theorem lines_flat {f:Int→List UInt8} {ps:List Int} (hf:∀ p∈ps,∀ b∈f p,b≠13):B0 (ps.flatMap f)=ps.flatMap f:=by
  have h:=lines_keep (ps.flatMap f) [] (fun b hb=>by obtain ⟨p,hp,hb⟩:=List.mem_flatMap.1 hb; exact hf p hp b hb)
  rwa [List.append_nil,show B0 []=[] from by rw [B0],List.append_nil] at h
theorem refs_html {l:List UInt8} (h:plX l=true):refsE (L7 l)=some l:=by
  obtain ⟨ps,hw⟩:=plX_wr h
  unfold refsE
  rw [wr_html hw,lines_flat (fun p hp=>html_no13 (hw.2 p hp).1 (hw.2 p hp).2.2),rfs_flat V6 (fun p hp t=>rfs_html hp t) (fun p hp=>(hw.2 p hp).1),← hw.1]
theorem refs_quo {l:List UInt8} (h:plX l=true):refsE (C2 D6 (L7 l))=some l:=by
  obtain ⟨ps,hw⟩:=plX_wr h
  unfold refsE
  rw [wr_quo hw,lines_flat (fun p hp=>quo_no13 (hw.2 p hp).1 (hw.2 p hp).2.2),rfs_flat quoP (fun p hp t=>rfs_quo hp t) (fun p hp=>(hw.2 p hp).1),← hw.1]
theorem quo_bytes (l:List UInt8):∀ b∈C2 D6 (L7 l),b≠60∧b≠34:=by
  intro b hb
  unfold C2 at hb
  obtain ⟨c,hc,hb⟩:=List.mem_flatMap.1 hb
  have h:=html_bytes l c hc
  unfold D6 at hb
  split at hb
  · exact dec_all (M:=fun b=>b≠60∧b≠34) (l:=[38,35,49,48,59]) (by decide) hb
  · split at hb
    · exact dec_all (M:=fun b=>b≠60∧b≠34) (l:=[38,35,57,59]) (by decide) hb
    · rcases List.mem_singleton.1 hb with rfl; exact ⟨h.1,h.2.2.1⟩
def quoQ (p:Int):List Int:=if p=10 then [38,35,49,48,59] else if p=9 then [38,35,57,59] else htmlQ p
theorem quoQ_enc (p:Int):I6 (quoQ p)=quoP p:=by
  unfold quoQ quoP
  split
  · decide +kernel
  · split
    · decide +kernel
    · exact htmlQ_enc p
theorem pl_html {l:List UInt8} (h:plX l=true):Pl (L7 l):=by
  obtain ⟨ps,hw⟩:=plX_wr h
  refine ⟨ps.flatMap htmlQ,fun q hq=>?_,?_⟩
  · obtain ⟨p,hp,hq⟩:=List.mem_flatMap.1 hq
    exact htmlQ_ok (hw.2 p hp).1 (hw.2 p hp).2.1 q hq
  · rw [wr_html hw,encL_flat]; congr 1; funext p; exact (htmlQ_enc p).symm
theorem pl_quo {l:List UInt8} (h:plX l=true):Pl (C2 D6 (L7 l)):=by
  obtain ⟨ps,hw⟩:=plX_wr h
  refine ⟨ps.flatMap quoQ,fun q hq=>?_,?_⟩
  · obtain ⟨p,hp,hq⟩:=List.mem_flatMap.1 hq
    unfold quoQ at hq
    split at hq
    · simp only [List.mem_cons,List.not_mem_nil,or_false] at hq
      rcases hq with rfl | rfl | rfl | rfl | rfl <;> exact ⟨by unfold isR; omega,by decide⟩
    · split at hq
      · simp only [List.mem_cons,List.not_mem_nil,or_false] at hq
        rcases hq with rfl | rfl | rfl | rfl <;> exact ⟨by unfold isR; omega,by decide⟩
      · exact htmlQ_ok (hw.2 p hp).1 (hw.2 p hp).2.1 q hq
  · rw [wr_quo hw,encL_flat]; congr 1; funext p; exact (quoQ_enc p).symm
theorem pl_lit {l:List UInt8} (h1:M4 l=true) (h2:G4 l=l):Pl l:=pl_of h1 h2
theorem plX_pl {l:List UInt8} (h:plX l=true):Pl l:=by obtain ⟨ps,hw⟩:=plX_wr h; exact hw.pl
theorem tw_all {p:UInt8→Bool}:∀ {l:List UInt8},(l.takeWhile p).length=l.length→∀ b∈l,p b=true
  | [],_=>fun _ h=>absurd h List.not_mem_nil
  | b::l,h=>by
    rw [List.takeWhile_cons] at h
    split at h
    · rename_i hb
      intro x hx
      rcases List.mem_cons.1 hx with rfl | hx
      · exact hb
      · exact tw_all (by simpa using h) x hx
    · simp at h
theorem tw_stop {p:UInt8→Bool} {c:UInt8} (hc:p c=false):∀ {l r:List UInt8},(∀ b∈l,p b=true)→(l++c::r).takeWhile p=l
  | [],r,_=>by rw [List.nil_append,List.takeWhile_cons,hc]; rfl
  | b::l,r,h=>by rw [List.cons_append,List.takeWhile_cons,h b List.mem_cons_self]; simp only [if_true]; rw [tw_stop hc (fun x hx=>h x (List.mem_cons_of_mem _ hx))]
theorem nmOk_eq {n:List UInt8} (h:nmOk n=true):n≠[]∧nmX n=n.length:=by
  unfold nmOk at h
  rw [Bool.and_eq_true,Bool.not_eq_true',beq_iff_eq] at h
  exact ⟨beq_eq_false_iff_ne.1 h.1,h.2⟩
theorem nm_upto {n r:List UInt8} {c:UInt8} (h:nmOk n=true) (hc:nxtX c=false):nmX (n++c::r)=n.length:=by
  obtain ⟨h1,h2⟩:=nmOk_eq h
  cases n with
  | nil=>exact absurd rfl h1
  | cons b n =>
    rw [nm_cons] at h2
    rw [List.cons_append,nm_cons]
    split at h2
    · rename_i hb
      rw [if_pos hb,tw_stop hc (tw_all (by rw [List.length_cons] at h2; omega)),List.length_cons]; omega
    · rw [List.length_cons] at h2; omega
theorem name_upto {n r:List UInt8} {c:UInt8} (h:nmOk n=true) (hc:nxtX c=false):nameE (n++c::r)=some (n,c::r):=by
  unfold nameE
  rw [nm_upto h hc,if_neg (by intro h0; exact (nmOk_eq h).1 (List.eq_nil_of_length_eq_zero h0)),List.take_left,List.drop_left]
theorem qual_upto {n r:List UInt8} {c:UInt8} (h:nmOk n=true) (hc:nxtX c=false) (h58:c≠58):qualE (n++c::r)=some (⟨[],n,false⟩,c::r):=by
  unfold qualE
  rw [name_upto h hc]
  dsimp only
  rw [if_neg (by simpa [List.isPrefixOf] using fun e=>h58 e.symm)]
theorem S4 {c:UInt8} {r:List UInt8} (h:wsB c=false):blk (c::r)=c::r:=by
  show (c::r).dropWhile wsB=_
  rw [List.dropWhile_cons,h]; rfl
def toAT (a:XA):AT:=⟨⟨[],a.name,false⟩,a.value⟩
theorem attr_pr {a:XA} (hn:nmOk a.name=true) (hv:plX a.value=true) (t:List UInt8):attrE (a.name++61::(quoX a.value++t))=some (toAT a,t):=by
  have hu:Q3 [34] (C2 D6 (L7 a.value)++34::t)=some (C2 D6 (L7 a.value),t):=by
    unfold Q3
    rw [idx1_at (fun b hb=>(quo_bytes _ b hb).2)]
    show some (List.take _ _,List.drop _ _)=_
    rw [List.take_left,show C2 D6 (L7 a.value)++34::t=(C2 D6 (L7 a.value)++[34])++t by simp,List.drop_left' (by simp)]
  unfold attrE
  rw [qual_upto hn (by decide) (by decide)]
  dsimp only
  rw [S4 (by decide),show mustE [61] (61::(quoX a.value++t))=some (quoX a.value++t) from rfl]
  dsimp only
  rw [show quoX a.value++t=34::(C2 D6 (L7 a.value)++34::t) from by unfold quoX; simp,S4 (by decide)]
  unfold quoteE
  rw [if_pos (by simp)]
  show (match Q3 [34] (C2 D6 (L7 a.value)++34::t) with | none=>none | some (v,r2)=>_)=_
  rw [hu]
  dsimp only
  rw [if_neg (fun h=>(quo_bytes _ _ h).1 rfl),refs_quo hv]
  rfl
theorem nm_head {n:List UInt8} (h:nmOk n=true):∃ c u,n=c::u∧fstX c=true:=by
  obtain ⟨h1,h2⟩:=nmOk_eq h
  cases n with
  | nil=>exact absurd rfl h1
  | cons c u =>
    refine ⟨c,u,rfl,?_⟩
    rw [nm_cons] at h2
    cases hc:fstX c with
    | true=>rfl
    | false=>rw [hc] at h2; simp at h2
theorem fst_ws {c:UInt8} (h:fstX c=true):wsB c=false:=by
  cases hw:wsB c with
  | false=>rfl
  | true =>
    unfold wsB at hw
    simp only [Bool.or_eq_true,beq_iff_eq] at hw
    rcases hw with ((rfl | rfl) | rfl) | rfl <;> (revert h; decide)
def endT (c:Bool):List UInt8:=if c then [47,62] else [62]
theorem tag_pr (c:Bool) (t:List UInt8):∀ (ats:List XA) (acc:List AT) (n:Nat),ats.length<n→(∀ a∈ats,nmOk a.name=true∧plX a.value=true)→tagE n acc (N0 ats++(endT c++t))=some (acc++ats.map toAT,c,t)
  | _,_,0,h,_=>absurd h (by omega)
  | [],acc,n+1,_,_=>by
    rw [tagE]
    cases c with
    | true =>
      show (if [47,62].isPrefixOf (blk (47::62::t)) then _ else _)=_
      rw [S4 (by decide),if_pos (by simp)]
      show some (acc,true,blk (47::62::t) |>.drop 2)=_
      rw [S4 (by decide)]; simp
    | false =>
      show (if [47,62].isPrefixOf (blk (62::t)) then _ else if [62].isPrefixOf (blk (62::t)) then _ else _)=_
      rw [S4 (by decide),if_neg (by simp),if_pos (by simp)]
      show some (acc,false,blk (62::t) |>.drop 1)=_
      rw [S4 (by decide)]; simp
  | a::ats,acc,n+1,hn,ha=>by
    obtain ⟨h1,h2⟩:=ha a List.mem_cons_self
    obtain ⟨b,u,hb,hf⟩:=nm_head h1
    obtain ⟨f1,f2,_⟩:=fst_ne hf
    have e:N0 (a::ats)++(endT c++t)=32::(a.name++61::(quoX a.value++(N0 ats++(endT c++t)))):=by
      rw [N0]; unfold attP; simp
    rw [tagE,e]
    have hbl:blk (32::(a.name++61::(quoX a.value++(N0 ats++(endT c++t)))))=a.name++61::(quoX a.value++(N0 ats++(endT c++t))):=by
      show (32::_).dropWhile wsB=_
      rw [List.dropWhile_cons,if_pos (by decide),hb,List.cons_append]
      exact S4 (fst_ws hf)
    rw [hbl,if_neg (by rw [hb]; intro h9; simp at h9; exact f1 h9.1.symm),if_neg (by rw [hb]; intro h9; simp at h9; exact f2 h9.symm),if_pos (by rw [List.length_cons]; omega),attr_pr h1 h2]
    dsimp only
    rw [tag_pr c t ats (acc++[toAT a]) n (by rw [List.length_cons] at hn; omega) (fun x hx=>ha x (List.mem_cons_of_mem _ hx)),List.map_cons,List.append_assoc]; rfl
end Go.Xml
namespace Go.Xml
open Go.Esc Go.Json Go.Lib
theorem atF_yes {a:XA} (h:atF a=true):a.space=[]∧nmOk a.name=true∧a.name≠V4∧plX a.value=true∧plX a.name=true:=by
  unfold atF at h
  simp only [Bool.not_eq_true',Bool.or_eq_false_iff,Bool.not_eq_false',beq_iff_eq,beq_eq_false_iff_ne,ne_eq] at h
  obtain ⟨⟨⟨⟨⟨h1,h2⟩,h3⟩,h4⟩,h5⟩,h6⟩:=h
  exact ⟨h1,by unfold nmOk; rw [beq_eq_false_iff_ne.2 h2,h3]; simp,h4,h5,h6⟩
theorem attrs_all:∀ {seen l:List XA},O1 seen l=true→∀ a∈l,atF a=true
  | _,[],_=>fun _ h=>absurd h List.not_mem_nil
  | seen,a::r,h=>by
    rw [O1,Bool.and_eq_true,Bool.and_eq_true] at h
    intro x hx
    rcases List.mem_cons.1 hx with rfl | hx
    · exact h.1.1
    · exact attrs_all h.2 x hx
def xmA (s sp:List UInt8):List XA:=if s=sp then [] else [⟨[],V4,s⟩]
def xmS (s sp:List UInt8) (spm:SPX):SPX:=if s=sp then spm else ([],s)::spm
theorem spc_xm (s sp:List UInt8):spcP s sp=N0 (xmA s sp):=by
  unfold spcP xmA
  split
  · rfl
  · show _=attP ⟨[],V4,s⟩++[]
    rw [List.append_nil]; rfl
theorem decl_no {a:XA} (h:a.name≠V4):O9 (toAT a)=none:=by
  unfold O9 toAT
  dsimp only
  rw [if_neg (fun h2=>h h2.2),if_neg (fun h2=>by cases h2.1)]
theorem decl_yes (s:List UInt8):O9 (toAT ⟨[],V4,s⟩)=some []:=by
  unfold O9 toAT
  dsimp only
  rw [if_pos ⟨rfl,rfl⟩]
theorem sp_pr:∀ (ats:List XA) (seen:List (List UInt8)) (sp:SPX),(∀ a∈ats,a.name≠V4)→spE (ats.map toAT) seen sp=some sp
  | [],_,_,_=>rfl
  | a::ats,seen,sp,h=>by
    rw [List.map_cons,spE,decl_no (h a List.mem_cons_self)]
    exact sp_pr ats seen sp (fun x hx=>h x (List.mem_cons_of_mem _ hx))
theorem sp_xm {s sp:List UInt8} {spm:SPX} {ats:List XA} (h:∀ a∈ats,a.name≠V4):spE ((xmA s sp++ats).map toAT) [] spm=some (xmS s sp spm):=by
  unfold xmA xmS
  split
  · exact sp_pr ats [] spm h
  · rw [List.cons_append,List.nil_append,List.map_cons,spE,decl_yes]
    dsimp only
    rw [if_neg (by rintro (h | h); exact absurd h List.not_mem_nil; exact absurd h.1 (fun h9=>by cases h9))]
    exact sp_pr ats _ _ h
theorem marks_pr (spm:SPX):∀ (ats out:List XA),(∀ y∈out,y.space=[])→O1 out ats=true→marksE (ats.map toAT) out spm=some (out++ats)
  | [],out,_,_=>by rw [List.append_nil]; rfl
  | a::ats,out,ho,h=>by
    have ha:=atF_yes (attrs_all h a List.mem_cons_self)
    rw [O1,Bool.and_eq_true,Bool.and_eq_true,Bool.not_eq_true'] at h
    rw [List.map_cons,marksE,decl_no ha.2.2.1]
    simp only [Option.isSome_none,Bool.false_eq_true,if_false]
    have hq:(toAT a).q.has=false:=rfl
    rw [hq]
    simp only [Bool.false_eq_true,if_false]
    have hn:¬ (out.any fun y=>y.space==[]&&y.name==(toAT a).q.name)=true:=by
      intro h9
      rw [List.any_eq_true] at h9
      obtain ⟨y,hy,h9⟩:=h9
      rw [Bool.and_eq_true,beq_iff_eq,beq_iff_eq] at h9
      have h8:=List.any_eq_false.1 h.1.2 y hy
      apply h8
      unfold sameN
      rw [h9.2]; simp [toAT]
    rw [if_neg hn]
    have e:(⟨[],(toAT a).q.name,(toAT a).value⟩:XA)=a:=by
      cases a with
      | mk s n v=>cases (show s=[] from ha.1); rfl
    rw [e,marks_pr spm ats (out++[a]) (fun y hy=>by rcases List.mem_append.1 hy with h | h; exact ho y h; rw [List.mem_singleton.1 h]; exact ha.1) h.2,List.append_assoc]; rfl
theorem marks_xm {s sp:List UInt8} {spm:SPX} {ats:List XA} (h:O1 [] ats=true):marksE ((xmA s sp++ats).map toAT) [] spm=some ats:=by
  have h1:=marks_pr spm ats [] (fun _ h=>absurd h List.not_mem_nil) h
  rw [List.nil_append] at h1
  unfold xmA
  split
  · exact h1
  · rw [List.cons_append,List.nil_append,List.map_cons,marksE,decl_yes]
    simp only [Option.isSome_some,if_true]
    exact h1
theorem look_xm {s sp:List UInt8} {spm:SPX} (h:lookX spm []=some sp):lookX (xmS s sp spm) []=some s:=by
  unfold xmS
  split
  · rename_i e; rw [h,e]
  · unfold lookX; simp
theorem attsP_head (l:List XA) (c:Bool) (t:List UInt8):∃ d r,N0 l++(endT c++t)=d::r∧nxtX d=false∧d≠58:=by
  cases l with
  | nil =>
    cases c with
    | true=>exact ⟨47,62::t,rfl,by decide,by decide⟩
    | false=>exact ⟨62,t,rfl,by decide,by decide⟩
  | cons a l=>exact ⟨32,_,rfl,by decide,by decide⟩
theorem attsP_cnt:∀ l:List XA,l.length≤(N0 l).length
  | []=>Nat.le_refl _
  | a::l=>by
    have:=attsP_cnt l
    rw [N0,List.length_append,List.length_cons]
    have:1≤(attP a).length:=by unfold attP; rw [List.length_cons]; omega
    omega
theorem nm_xmlns:nmOk V4=true:=by decide +kernel
theorem head_pr {s n sp:List UInt8} {spm:SPX} {ats:List XA} (c:Bool) (t:List UInt8) (hs:plX s=true) (hn:nmOk n=true) (ha:O1 [] ats=true) (hl:lookX spm []=some sp) :
    headE spm (n++(N0 (xmA s sp++ats)++(endT c++t)))=some (⟨[],n,false⟩,s,ats,xmS s sp spm,c,t):=by
  obtain ⟨d,r,e,h1,h2⟩:=attsP_head (xmA s sp++ats) c t
  have hall:∀ a∈xmA s sp++ats,nmOk a.name=true∧plX a.value=true:=by
    intro a h
    rcases List.mem_append.1 h with h | h
    · unfold xmA at h
      split at h
      · exact absurd h List.not_mem_nil
      · rw [List.mem_singleton.1 h]; exact ⟨nm_xmlns,hs⟩
    · have:=atF_yes (attrs_all ha a h); exact ⟨this.2.1,this.2.2.2.1⟩
  have ht:=tag_pr c t (xmA s sp++ats) [] ((N0 (xmA s sp++ats)++(endT c++t)).length+1) (by have h9:=attsP_cnt (xmA s sp++ats); have h8:(N0 (xmA s sp++ats)++(endT c++t)).length=(N0 (xmA s sp++ats)).length+(endT c++t).length:=List.length_append; omega) hall
  unfold headE
  rw [e,qual_upto hn h1 h2]
  dsimp only
  rw [← e,ht,List.nil_append]
  dsimp only
  rw [sp_xm (fun a h=>(atF_yes (attrs_all ha a h)).2.2.1)]
  dsimp only
  have hsp:spaceE [] false (xmS s sp spm)=some s:=by
    unfold spaceE
    rw [if_neg (fun h=>by cases h.1),look_xm hl]; rfl
  rw [hsp]
  dsimp only
  rw [marks_xm ha]
theorem add_newW {ks:List XN} {s:List UInt8} (hs:s≠[]) (h:∀ x,ks.getLast? = some x→x.name≠[]):addX ks s=ks++[.mk [] [] [] [] s]:=by
  unfold addX
  rw [if_neg hs]
  split
  · rename_i sp at_ kk t hq
    exact absurd rfl (h _ hq)
  · rfl
theorem idx3_none {l:List UInt8} (h:∀ b∈l,b≠62):idxL [93,93,62] l=none:=by
  cases hq:idxL [93,93,62] l with
  | none=>rfl
  | some i =>
    exfalso
    have hp:=idx_pre hq
    have h1:=pre_eq hp
    have hm:(62:UInt8)∈l.drop i:=by rw [h1]; simp
    exact h 62 (List.mem_of_mem_drop hm) rfl
theorem html_ne {l:List UInt8} (h:plX l=true) (hn:l≠[]):L7 l≠[]:=by
  intro h0
  have h1:=refs_html h
  rw [h0] at h1
  have h2:refsE []=some []:=by unfold refsE; rw [show B0 []=[] from by rw [B0]]; rfl
  rw [h2] at h1
  injection h1 with h1; exact hn h1.symm
theorem text_pr {l r:List UInt8} (h:plX l=true):textE (L7 l++60::r)=some (l,60::r):=by
  unfold textE
  rw [idx1_at (fun b hb=>(html_bytes l b hb).1)]
  dsimp only
  rw [List.take_left,List.drop_left,idx3_none (fun b hb=>(html_bytes l b hb).2.1),refs_html h]
  rfl
theorem pr_head {sp:List UInt8} {x:XN} (h:nmOk x.name=true):∃ c u,prX sp x=60::c::u∧fstX c=true:=by
  obtain ⟨c,u,e,hf⟩:=nm_head h
  have hn:=(nmOk_eq h).1
  by_cases hk:x.kids.length=0
  · rw [prX_none hn hk]; unfold prH; rw [e]; exact ⟨c,_,rfl,hf⟩
  · rw [prX_kids hn hk]; unfold prH; rw [e]; exact ⟨c,_,rfl,hf⟩
theorem rt_nm {m:Nat} {x:XN} (h:rtX m x=true):nmOk x.name=true:=by
  cases m with
  | zero=>rw [rtX_0] at h; cases h
  | succ m=>rw [rtX_s] at h; simp only [Bool.and_eq_true] at h; exact h.1.1.1.1.1
theorem kid_cases {m:Nat} {last:Bool} {y:XN} (h:kidF (rtX m) last y=true):(y.name=[]∧last=false∧y.text≠[]∧plX y.text=true∧y=.mk [] [] [] [] y.text)∨(y.name≠[]∧rtX m y=true):=by
  unfold kidF at h
  rw [Bool.not_eq_true',Bool.or_eq_false_iff] at h
  obtain ⟨h1,h2⟩:=h
  by_cases hn:y.name=[]
  · refine .inl ⟨hn,?_⟩
    rw [hn] at h1
    simp only [beq_self_eq_true,Bool.true_and,Bool.or_eq_false_iff,Bool.not_eq_false',beq_eq_false_iff_ne,beq_iff_eq,decide_eq_false_iff_not] at h1
    obtain ⟨⟨⟨⟨a1,a2⟩,a3⟩,a4⟩,a5⟩:=h1
    refine ⟨a1,a2,a3,?_⟩
    cases y with
    | mk s n ats l t =>
      have b1:s=[]:=a4
      have b2:n=[]:=hn
      have b3:ats=[]:=List.eq_nil_of_length_eq_zero (by have a5:¬ 0<ats.length+l.length:=a5; omega)
      have b4:l=[]:=List.eq_nil_of_length_eq_zero (by have a5:¬ 0<ats.length+l.length:=a5; omega)
      subst b1; subst b2; subst b3; subst b4; rfl
  · refine .inr ⟨hn,?_⟩
    rw [show (y.name==[])=false from beq_eq_false_iff_ne.2 hn] at h2
    simpa using h2
theorem kids_head {m:Nat} {l:List XN} (h:R3 (rtX m) true l=true) (s t:List UInt8):∃ r,prL s l++(60::47::t)=60::r:=by
  cases l with
  | nil=>rw [prL_nil]; exact ⟨_,rfl⟩
  | cons y l =>
    rw [R3,Bool.and_eq_true] at h
    rcases kid_cases h.1 with ⟨_,h1,_⟩ | ⟨_,h1⟩
    · cases h1
    · obtain ⟨c,u,e,_⟩:=pr_head (sp:=s) (rt_nm h1)
      rw [prL_cons,e]; exact ⟨_,rfl⟩
theorem cont_pr {m:Nat} {s:List UInt8} {spm:SPX} (hel:∀ (y:XN) (t:List UInt8),rtX m y=true→elE m spm ((prX s y).drop 1++t)=.ok (y,t)) (t:List UInt8) :
    ∀ (l ks:List XN) (last:Bool) (n:Nat),l.length<n→R3 (rtX m) last l=true→(last=false→∀ x,ks.getLast? = some x→x.name≠[])→contE (elE m spm) n ks (prL s l++(60::47::t))=.ok (ks++l,t)
  | _,_,_,0,h,_,_=>absurd h (by omega)
  | [],ks,_,n+1,_,_,_=>by
    rw [prL_nil,List.nil_append,contE,if_pos (by simp),List.append_nil]; rfl
  | y::l,ks,last,n+1,hn,h,hk=>by
    rw [R3,Bool.and_eq_true] at h
    rw [prL_cons,List.append_assoc,contE]
    rcases kid_cases h.1 with ⟨h1,h2,h3,h4,h5⟩ | ⟨h1,h2⟩
    · rw [h1] at h
      obtain ⟨r,hr⟩:=kids_head (m:=m) (l:=l) h.2 s t
      rw [prX_text h1,hr]
      cases hh:L7 y.text with
      | nil=>exact absurd hh (html_ne h4 h3)
      | cons b u =>
        have hb:b≠60:=(html_bytes y.text b (by rw [hh]; exact List.mem_cons_self)).1
        have np:∀ w v,¬ (60::w).isPrefixOf (b::v)=true:=by intro w v h9; simp at h9; exact hb h9.1.symm
        have hp:pieceE (elE m spm) ks (b::u++60::r)=.ok (ks++[y],60::r):=by
          unfold pieceE
          rw [List.cons_append,if_neg (np _ _)]
          have ha:P7 (b::(u++60::r))=some none:=by
            unfold P7
            rw [if_neg (np _ _),if_neg (np _ _)]
          rw [ha]
          dsimp only
          rw [if_neg (np _ _),← List.cons_append,← hh,text_pr h4]
          dsimp only
          rw [add_newW h3 (hk h2),← h5]
        rw [if_neg (show ¬ [60,47].isPrefixOf (b::u++60::r)=true from np _ _),hp]
        dsimp only
        rw [← hr,cont_pr hel t l (ks++[y]) true n (by rw [List.length_cons] at hn; omega) (by simpa using h.2) (fun h=>by cases h),List.append_assoc]; rfl
    · have hnm:=rt_nm h2
      obtain ⟨c,u,e,hf⟩:=pr_head (sp:=s) hnm
      obtain ⟨f1,f2,f3,f4,f5,f6⟩:=fst_ne hf
      have he:=hel y (prL s l++(60::47::t)) h2
      rw [e] at he ⊢
      rw [List.drop_succ_cons,List.drop_zero] at he
      have hp:pieceE (elE m spm) ks (60::c::u++(prL s l++(60::47::t)))=.ok (ks++[y],prL s l++(60::47::t)):=by
        unfold pieceE
        rw [if_neg (by intro h9; simp at h9; exact f3 h9.1.symm)]
        have ha:P7 (60::c::u++(prL s l++(60::47::t)))=some none:=by
          unfold P7
          rw [if_neg (by intro h9; simp at h9; exact f3 h9.1.symm),if_neg (by intro h9; simp at h9; exact f4 h9.symm)]
        rw [ha]
        dsimp only
        rw [if_pos (by simp)]
        have h1d:(60::c::u++(prL s l++(60::47::t))).drop 1=c::u++(prL s l++(60::47::t)):=rfl
        rw [h1d,he]
      rw [if_neg (by intro h9; simp at h9; exact f1 h9.symm),hp]
      dsimp only
      have hne:(y.name==[])=false:=beq_eq_false_iff_ne.2 h1
      rw [hne] at h
      rw [cont_pr hel t l (ks++[y]) false n (by rw [List.length_cons] at hn; omega) h.2 (fun _ x hx=>by rw [List.getLast?_concat] at hx; injection hx with hx; rw [← hx]; exact h1),List.append_assoc]; rfl
theorem prL_cnt {m:Nat} (s:List UInt8):∀ {l:List XN} {last:Bool},R3 (rtX m) last l=true→l.length≤(prL s l).length
  | [],_,_=>Nat.zero_le _
  | y::l,last,h=>by
    rw [R3,Bool.and_eq_true] at h
    have ih:=prL_cnt s h.2
    rw [prL_cons,List.length_append,List.length_cons]
    have:1≤(prX s y).length:=by
      rcases kid_cases h.1 with ⟨h1,_,h3,h4,_⟩ | ⟨_,h2⟩
      · rw [prX_text h1]; exact List.length_pos_iff.2 (html_ne h4 h3)
      · obtain ⟨c,u,e,_⟩:=pr_head (sp:=s) (rt_nm h2)
        rw [e,List.length_cons]; omega
    omega
theorem rt_parts {m:Nat} {x:XN} (h:rtX (m+1) x=true):nmOk x.name=true∧x.text=[]∧plX x.space=true∧plX x.name=true∧O1 [] x.attrs=true∧R3 (rtX m) false x.kids=true:=by
  rw [rtX_s] at h
  simp only [Bool.and_eq_true,beq_iff_eq] at h
  exact ⟨h.1.1.1.1.1,h.1.1.1.1.2,h.1.1.1.2,h.1.1.2,h.1.2,h.2⟩
theorem el_pr:∀ (m:Nat) (x:XN) (sp:List UInt8) (spm:SPX) (t:List UInt8),rtX m x=true→lookX spm []=some sp→elE m spm ((prX sp x).drop 1++t)=.ok (x,t)
  | 0,x,_,_,_,h,_=>by rw [rtX_0] at h; cases h
  | m+1,x,sp,spm,t,h,hl=>by
    obtain ⟨h1,h2,h3,h4,h5,h6⟩:=rt_parts h
    have hn:=(nmOk_eq h1).1
    have hx:x=.mk x.space x.name x.attrs x.kids []:=by rw [← h2]; cases x; rfl
    by_cases hk:x.kids.length=0
    · have hk0:x.kids=[]:=List.eq_nil_of_length_eq_zero hk
      have e:(prX sp x).drop 1++t=x.name++(N0 (xmA x.space sp++x.attrs)++(endT true++t)):=by
        rw [prX_none hn hk]; unfold prH; rw [W9,← spc_xm]; simp [endT]
      rw [e,elE,head_pr true t h3 h1 h5 hl]
      dsimp only
      rw [if_pos rfl,← hk0,← hx]
    · have e:(prX sp x).drop 1++t=x.name++(N0 (xmA x.space sp++x.attrs)++(endT false++(prL x.space x.kids++(60::47::(x.name++62::t))))):=by
        rw [prX_kids hn hk]; unfold prH; rw [W9,← spc_xm]; simp [endT]
      rw [e,elE,head_pr false _ h3 h1 h5 hl]
      dsimp only
      rw [if_neg (by decide)]
      have hc:=cont_pr (m:=m) (s:=x.space) (spm:=xmS x.space sp spm) (fun y t hy=>el_pr m y x.space _ t hy (look_xm hl)) (x.name++62::t) x.kids [] false ((prL x.space x.kids++(60::47::(x.name++62::t))).length+1) (by have:=prL_cnt x.space h6; rw [List.length_append]; omega) h6 (fun _ y hy=>by cases hy)
      rw [hc]
      dsimp only
      have he:endE ⟨[],x.name,false⟩ (x.name++62::t)=some t:=by
        unfold endE
        rw [qual_upto h1 (by decide) (by decide)]
        dsimp only
        rw [if_neg (by simp),S4 (by decide)]; rfl
      rw [he]
      dsimp only
      rw [List.nil_append,← hx]
theorem pl_atts:∀ {l:List XA},(∀ a∈l,plX a.name=true∧plX a.value=true)→Pl (N0 l)
  | [],_=>Pl.nil
  | a::l,h=>by
    have h1:=h a List.mem_cons_self
    have e:attP a=[32]++(a.name++([61,34]++(C2 D6 (L7 a.value)++[34]))):=by unfold attP quoX; simp
    rw [N0,e]
    exact ((pl_lit (by kernel_rfl) (by kernel_rfl)).app ((plX_pl h1.1).app ((pl_lit (by kernel_rfl) (by kernel_rfl)).app ((pl_quo h1.2).app (pl_lit (by kernel_rfl) (by kernel_rfl)))))).app (pl_atts (fun x hx=>h x (List.mem_cons_of_mem _ hx)))
theorem pl_xmlns:plX V4=true:=by kernel_rfl
theorem pl_kids {m:Nat} {s:List UInt8} (hel:∀ y,rtX m y=true→Pl (prX s y)):∀ {l:List XN} {last:Bool},R3 (rtX m) last l=true→Pl (prL s l)
  | [],_,_=>by rw [prL_nil]; exact Pl.nil
  | y::l,last,h=>by
    rw [R3,Bool.and_eq_true] at h
    rw [prL_cons]
    refine Pl.app ?_ (pl_kids hel h.2)
    rcases kid_cases h.1 with ⟨h1,_,h3,h4,_⟩ | ⟨_,h2⟩
    · rw [prX_text h1]; exact pl_html h4
    · exact hel y h2
theorem pl_pr:∀ (m:Nat) (x:XN) (sp:List UInt8),rtX m x=true→Pl (prX sp x)
  | 0,x,_,h=>by rw [rtX_0] at h; cases h
  | m+1,x,sp,h=>by
    obtain ⟨h1,h2,h3,h4,h5,h6⟩:=rt_parts h
    have hn:=(nmOk_eq h1).1
    have hall:∀ a∈xmA x.space sp++x.attrs,plX a.name=true∧plX a.value=true:=by
      intro a h
      rcases List.mem_append.1 h with h | h
      · unfold xmA at h
        split at h
        · exact absurd h List.not_mem_nil
        · rw [List.mem_singleton.1 h]; exact ⟨pl_xmlns,h3⟩
      · have:=atF_yes (attrs_all h5 a h); exact ⟨this.2.2.2.2,this.2.2.2.1⟩
    have hh:Pl ([60]++(x.name++N0 (xmA x.space sp++x.attrs))):=(pl_lit (by kernel_rfl) (by kernel_rfl)).app ((plX_pl h4).app (pl_atts hall))
    by_cases hk:x.kids.length=0
    · have e:prX sp x=([60]++(x.name++N0 (xmA x.space sp++x.attrs)))++[47,62]:=by
        rw [prX_none hn hk]; unfold prH; rw [W9,← spc_xm]; simp
      rw [e]; exact hh.app (pl_lit (by kernel_rfl) (by kernel_rfl))
    · have e:prX sp x=([60]++(x.name++N0 (xmA x.space sp++x.attrs)))++([62]++(prL x.space x.kids++([60,47]++(x.name++[62])))):=by
        rw [prX_kids hn hk]; unfold prH; rw [W9,← spc_xm]; simp
      rw [e]
      exact hh.app ((pl_lit (by kernel_rfl) (by kernel_rfl)).app ((pl_kids (fun y hy=>pl_pr m y x.space hy) h6).app ((pl_lit (by kernel_rfl) (by kernel_rfl)).app ((plX_pl h4).app (pl_lit (by kernel_rfl) (by kernel_rfl))))))
theorem par_pr {x:XN} (h:rtX 24 x=true) (hl:(prX [] x).length≤65536):parX (prX [] x)=(x,0):=by
  obtain ⟨c,u,e,hf⟩:=pr_head (sp:=[]) (rt_nm h)
  obtain ⟨f1,f2,f3,f4,f5,f6⟩:=fst_ne hf
  have hB:F2 (prX [] x)=prX [] x:=by rw [e]; exact bom_ne (by decide)
  have hA:arE (F2 (prX [] x))=some (60::c::u):=by
    rw [hB,arE_step,e,S4 (by decide)]
    have ha:P7 (60::c::u)=some none:=by
      unfold P7
      rw [if_neg (by intro h9; simp at h9; exact f3 h9.1.symm),if_neg (by intro h9; simp at h9; exact f4 h9.symm)]
    rw [ha]
  have hE:elE 24 H8 (c::u)=.ok (x,[]):=by
    have:=el_pr 24 x [] H8 [] h (by decide +kernel)
    rw [e,List.append_nil] at this
    exact this
  rw [par_ok,par_mk hl (by rw [hB]; exact pl_pr 24 x [] h) hA hE,show arE []=some [] from by kernel_rfl]
  rfl
end Go.Xml
namespace Go.Xml
open Go.Esc Go.Json Go.Lib
theorem lines_no13:∀ (n:Nat) (l:List UInt8),l.length≤n→∀ b∈B0 l,b≠13
  | _,[],_=>by rw [B0]; exact fun _ h=>absurd h List.not_mem_nil
  | 0,_::_,h=>by simp at h
  | n+1,c::t,h=>by
    rw [List.length_cons] at h
    by_cases hc:c=13
    · subst hc
      by_cases h1:∃ u,t=10::u
      · obtain ⟨u,rfl⟩:=h1
        rw [lines_cr]
        intro b hb
        rcases List.mem_cons.1 hb with rfl | hb
        · decide
        · exact lines_no13 n u (by rw [List.length_cons] at h; omega) b hb
      · rw [lines_13 (fun u e=>h1 ⟨u,e⟩)]
        intro b hb
        rcases List.mem_cons.1 hb with rfl | hb
        · decide
        · exact lines_no13 n t (by omega) b hb
    · rw [lines_no hc]
      intro b hb
      rcases List.mem_cons.1 hb with rfl | hb
      · exact hc
      · exact lines_no13 n t (by omega) b hb
theorem idx1_no {c:UInt8}:∀ {l:List UInt8},(∀ b∈l,b≠c)→idxL [c] l=none
  | [],_=>by simp [idxL]
  | b::l,h=>by
    have hb:b≠c:=h b List.mem_cons_self
    rw [idxL,idx1_no (fun x hx=>h x (List.mem_cons_of_mem _ hx)),if_neg (by simpa [List.isPrefixOf] using fun e=>hb e.symm)]
    rfl
theorem htmlP_len (p:Int):(V6 p).length≤6:=by
  unfold V6
  (repeat' split) <;> first | decide | exact Nat.le_trans (enc_len p).2 (by decide)
theorem quoP_len (p:Int):(quoP p).length≤6:=by
  unfold quoP
  split
  · decide
  · split
    · decide
    · exact htmlP_len p
theorem flat6 {f:Int→List UInt8} (hf:∀ p,(f p).length≤6):∀ ps:List Int,(ps.flatMap f).length≤6 * ps.length
  | []=>Nat.le_refl _
  | p::ps=>by
    have h1:=hf p
    have h2:=flat6 hf ps
    rw [List.flatMap_cons,List.length_append,List.length_cons]; omega
def txN (t:List UInt8):XN:=.mk [] [97] [⟨[],[98],t⟩] (if t=[] then [] else [.mk [] [] [] [] t]) []
theorem tx_text (s:List UInt8):plX (B0 (G4 s))=true∧(L7 (B0 (G4 s))).length≤6 * s.length∧(C2 D6 (L7 (B0 (G4 s)))).length≤6 * s.length∧(B0 (G4 s)).length≤4 * s.length:=by
  have hps:∀ p∈(G1 s).filter K5,isR p∧K5 p=true:=fun p hq=>⟨runes_isR s p (List.mem_filter.1 hq).1,(List.mem_filter.1 hq).2⟩
  have hpl:G4 s=I6 ((G1 s).filter K5):=rfl
  have hcnt:((G1 s).filter K5).length≤s.length:=Nat.le_trans (List.length_filter_le _ _) (runes_len s)
  obtain ⟨qs,hq,e,hz⟩:=lines_enc _ _ (Nat.le_refl _) hps
  have h13:=lines_no13 _ (G4 s) (Nat.le_refl _)
  have hPl:Pl (B0 (G4 s)):=⟨qs,hq,by rw [hpl]; exact e⟩
  have hX:plX (B0 (G4 s))=true:=by
    unfold plX
    rw [pl_valid hPl,pl_plain hPl,idx1_no h13]; simp
  have hw:Wr (B0 (G4 s)) qs:=by
    refine ⟨by rw [hpl]; exact e,fun p hp=>⟨(hq p hp).1,(hq p hp).2,?_⟩⟩
    rintro rfl
    refine h13 13 ?_ rfl
    rw [hpl,e]
    unfold I6
    rw [List.mem_flatMap]
    exact ⟨13,hp,by rw [show encodeRune 13=[13] from by decide +kernel]; exact List.mem_singleton.2 rfl⟩
  refine ⟨hX,?_,?_,?_⟩
  · rw [wr_html hw]; have:=flat6 htmlP_len qs; omega
  · rw [wr_quo hw]; have:=flat6 quoP_len qs; omega
  · have h1:=P2 (G4 s)
    have h2:=plain_len s
    omega
theorem tx_right {t:List UInt8} (h:plX t=true):rtX 24 (txN t)=true:=by
  have h0:plX []=true:=by kernel_rfl
  have h1:plX [97]=true:=by kernel_rfl
  have h2:nmOk [97]=true:=by kernel_rfl
  have ha:O1 [] [⟨[],[98],t⟩]=true:=by
    have:atF ⟨[],[98],t⟩=true:=by
      unfold atF
      dsimp only
      rw [h,show plX [98]=true from by kernel_rfl]; decide
    rw [O1,this,O1]; rfl
  rw [rtX_s]
  show (nmOk [97]&&([]:List UInt8)==[]&&plX []&&plX [97]&&O1 [] [⟨[],[98],t⟩]&&R3 (rtX 23) false (txN t).kids)=true
  rw [h2,h0,h1,ha]
  have hk:R3 (rtX 23) false (txN t).kids=true:=by
    show R3 (rtX 23) false (if t=[] then [] else [.mk [] [] [] [] t])=true
    split
    · rfl
    · rename_i hn
      rw [R3,R3]
      unfold kidF
      show (!((true&&(false||(t==[])||!plX t||!true||false))||(!true&&_))&&true)=true
      rw [h,show (t==[])=false from beq_eq_false_iff_ne.2 hn]; rfl
  rw [hk]; rfl
theorem tx_len (s:List UInt8) (hs:s.length≤2000):(prX [] (txN (B0 (G4 s)))).length≤65536:=by
  obtain ⟨_,h2,h3,_⟩:=tx_text s
  generalize B0 (G4 s)=t at h2 h3
  have hn:(txN t).name≠[]:=by show ([97]:List UInt8)≠[]; decide
  have hh:(prH [] (txN t)).length=2:=by
    have:spcP (txN t).space []=[]:=spcP_eq rfl
    unfold prH; rw [this]; rfl
  have ha:(N0 (txN t).attrs).length=5+(C2 D6 (L7 t)).length:=by
    show (attP ⟨[],[98],t⟩++[]).length=_
    unfold attP quoX
    simp only [List.append_nil,List.length_append,List.length_cons,List.length_nil]; omega
  have hL:(prL (txN t).space (txN t).kids).length≤(L7 t).length:=by
    show (prL [] (if t=[] then [] else [.mk [] [] [] [] t])).length≤_
    split
    · rw [prL_nil]; exact Nat.zero_le _
    · rw [prL_cons,prL_nil,List.append_nil,prX_text rfl]; exact Nat.le_refl _
  by_cases hk:(txN t).kids.length=0
  · rw [prX_none hn hk,List.length_append,List.length_append,hh,ha]; show _+2≤_; omega
  · rw [prX_kids hn hk,List.length_append,List.length_append,hh,ha,List.length_cons,List.length_append]
    show _+(_+4+1)≤_; omega
theorem tx_inn (t:List UInt8):innX (txN t)=t:=by
  rw [innX_el (by show ([97]:List UInt8)≠[]; decide)]
  show innL (if t=[] then [] else [.mk [] [] [] [] t])=t
  split
  · rename_i h; rw [innL_nil,h]
  · rw [innL_cons,innL_nil,List.append_nil,innX_text rfl]; rfl
theorem tx_val (t:List UInt8):vlX (txN t).attrs [98]=t:=rfl
theorem tx_wt (t:List UInt8):wtX (txN t)≤6+2 * t.length:=by
  show wtX (.mk [] [97] [⟨[],[98],t⟩] (if t=[] then [] else [.mk [] [] [] [] t]) [])≤_
  rw [wtX_eq]
  have h1:wtA [⟨[],[98],t⟩]=2+t.length:=by show 0+1+t.length+1+0=_; omega
  have h2:wtXL (if t=[] then [] else [.mk [] [] [] [] t])≤1+t.length:=by
    split
    · rw [wtXL_nil]; omega
    · rw [M8,wtXL_nil,wtX_eq,wtXL_nil]; show 1+0+0+t.length+0+0+0≤_; omega
  rw [h1]; show 1+0+1+0+(2+t.length)+_≤_; omega
end Go.Xml
namespace Go.Proofs.YtppgfiklmfoaeaaGreatDoor
open Go.Sw Go.Sha Go.Esc Go.RowKit Go.Json Go.Xml
theorem tx_rd0 {S:Nat→Obj→Prop} {t:List UInt8} {b1:Nat} (ht:t=[]) (h1:Rd S (some ⟨b1,0,none⟩) [.string eB,.string (mB #[98]),.string (bk t)]):XRd S (txN t) [.string eB,.string (mB #[97]),.slice (some ⟨b1,0,none⟩) 1 1,.slice none 0 0,.string eB]:=by
  unfold txN
  rw [if_pos ht]
  exact XRd.mk (sp:=[]) (nm:=[97]) (t:=[]) (ats:=[⟨[],[98],t⟩]) (l:=[]) (Nat.le_refl _) h1 (.inl rfl) .nil
theorem tx_rd1 {S:Nat→Obj→Prop} {t:List UInt8} {b1 b2:Nat} (ht:t≠[]) (h1:Rd S (some ⟨b1,0,none⟩) [.string eB,.string (mB #[98]),.string (bk t)]) (h2:Rd S (some ⟨b2,0,none⟩) [.string eB,.string eB,.slice none 0 0,.slice none 0 0,.string (bk t)]):XRd S (txN t) [.string eB,.string (mB #[97]),.slice (some ⟨b1,0,none⟩) 1 1,.slice (some ⟨b2,0,none⟩) 1 1,.string eB]:=by
  unfold txN
  rw [if_neg ht]
  refine XRd.mk (sp:=[]) (nm:=[97]) (t:=[]) (ats:=[⟨[],[98],t⟩]) (l:=[.mk [] [] [] [] t]) (Nat.le_refl _) h1 h2 ?_
  have h3:XRd S (.mk [] [] [] [] t) [.string (bk []),.string (bk []),.slice none 0 0,.slice none 0 0,.string (bk t)]:=XRd.mk (ats:=[]) (l:=[]) (Nat.le_refl _) (.inl rfl) (.inl rfl) .nil
  have h4:=XRdL.cons h3 .nil
  rwa [List.append_nil] at h4
theorem xmlTexts_ (s:ByteArray) (W0:World) (H:List Grp) (hX:R6 W0):Tri Tryz.prog 14 #[.string s] W0 H (fun v H'=>v=.bool true∧H'=H):=by
 obtain ⟨t,ht⟩:∃ t,t=B0 (G4 s.data.toList):=⟨_,rfl⟩
 have hsl:s.data.toList.length=s.size:=Array.length_toList
 have hplz:=plain_len s.data.toList
 refine D3 61 Tryz.func14 ?_
 refine A1 (C1 (E':=[⟨0,[],.string s⟩]) [0] [0] (k:=A0 (A1 (A1 (A2 (K9 Tryz.func28 (firstX_ _ _ hX) (A7 [0] [0,10] (k:=A0 ?_))))))))
 refine C8 kr (A8 (A0 (A1 (A1 (G_p [0,0,0] [0,13] (k:=A0 (B2 (b:=decide ((s.size:Int) > 2000)) kr (fun hc1=>?_) (fun hc1=>?_))))))))
 ·
  simp only [decide_eq_true_eq,gt_iff_lt] at hc1
  refine A1 (C1 (E':=[⟨2,[],.bool true⟩]) [0] [2] (k:=A0 (B9 (A5 (B6 [.tmp 2] [.bool true] (k:=?_))))))
  first | exact ⟨rfl,rfl⟩ | exact ⟨congrArg Value.bool (by rw [hIn,hVl]; simp),rfl⟩
 ·
  simp only [decide_eq_false_iff_not,gt_iff_lt] at hc1
  obtain ⟨hTp,_,_,hTl⟩:=tx_text s.data.toList
  have hTz:=tx_len s.data.toList (by omega)
  rw [← ht] at hTp hTl hTz
  have hRt:=tx_right hTp
  have hPr:=par_pr hRt hTz
  have hwt:=tx_wt t
  have hIn:=tx_inn t
  have hVl:=tx_val t
  refine A8 (A0 (A1 (A2 (A3 (j:=1) [0] (k:=K9 Tryz.func45 (rplain_ s (by omega) _ _) (K9 Tryz.func44 (rlines_ (bk (G4 s.data.toList)) (by rw [D5]; omega) _ _) (E5 16 (x:=.string (bk (B0 (G4 s.data.toList)))) (y:=.string (bk t)) (by rw [ht]) (B1 (E':=[⟨3,[],.string (bk t)⟩]) [0] [3] (k:=?_)))))))))
  refine A0 (A1 (A2 (A3 (j:=2) [0,0] (k:=J2 75 1 [.string eB,.string (mB #[98]),.string (bk t)] (fun b2=>A3 (j:=4) [0] (k:=L1 (.agg zN.toArray) (fun b3=>E3 0 0 (.agg #[.string eB,.string (mB #[97]),.slice (some ⟨b2,0,none⟩) 1 1,.slice none 0 0,.string eB]) rfl (A7 [] [3,4] (k:=?_)))))))))
  refine A0 (A1 (A1 (G_p [0,0] [3,4,22] (k:=A0 (B2 (b:=!((bk t).toList==eB.toList)) kr (fun hc4=>?_) (fun hc4=>?_))))))
  ·
   have ht0:t≠[]:=(eqBf (bk t) eB).1 (by simpa only [Bool.not_eq_true'] using hc4)
   refine A2 (A3 (j:=2) [0,0] (k:=J2 55 1 [.string eB,.string eB,.slice none 0 0,.slice none 0 0,.string (bk t)] (fun b5=>A3 (j:=4) [0] (k:=E3 1 3 (.slice (some ⟨b5,0,none⟩) 1 1) rfl (A7 [] [3,4] (k:=A0 (A1 (A2 ?_))))))))
   refine O2 1 0 5 rfl ?_
   have hTx6:=tx_rd1 (S:=(fun y o=>inG ([(b2,.cells #[.string eB,.string (mB #[98]),.string (bk t)] 75 (0,0))]) y o∨inG ([(b5,.cells #[.string eB,.string eB,.slice none 0 0,.slice none 0 0,.string (bk t)] 55 (0,0))]) y o)) ht0 (X7 (S:=inG ([(b2,.cells #[.string eB,.string (mB #[98]),.string (bk t)] 75 (0,0))])) Rd.lit (fun _ _ h=>.inl h)) (X7 (S:=inG ([(b5,.cells #[.string eB,.string eB,.slice none 0 0,.slice none 0 0,.string (bk t)] 55 (0,0))])) Rd.lit (fun _ _ h=>.inr h))
   refine K9 Tryz.func34 (xprintC (txN t) [.string eB,.string (mB #[97]),.slice (some ⟨b2,0,none⟩) 1 1,.slice (some ⟨b5,0,none⟩) 1 1,.string eB] (fun y o=>inG ([(b2,.cells #[.string eB,.string (mB #[98]),.string (bk t)] 75 (0,0))]) y o∨inG ([(b5,.cells #[.string eB,.string eB,.slice none 0 0,.slice none 0 0,.string (bk t)] 55 (0,0))]) y o) hTx6 (by omega) (.tuple #[.string (bk (prX [] (txN t))),.int .i64 0]) (by rw [hRt]; rfl) _ _ (fun y o h=>h.elim (fun h=>At.mem (List.mem_of_getElem? (i:=2) rfl) h) (fun h=>At.mem (List.mem_of_getElem? (i:=0) rfl) h)) hX) (A7 [0,0,0,0,0] [3,4,5,6] (k:=A0 (A1 (A2 (A3 (j:=1) [0] (k:=K6 (ch:=[]) (src:=9) (dst:=22) (e:=5) (s:=(bk (prX [] (txN t)))) (k:=(fun b7 cap8 g9 hcap10 hrd11=>?_))))))))
   refine D9 Tryz.func29 (xparseV (some ⟨b7,0,none⟩) cap8 ((bk (prX [] (txN t))).data.toList) (inG g9) hrd11 (txN t) 0 hPr _ _ (D7 0 rfl) hX) ?_
   rintro _ _ ⟨c12,gp12,hJ12,rfl,rfl⟩
   obtain ⟨van12,vcn12,val12,vcl12,rfl⟩:=hJ12.shape
   refine A3 (j:=6) [0,0,0] (k:=L1 (.agg zN.toArray) (fun b13=>E3 0 0 (.agg #[.string (bk (txN t).space),.string (bk (txN t).name),.slice van12 ((txN t).attrs.length) vcn12,.slice val12 ((txN t).kids.length) vcl12,.string (bk (txN t).text)]) rfl (A7 [0] [3,4,6,7,8] (k:=A0 (A1 (A2 (A3 (j:=7) [0,0,0,0,0,2,0] (k:=N5 (ch:=[(44,true)]) (b:=b13) (off:=0) (l:=[.string (bk (txN t).space),.string (bk (txN t).name),.slice van12 ((txN t).attrs.length) vcn12,.slice val12 ((txN t).kids.length) vcl12,.string (bk (txN t).text)]) (hA:=At.grp 0 0 rfl rfl) (k:=?_)))))))))
   refine P6 (vs:=[.agg #[.string (bk (txN t).space),.string (bk (txN t).name),.slice van12 ((txN t).attrs.length) vcn12,.slice val12 ((txN t).kids.length) vcl12,.string (bk (txN t).text)]]) [(44,true)] Tryz.func42 (fun hc=>xinnerC (txN t) [.string (bk (txN t).space),.string (bk (txN t).name),.slice van12 ((txN t).attrs.length) vcn12,.slice val12 ((txN t).kids.length) vcl12,.string (bk (txN t).text)] (inG gp12) (hJ12.rd (fun _ _ h=>h)) (by omega) _ _ (D7 1 rfl)) (A3 (j:=13) [0,0,2,0] (k:=N5 (ch:=[(50,true)]) (b:=b13) (off:=0) (l:=[.string (bk (txN t).space),.string (bk (txN t).name),.slice van12 ((txN t).attrs.length) vcn12,.slice val12 ((txN t).kids.length) vcl12,.string (bk (txN t).text)]) (hA:=At.grp 0 0 rfl rfl) (k:=P6 (vs:=[.agg #[.string (bk (txN t).space),.string (bk (txN t).name),.slice van12 ((txN t).attrs.length) vcn12,.slice val12 ((txN t).kids.length) vcl12,.string (bk (txN t).text)],.string (mB #[98])]) [(50,true)] Tryz.func40 (fun hc=>xvalueC (txN t) [.string (bk (txN t).space),.string (bk (txN t).name),.slice van12 ((txN t).attrs.length) vcn12,.slice val12 ((txN t).kids.length) vcl12,.string (bk (txN t).text)] (inG gp12) (hJ12.rd (fun _ _ h=>h)) (by omega) ((mB #[98]).data.toList) _ _ (D7 1 rfl)) (A3 (j:=19) [0,0,6,0] (k:=N5 (ch:=[(56,true)]) (b:=b13) (off:=0) (l:=[.string (bk (txN t).space),.string (bk (txN t).name),.slice van12 ((txN t).attrs.length) vcn12,.slice val12 ((txN t).kids.length) vcl12,.string (bk (txN t).text)]) (hA:=At.grp 0 0 rfl rfl) (k:=N5 (ch:=[(56,true)]) (b:=b3) (off:=0) (l:=[.string eB,.string (mB #[97]),.slice (some ⟨b2,0,none⟩) 1 1,.slice (some ⟨b5,0,none⟩) 1 1,.string eB]) (hA:=At.grp 4 0 rfl rfl) (k:=P6 (vs:=[.agg #[.string (bk (txN t).space),.string (bk (txN t).name),.slice van12 ((txN t).attrs.length) vcn12,.slice val12 ((txN t).kids.length) vcl12,.string (bk (txN t).text)],.agg #[.string eB,.string (mB #[97]),.slice (some ⟨b2,0,none⟩) 1 1,.slice (some ⟨b5,0,none⟩) 1 1,.string eB]]) [(56,true)] Tryz.func31 (fun hc=>xsameC (txN t) (by have:=cnX_wt (txN t); omega) [.string (bk (txN t).space),.string (bk (txN t).name),.slice van12 ((txN t).attrs.length) vcn12,.slice val12 ((txN t).kids.length) vcl12,.string (bk (txN t).text)] [.string eB,.string (mB #[97]),.slice (some ⟨b2,0,none⟩) 1 1,.slice (some ⟨b5,0,none⟩) 1 1,.string eB] (inG gp12) (fun y o=>inG ([(b2,.cells #[.string eB,.string (mB #[98]),.string (bk t)] 75 (0,0))]) y o∨inG ([(b5,.cells #[.string eB,.string eB,.slice none 0 0,.slice none 0 0,.string (bk t)] 55 (0,0))]) y o) (hJ12.rd (fun _ _ h=>h)) hTx6 _ _ (D7 1 rfl) (fun y o h=>h.elim (fun h=>At.mem (List.mem_of_getElem? (i:=5) rfl) h) (fun h=>At.mem (List.mem_of_getElem? (i:=3) rfl) h))) (B1 (E':=[⟨2,[],.bool ((((bk (innX (txN t))).toList==(bk t).toList)&&((bk (vlX (txN t).attrs ((mB #[98]).data.toList))).toList==(bk t).toList))&&true)⟩]) [6,0] [2] (k:=?_)))))))))
   refine A0 (B9 (F9 6 [] (B6 [.tmp 2] [.bool ((((bk (innX (txN t))).toList==(bk t).toList)&&((bk (vlX (txN t).attrs ((mB #[98]).data.toList))).toList==(bk t).toList))&&true)] (k:=?_))))
   first | exact ⟨rfl,rfl⟩ | exact ⟨congrArg Value.bool (by rw [hIn,hVl]; simp),rfl⟩
  ·
   have ht0:t=[]:=(eqB (bk t) eB).1 (by simpa only [Bool.not_eq_false'] using hc4)
   refine A8 (A0 (A1 (A2 (O2 0 0 5 rfl ?_))))
   have hTx14:=tx_rd0 (S:=(fun y o=>inG ([(b2,.cells #[.string eB,.string (mB #[98]),.string (bk t)] 75 (0,0))]) y o)) ht0 (X7 (S:=inG ([(b2,.cells #[.string eB,.string (mB #[98]),.string (bk t)] 75 (0,0))])) Rd.lit (fun _ _ h=>h))
   refine K9 Tryz.func34 (xprintC (txN t) [.string eB,.string (mB #[97]),.slice (some ⟨b2,0,none⟩) 1 1,.slice none 0 0,.string eB] (fun y o=>inG ([(b2,.cells #[.string eB,.string (mB #[98]),.string (bk t)] 75 (0,0))]) y o) hTx14 (by omega) (.tuple #[.string (bk (prX [] (txN t))),.int .i64 0]) (by rw [hRt]; rfl) _ _ (fun y o h=>At.mem (List.mem_of_getElem? (i:=1) rfl) h) hX) (A7 [0,0,0,0,0] [3,4,5,6] (k:=A0 (A1 (A2 (A3 (j:=1) [0] (k:=K6 (ch:=[]) (src:=9) (dst:=22) (e:=5) (s:=(bk (prX [] (txN t)))) (k:=(fun b15 cap16 g17 hcap18 hrd19=>?_))))))))
   refine D9 Tryz.func29 (xparseV (some ⟨b15,0,none⟩) cap16 ((bk (prX [] (txN t))).data.toList) (inG g17) hrd19 (txN t) 0 hPr _ _ (D7 0 rfl) hX) ?_
   rintro _ _ ⟨c20,gp20,hJ20,rfl,rfl⟩
   obtain ⟨van20,vcn20,val20,vcl20,rfl⟩:=hJ20.shape
   refine A3 (j:=6) [0,0,0] (k:=L1 (.agg zN.toArray) (fun b21=>E3 0 0 (.agg #[.string (bk (txN t).space),.string (bk (txN t).name),.slice van20 ((txN t).attrs.length) vcn20,.slice val20 ((txN t).kids.length) vcl20,.string (bk (txN t).text)]) rfl (A7 [0] [3,4,6,7,8] (k:=A0 (A1 (A2 (A3 (j:=7) [0,0,0,0,0,2,0] (k:=N5 (ch:=[(44,true)]) (b:=b21) (off:=0) (l:=[.string (bk (txN t).space),.string (bk (txN t).name),.slice van20 ((txN t).attrs.length) vcn20,.slice val20 ((txN t).kids.length) vcl20,.string (bk (txN t).text)]) (hA:=At.grp 0 0 rfl rfl) (k:=?_)))))))))
   refine P6 (vs:=[.agg #[.string (bk (txN t).space),.string (bk (txN t).name),.slice van20 ((txN t).attrs.length) vcn20,.slice val20 ((txN t).kids.length) vcl20,.string (bk (txN t).text)]]) [(44,true)] Tryz.func42 (fun hc=>xinnerC (txN t) [.string (bk (txN t).space),.string (bk (txN t).name),.slice van20 ((txN t).attrs.length) vcn20,.slice val20 ((txN t).kids.length) vcl20,.string (bk (txN t).text)] (inG gp20) (hJ20.rd (fun _ _ h=>h)) (by omega) _ _ (D7 1 rfl)) (A3 (j:=13) [0,0,2,0] (k:=N5 (ch:=[(50,true)]) (b:=b21) (off:=0) (l:=[.string (bk (txN t).space),.string (bk (txN t).name),.slice van20 ((txN t).attrs.length) vcn20,.slice val20 ((txN t).kids.length) vcl20,.string (bk (txN t).text)]) (hA:=At.grp 0 0 rfl rfl) (k:=P6 (vs:=[.agg #[.string (bk (txN t).space),.string (bk (txN t).name),.slice van20 ((txN t).attrs.length) vcn20,.slice val20 ((txN t).kids.length) vcl20,.string (bk (txN t).text)],.string (mB #[98])]) [(50,true)] Tryz.func40 (fun hc=>xvalueC (txN t) [.string (bk (txN t).space),.string (bk (txN t).name),.slice van20 ((txN t).attrs.length) vcn20,.slice val20 ((txN t).kids.length) vcl20,.string (bk (txN t).text)] (inG gp20) (hJ20.rd (fun _ _ h=>h)) (by omega) ((mB #[98]).data.toList) _ _ (D7 1 rfl)) (A3 (j:=19) [0,0,6,0] (k:=N5 (ch:=[(56,true)]) (b:=b21) (off:=0) (l:=[.string (bk (txN t).space),.string (bk (txN t).name),.slice van20 ((txN t).attrs.length) vcn20,.slice val20 ((txN t).kids.length) vcl20,.string (bk (txN t).text)]) (hA:=At.grp 0 0 rfl rfl) (k:=N5 (ch:=[(56,true)]) (b:=b3) (off:=0) (l:=[.string eB,.string (mB #[97]),.slice (some ⟨b2,0,none⟩) 1 1,.slice none 0 0,.string eB]) (hA:=At.grp 3 0 rfl rfl) (k:=P6 (vs:=[.agg #[.string (bk (txN t).space),.string (bk (txN t).name),.slice van20 ((txN t).attrs.length) vcn20,.slice val20 ((txN t).kids.length) vcl20,.string (bk (txN t).text)],.agg #[.string eB,.string (mB #[97]),.slice (some ⟨b2,0,none⟩) 1 1,.slice none 0 0,.string eB]]) [(56,true)] Tryz.func31 (fun hc=>xsameC (txN t) (by have:=cnX_wt (txN t); omega) [.string (bk (txN t).space),.string (bk (txN t).name),.slice van20 ((txN t).attrs.length) vcn20,.slice val20 ((txN t).kids.length) vcl20,.string (bk (txN t).text)] [.string eB,.string (mB #[97]),.slice (some ⟨b2,0,none⟩) 1 1,.slice none 0 0,.string eB] (inG gp20) (fun y o=>inG ([(b2,.cells #[.string eB,.string (mB #[98]),.string (bk t)] 75 (0,0))]) y o) (hJ20.rd (fun _ _ h=>h)) hTx14 _ _ (D7 1 rfl) (fun y o h=>At.mem (List.mem_of_getElem? (i:=4) rfl) h)) (A7 [6,0] [2] (k:=?_)))))))))
   refine A0 (B9 (F9 5 [] (B6 [.tmp 2] [.bool ((((bk (innX (txN t))).toList==(bk t).toList)&&((bk (vlX (txN t).attrs ((mB #[98]).data.toList))).toList==(bk t).toList))&&true)] (k:=?_))))
   first | exact ⟨rfl,rfl⟩ | exact ⟨congrArg Value.bool (by rw [hIn,hVl]; simp),rfl⟩
end Go.Proofs.YtppgfiklmfoaeaaGreatDoor
namespace Go.Proofs.YtppgfiklmfoaeaaGreatDoor
open Go Go.ChangeShapes Go.WideShapes Go.ChangeAt Go.RowKit Go.Sw Go.Esc Go.Json Go.Xml
theorem ownKnobXmlTexts:ownKnob Tryz.prog.godebug=none:=by kernel_rfl
set_option maxRecDepth 100000 in
theorem xmlTexts_lifted (os:Os) (started:os.Started) (H:Type) (enc:TypeId × Value→H) :
    ReturnsInHanded {} Tryz.checked os 14 .any (fun w args=>(Rows.xmlTextsSpec.pre enc Tryz.prog Tryz.f14 Rows.xmlTextsRow.domain false w args∧laidMetH Tryz.prog Rows.xmlTextsRow.laid w)∧sizedMet enc Tryz.prog Tryz.f14 (OpenSpec.ofChange Rows.xmlTextsSpec) false w args)
      (Rows.xmlTextsSpec.post enc Tryz.prog Tryz.f14 false true false false):=by
  refine returnsIn_shaped (C:=Tryz.checked) (X:=fun w _=>laidMetH Tryz.prog Rows.xmlTextsRow.laid w) (fun _ _ _ hh h=>h.of_heap hh) ownKnobXmlTexts started (by kernel_rfl) Tryz.func14
    (ChangeSpec.witness_shaped (enc:=enc) (C:=Tryz.checked) (os:=os) (X:=fun w _=>laidMetH Tryz.prog Rows.xmlTextsRow.laid w) false (World.laidAll Tryz.prog os Rows.xmlTextsRow.laid) #[.string eB] 8 (World.laidAll_os _ _ _)
      (World.shaped_of_ZipB (by kernel_rfl) (by kernel_rfl)) (by kernel_rfl) (by kernel_rfl) (by kernel_rfl)
      (by rw [MakeChecks.laidMetH_plain _ _ _ (by kernel_rfl)]; exact laidMet_laidAll _ (by kernel_rfl) (by kernel_rfl))) ?_
  intro W base args ds gs before hval0 hW hc hL hsh
  have hval:∀ (j:Nat) t v,Tryz.f14.params[j]? = some t→args[j]? = some v→Value.okWide Tryz.prog W .any base t v:=hval0
  have hW':=hW
  obtain ⟨p,q,hA0,hV,rfl,_,_⟩:=hW
  have hA:DataW.TrodAll enc Tryz.prog W 0 (fun _=>true) true Tryz.f14.params.toList args.toList ds p:=hA0
  rw [Tryz.params14] at hA hval
  obtain ⟨v0,d0,rfl,rfl,h0⟩:=trodAll_one hA
  obtain ⟨rfl,rfl⟩:=trodVars_none hV
  obtain ⟨s,rfl,_,_,ws⟩:=Go.ChangeMaps.open_string Tryz.underlying9 (hval 0 9 v0 rfl rfl) h0
  simp only [List.append_nil] at hW'
  rw [MakeChecks.laidMetH_plain _ _ _ (by kernel_rfl)] at hL
  have hB:=baseX_of (base_of hL) hsh
  have hlt:∀ x∈p,x.block<W.heap.size:=fun x hx=>by simpa using hW'.lt x hx
  refine (xmlTexts_ s W [] hB W (sat_nil W)).mono fun e W' ⟨v,H',he,⟨hv,hH⟩,hs⟩=>?_
  subst he; subst hv; subst hH
  have hb:=hs.below
  exact ⟨_,rfl,post_below (pv:=[]) hW' (fun _ _ _=>trodAll_mk1 (shut_bool Tryz.underlying4 _)) (fun sp hsp=>trodAll_mk1 (WideElems.Trod_stays laidOut_ (by kernel_rfl) (of_decide_eq_true (by kernel_rfl)) h0 (fun x hx=>hb.same (hlt x (by simp [hx]))) (fun x hx=>hsp x (by simp [hx])))) (fun _ _=>rfl) (by simp) hb (ok_one (by kernel_rfl) rfl (okWide_bool_mk Tryz.underlying4 _))⟩
set_option maxHeartbeats 4000000 in
theorem xmlTexts_closed:joinedFacts Tryz.prog 14 Tryz.f14 Rows.xmlTextsSpec Rows.xmlTextsRow=true:=by
  unfold joinedFacts
  rw [cl_may,cl_lift,cl_make,cl_heard,cl_keys]
  iterate 31 (refine and_tt ?_ (by as_aux_lemma=>kernel_rfl))
  as_aux_lemma=>kernel_rfl
theorem xmlTexts_said:Rows.XmlTextsSaid :=
  OpenClaim.holds_of_wide 14 Tryz.f14 rfl rfl rfl rfl rfl rfl rfl ⟨rfl,rfl,rfl,rfl,rfl⟩ rfl rfl rfl rfl rfl (by as_aux_lemma=>kernel_rfl) Tryz.func14 xmlTexts_closed
    (of_decide_eq_true (by kernel_rfl)) (by unfold Func.isWrapper; first | (rw [if_pos (by decide +kernel)]; kernel_rfl) | (rw [if_neg (by decide +kernel)]; exact ⟨rfl,rfl⟩))
    (fun os started H enc _=>xmlTexts_lifted os started H enc)
theorem xmlTexts_card:Rows.XmlTextsCardSaid :=
  Claim7.holds_tied_plain_at .later [] _ _ _ _ xmlTexts_said (fun _ h=>by cases h) (by as_aux_lemma=>kernel_rfl) (fun _ h=>by cases h) xmlTexts_row_tie rfl ⟨rfl,rfl⟩ (by as_aux_lemma=>kernel_rfl) rfl
    (fun f fn hf hfn=>by
      obtain rfl : f = 14 := Option.some.inj ((show Tryz.prog.funcNamed "broadsheet/broadsheetlaw08.XmlTexts" = some 14 by as_aux_lemma => kernel_rfl).symm.trans hf) |>.symm
      obtain rfl:fn=Tryz.f14:=(Option.some.inj (Tryz.func14.symm.trans hfn)).symm
      exact ⟨by as_aux_lemma=>kernel_rfl,fun j t ht=>by
        rw [Tryz.params14] at ht
        have hm:t∈[9]:=by simpa using Array.mem_of_getElem? ht
        have hall:([9].all fun u=>!Tryz.prog.wantsStandIn u)=true:=by as_aux_lemma=>kernel_rfl
        exact (show Tryz.prog.wantsStandIn t=false by simpa using List.all_eq_true.1 hall t hm)⟩)
    (by as_aux_lemma=>kernel_rfl)
#print axioms xmlTexts_card
end Go.Proofs.YtppgfiklmfoaeaaGreatDoor
