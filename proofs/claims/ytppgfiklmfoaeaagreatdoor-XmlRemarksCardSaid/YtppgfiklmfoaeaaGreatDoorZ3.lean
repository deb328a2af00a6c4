/- Bytes that lie in memory, nil or not, turned into a text. No condition. (and what it stands on) -/
import Derived.Test.YtppgfiklmfoaeaaGreatDoorZ2
import Derived.Lib.IndexMore
import Derived.Shelf.Strings.Cut
import Derived.Shelf.Strings.Search3
import Derived.Shelf.Strings.Split
import Derived.Shelf.Unicode.ValidAny
import Derived.Test.YtppgfiklmfoaeaaGreatDoorCards
import Derived.Test.YtppgfiklmfoaeaaGreatDoorTie
import Derived.ProofKit
import Derived.OpenShut
import Derived.LaidMore
import Derived.Lay
import Derived.SevenTiedAt
import Derived.Stop.Joined
import Derived.Stop.LaidErr
import Derived.LaidLaws
import Derived.Lib.LaidTab
import Derived.Lib.LaidU8T
import Derived.ChangeMaps5
import Derived.ChangeSlices
import Derived.Carry
import Derived.Shelf.Vars
import Derived.HandedShaped
namespace Go.Xml
open Go.Esc Go.Json Go.Lib
def M9:Nat→List UInt8→Option (List UInt8)
  | 0,l=>some l
  | n+1,l =>
    match M4 (blk l) with
    | none=>none
    | some (some r)=>M9 n r
    | some none=>some (blk l)
def quoteE (l:List UInt8):Option (List UInt8 × List UInt8):=if [34].isPrefixOf l then N8 [34] (l.drop 1) else if [39].isPrefixOf l then N8 [39] (l.drop 1) else none
def refsE (s:List UInt8):Option (List UInt8):=rfs (A7 s)
def attrE (l:List UInt8):Option (AT × List UInt8) :=
  match R7 l with
  | none=>none
  | some (a,r) =>
    match Q9 [61] (blk r) with
    | none=>none
    | some r1 =>
      match quoteE (blk r1) with
      | none=>none
      | some (v,r2)=>if (60:UInt8)∈v then none else match refsE v with
        | none=>none
        | some x=>some (⟨a,x⟩,r2)
def tagE:Nat→List AT→List UInt8→Option (List AT × Bool × List UInt8)
  | 0,_,_=>none
  | n+1,acc,l =>
    if [47,62].isPrefixOf (blk l) then some (acc,true,(blk l).drop 2)
    else if [62].isPrefixOf (blk l) then some (acc,false,(blk l).drop 1)
    else if (blk l).length<l.length then match attrE (blk l) with
      | none=>none
      | some (x,r)=>tagE n (acc++[x]) r
    else none
def spE:List AT→List (List UInt8)→SPX→Option SPX
  | [],_,sp=>some sp
  | a::r,seen,sp =>
    match Q4 a with
    | none=>spE r seen sp
    | some p=>if p∈seen∨a.q.has=true∧a.value=[] then none else spE r (p::seen) ((p,a.value)::sp)
def spaceE (p:List UInt8) (has:Bool) (sp:SPX):Option (List UInt8):=if has=true∧lookX sp p=none then none else some ((lookX sp p).getD [])
def marksE:List AT→List XA→SPX→Option (List XA)
  | [],out,_=>some out
  | a::r,out,sp =>
    if (Q4 a).isSome then marksE r out sp else
    match (if a.q.has then spaceE a.q.pre true sp else some []) with
    | none=>none
    | some s=>if out.any (fun y=>y.space==s&&y.name==a.q.name) then none else marksE r (out++[⟨s,a.q.name,a.value⟩]) sp
def textE (l:List UInt8):Option (List UInt8 × List UInt8) :=
  match idxL [60] l with
  | none=>none
  | some i=>if (idxL [93,93,62] (l.take i)).isSome then none else match refsE (l.take i) with
    | none=>none
    | some x=>some (x,l.drop i)
abbrev EX:=Except Int (XN × List UInt8)
def pieceE (el:List UInt8→EX) (ks:List XN) (l:List UInt8):Except Int (List XN × List UInt8) :=
  if [60,33,91,67,68,65,84,65,91].isPrefixOf l then match N8 [93,93,62] (l.drop 9) with
    | none=>.error 70
    | some (s,r)=>.ok (addX ks (A7 s),r)
  else match M4 l with
    | none=>.error 70
    | some (some r)=>.ok (ks,r)
    | some none =>
      if [60].isPrefixOf l then match el (l.drop 1) with
        | .error e=>.error e
        | .ok (k,r)=>.ok (ks++[k],r)
      else match textE l with
        | none=>.error 70
        | some (x,r)=>.ok (addX ks x,r)
def contE (el:List UInt8→EX):Nat→List XN→List UInt8→Except Int (List XN × List UInt8)
  | 0,_,_=>.error 70
  | n+1,ks,l =>
    if [60,47].isPrefixOf l then .ok (ks,l.drop 2) else match pieceE el ks l with
      | .error e=>.error e
      | .ok (ks2,r)=>contE el n ks2 r
def headE (sp0:SPX) (l:List UInt8):Option (QN × List UInt8 × List XA × SPX × Bool × List UInt8) :=
  match R7 l with
  | none=>none
  | some (a,r) =>
    match tagE (r.length+1) [] r with
    | none=>none
    | some (ats,c,r1) =>
      match spE ats [] sp0 with
      | none=>none
      | some sp =>
        match spaceE a.pre a.has sp with
        | none=>none
        | some s =>
          match marksE ats [] sp with
          | none=>none
          | some m=>some (a,s,m,sp,c,r1)
def endE (a:QN) (l:List UInt8):Option (List UInt8) :=
  match R7 l with
  | none=>none
  | some (b,r)=>if b≠a then none else Q9 [62] (blk r)
def elE:Nat→SPX→List UInt8→EX
  | lv,sp0,l =>
    match headE sp0 l with
    | none=>.error 70
    | some (a,s,m,sp,c,r1) =>
      match lv with
      | 0=>.error 71
      | lv+1 =>
        if c then .ok (.mk s a.name m [] [],r1) else
        match contE (elE lv sp) (r1.length+1) [] r1 with
        | .error e=>.error e
        | .ok (ks,r2) =>
          match endE a r2 with
          | none=>.error 70
          | some r3=>.ok (.mk s a.name m ks [],r3)
def parE (l0:List UInt8):XN × Int :=
  if 65536<l0.length then (T2,72) else
  if N1 (D2 l0)=false∨I6 (D2 l0)≠D2 l0 then (T2,70) else
  match M9 ((D2 l0).length+1) (D2 l0) with
  | none=>(T2,70)
  | some r =>
    match Q9 [60] r with
    | none=>(T2,70)
    | some r1 =>
      match elE 24 G8 r1 with
      | .error e=>(T2,e)
      | .ok (k,r2) =>
        match M9 (r2.length+1) r2 with
        | none=>(T2,70)
        | some r3=>if r3=[] then (k,0) else (T2,70)
theorem Pl.tail {c:UInt8} {u:List UInt8} (h:Pl (c::u)) (hc:c.toNat<128):Pl u:=by
  obtain ⟨ps,h1,h2⟩:=h
  obtain ⟨qs,e1,e2⟩:=enc_tail (fun p hp=>(h1 p hp).1) hc h2.symm
  exact ⟨qs,fun q hq=>h1 q (by rw [e1]; exact List.mem_cons_of_mem _ hq),e2⟩
theorem Pl.behind:∀ {w r:List UInt8},Pl (w++r)→(∀ b∈w,b.toNat<128)→Pl r
  | [],_,h,_=>h
  | b::w,_,h,hw=>Pl.behind (w:=w) (Pl.tail h (hw b List.mem_cons_self)) (fun c hc=>hw c (List.mem_cons_of_mem _ hc))
theorem pre_eq {w l:List UInt8} (h:w.isPrefixOf l=true):l=w++l.drop w.length:=by
  obtain ⟨t,rfl⟩:=List.isPrefixOf_iff_prefix.1 h
  rw [List.drop_left]
theorem Pl.pre {w l:List UInt8} (h:Pl l) (hp:w.isPrefixOf l=true) (hw:∀ b∈w,b.toNat<128):Pl (l.drop w.length):=Pl.behind (w:=w) (by rw [← pre_eq hp]; exact h) hw
theorem idx_pre:∀ {w l:List UInt8} {i:Nat},idxL w l=some i→w.isPrefixOf (l.drop i)=true
  | w,[],i,h=>by
    unfold idxL at h
    split at h
    · rename_i hw; subst hw; rfl
    · cases h
  | w,b::t,i,h=>by
    unfold idxL at h
    split at h
    · rename_i hp; injection h with h; subst h; exact hp
    · cases hq:idxL w t with
      | none=>rw [hq] at h; cases h
      | some j=>rw [hq] at h; injection h with h; have h2:j+1=i:=h; rw [← h2,List.drop_succ_cons]; exact idx_pre hq
theorem Pl.at {w l:List UInt8} {i:Nat} (h:Pl l) (hi:idxL w l=some i) (hw:w≠[]) (ha:∀ b∈w,b.toNat<128):Pl (l.take i)∧Pl (l.drop i)∧Pl (l.drop (i+w.length)):=by
  have hp:=idx_pre hi
  have h1:Pl (l.take i++l.drop i):=by rw [List.take_append_drop]; exact h
  have h2:=h1.split (fun c t e=>by
    have h3:=pre_eq hp
    rw [e] at h3
    cases w with
    | nil=>exact absurd rfl hw
    | cons b w=>injection h3 with h3 _; rw [h3]; exact ha b List.mem_cons_self)
  refine ⟨h2.1,h2.2,?_⟩
  have h4:=h2.2.pre hp ha
  rwa [List.drop_drop] at h4
theorem V3 (b:UInt8) (l:List UInt8):nmX (b::l)=if fstX b=true then 1+(l.takeWhile nxtX).length else 0:=rfl
theorem nm_split (l:List UInt8):∀ c t,l.drop (nmX l)=c::t→nmX l=0∨c.toNat<128:=by
  cases l with
  | nil=>intro c t h; exact .inl rfl
  | cons b l =>
    intro c t h
    rw [V3] at h ⊢
    by_cases hb:fstX b=true
    · rw [if_pos hb] at h
      refine .inr ?_
      rw [Nat.add_comm,List.drop_succ_cons,show l.drop (l.takeWhile nxtX).length=l.dropWhile nxtX from by
        conv=>lhs; arg 2; rw [← List.takeWhile_append_dropWhile (p:=nxtX) (l:=l)]
        rw [List.drop_left]] at h
      have hh:nxtX c=false:=by
        have h2:=List.head?_dropWhile_not nxtX l
        rw [h] at h2
        simpa using h2
      by_cases hc:c.toNat<128
      · exact hc
      · exfalso
        unfold nxtX fstX at hh
        simp [show 128≤c.toNat by omega] at hh
    · exact .inl (if_neg hb)
theorem Pl.nm {l:List UInt8} (h:Pl l) (h0:nmX l≠0):Pl (l.take (nmX l))∧Pl (l.drop (nmX l)) :=
  Pl.split (by rw [List.take_append_drop]; exact h) (fun c t e=>(nm_split l c t e).resolve_left h0)
theorem Pl.blk:∀ {l:List UInt8},Pl l→Pl (blk l)
  | [],h=>h
  | b::t,h=>by
    show Pl ((b::t).dropWhile wsB)
    rw [List.dropWhile_cons]
    split
    · rename_i hb
      refine Pl.blk (h.tail ?_)
      unfold wsB at hb
      simp only [Bool.or_eq_true,beq_iff_eq] at hb
      rcases hb with ((rfl | rfl) | rfl) | rfl <;> decide
    · exact h
theorem blk_idem (l:List UInt8):blk (blk l)=blk l:=by
  unfold blk
  induction l with
  | nil=>rfl
  | cons b t ih =>
    rw [List.dropWhile_cons]
    split
    · exact ih
    · rename_i hb; rw [List.dropWhile_cons,if_neg hb]
theorem blk_same {l:List UInt8} (h:¬ (blk l).length<l.length):blk l=l:=by
  have h1:blk l <:+ l:=List.dropWhile_suffix _
  exact h1.eq_of_length (by have:=Q5 l; omega)
theorem name_pl {l:List UInt8} {x:List UInt8 × List UInt8} (h:Pl l) (hn:T5 l=some x):Pl x.1∧Pl x.2∧x.2.length<l.length∧x.1≠[]:=by
  unfold T5 at hn
  split at hn
  · cases hn
  · rename_i h0
    injection hn with hn; subst hn
    have h1:=h.nm h0
    have h2:nmX l≤l.length:=by
      cases l with
      | nil=>exact Nat.le_refl _
      | cons b l =>
        rw [V3]; split
        · have:=(List.takeWhile_prefix nxtX (l:=l)).length_le; rw [List.length_cons]; omega
        · exact Nat.zero_le _
    refine ⟨h1.1,h1.2,?_,?_⟩
    · show (l.drop _).length<_; rw [List.length_drop]; omega
    · intro e; have:=congrArg List.length e; rw [List.length_take,List.length_nil] at this; omega
theorem qual_pl {l:List UInt8} {x:QN × List UInt8} (h:Pl l) (hn:R7 l=some x):Pl x.2∧x.2.length<l.length∧x.1.name≠[]∧(x.1.has=false→x.1.pre=[]):=by
  unfold R7 at hn
  cases h1:T5 l with
  | none=>rw [h1] at hn; cases hn
  | some y =>
    rw [h1] at hn
    dsimp only at hn
    obtain ⟨p1,p2,p3,p4⟩:=name_pl h h1
    split at hn
    · rename_i hp
      cases h2:T5 (y.2.drop 1) with
      | none=>rw [h2] at hn; cases hn
      | some z =>
        rw [h2] at hn; injection hn with hn; subst hn
        obtain ⟨q1,q2,q3,q4⟩:=name_pl (p2.pre hp (by decide)) h2
        rw [List.length_drop] at q3
        exact ⟨q2,by show z.2.length<_; omega,q4,fun h=>by cases h⟩
    · injection hn with hn; subst hn
      exact ⟨p2,p3,p4,fun _=>rfl⟩
theorem until_pl {w l:List UInt8} {x:List UInt8 × List UInt8} (h:Pl l) (hw:w≠[]) (ha:∀ b∈w,b.toNat<128) (hn:N8 w l=some x):Pl x.1∧Pl x.2∧x.2.length<l.length:=by
  unfold N8 at hn
  cases hi:idxL w l with
  | none=>rw [hi] at hn; cases hn
  | some i =>
    rw [hi] at hn; injection hn with hn; subst hn
    obtain ⟨h1,_,h2⟩:=h.at hi hw ha
    have h3:=idx_le hi
    have h4:0<w.length:=List.length_pos_iff.2 hw
    exact ⟨h1,h2,by show (l.drop _).length<_; rw [List.length_drop]; omega⟩
theorem must_pl {w l r:List UInt8} (h:Pl l) (hw:w≠[]) (ha:∀ b∈w,b.toNat<128) (hn:Q9 w l=some r):Pl r∧r.length<l.length:=by
  unfold Q9 at hn
  split at hn
  · rename_i hp
    injection hn with hn; subst hn
    have h3:=(List.isPrefixOf_iff_prefix.1 hp).length_le
    have h4:0<w.length:=List.length_pos_iff.2 hw
    exact ⟨h.pre hp ha,by rw [List.length_drop]; omega⟩
  · cases hn
theorem aside_pl {l r:List UInt8} (h:Pl l) (hn:M4 l=some (some r)):Pl r∧r.length<l.length:=by
  unfold M4 at hn
  split at hn
  · rename_i hp
    have h1:=h.pre hp (by decide)
    cases hu:N8 [45,45] (l.drop 4) with
    | none=>rw [hu] at hn; cases hn
    | some x =>
      rw [hu,Option.bind_some] at hn
      cases hm:Q9 [62] x.2 with
      | none=>rw [hm] at hn; cases hn
      | some y =>
        rw [hm] at hn; injection hn with hn; injection hn with hn; subst hn
        obtain ⟨_,h2,h3⟩:=until_pl h1 (by decide) (by decide) hu
        obtain ⟨h4,h5⟩:=must_pl h2 (by decide) (by decide) hm
        rw [List.length_drop] at h3
        exact ⟨h4,by omega⟩
  · split at hn
    · rename_i hp
      have h1:=h.pre hp (by decide)
      cases hu:T5 (l.drop 2) with
      | none=>rw [hu] at hn; cases hn
      | some x =>
        rw [hu,Option.bind_some] at hn
        cases hm:N8 [63,62] x.2 with
        | none=>rw [hm] at hn; cases hn
        | some y =>
          rw [hm] at hn; injection hn with hn; injection hn with hn; subst hn
          obtain ⟨_,h2,h3,_⟩:=name_pl h1 hu
          obtain ⟨_,h4,h5⟩:=until_pl h2 (by decide) (by decide) hm
          rw [List.length_drop] at h3
          exact ⟨h4,by show y.2.length<_; omega⟩
    · cases hn
theorem quote_pl {l:List UInt8} {x:List UInt8 × List UInt8} (h:Pl l) (hn:quoteE l=some x):Pl x.1∧Pl x.2∧x.2.length<l.length:=by
  unfold quoteE at hn
  split at hn
  · rename_i hp
    obtain ⟨h1,h2,h3⟩:=until_pl (h.pre hp (by decide)) (by decide) (by decide) hn
    change x.2.length<(l.drop 1).length at h3
    rw [List.length_drop] at h3
    exact ⟨h1,h2,by omega⟩
  · split at hn
    · rename_i hp
      obtain ⟨h1,h2,h3⟩:=until_pl (h.pre hp (by decide)) (by decide) (by decide) hn
      change x.2.length<(l.drop 1).length at h3
      rw [List.length_drop] at h3
      exact ⟨h1,h2,by omega⟩
    · cases hn
theorem attr_pl {l:List UInt8} {x:AT × List UInt8} (h:Pl l) (hn:attrE l=some x):Pl x.2∧x.2.length<l.length∧x.1.q.name≠[]∧(x.1.q.has=false→x.1.q.pre=[]):=by
  unfold attrE at hn
  cases h1:R7 l with
  | none=>rw [h1] at hn; cases hn
  | some a =>
    obtain ⟨a,r⟩:=a
    rw [h1] at hn; dsimp only at hn
    obtain ⟨p1,p2,p3,p4⟩:=qual_pl h h1
    dsimp only at p1 p2 p3 p4
    cases h2:Q9 [61] (blk r) with
    | none=>rw [h2] at hn; cases hn
    | some r1 =>
      rw [h2] at hn; dsimp only at hn
      obtain ⟨q1,q2⟩:=must_pl p1.blk (by decide) (by decide) h2
      cases h3:quoteE (blk r1) with
      | none=>rw [h3] at hn; cases hn
      | some v =>
        obtain ⟨v,r2⟩:=v
        rw [h3] at hn; dsimp only at hn
        obtain ⟨_,s2,s3⟩:=quote_pl q1.blk h3
        split at hn
        · cases hn
        · cases h4:refsE v with
          | none=>rw [h4] at hn; cases hn
          | some y =>
            rw [h4] at hn; injection hn with hn; subst hn
            have b1:=Q5 r
            have b2:=Q5 r1
            dsimp only at s2 s3
            exact ⟨s2,by dsimp only; omega,p3,p4⟩
theorem text_pl {l:List UInt8} {x:List UInt8 × List UInt8} (h:Pl l) (hn:textE l=some x) (h60:[60].isPrefixOf l=false):Pl x.2∧x.2.length<l.length:=by
  unfold textE at hn
  cases hi:idxL [60] l with
  | none=>rw [hi] at hn; cases hn
  | some i =>
    rw [hi] at hn; dsimp only at hn
    split at hn
    · cases hn
    · cases h4:refsE (l.take i) with
      | none=>rw [h4] at hn; cases hn
      | some y =>
        rw [h4] at hn; injection hn with hn; subst hn
        have h5:=idx_le hi
        refine ⟨(h.at hi (by decide) (by decide)).2.1,?_⟩
        show (l.drop i).length<_
        rw [List.length_drop]
        have h6:i≠0:=by
          rintro rfl
          have:=idx_pre hi
          rw [List.drop_zero,h60] at this; cases this
        have h7:([60]:List UInt8).length=1:=rfl
        omega
end Go.Xml
namespace Go.Xml
open Go.Esc Go.Json Go.Lib
theorem lines_no {b:UInt8} (h:b≠13):∀ t,A7 (b::t)=b::A7 t:=by
  intro t
  cases t with
  | nil=>simp [A7,h]
  | cons c t =>
    rw [A7]
    · rw [if_neg h]
    · intro u e1 _; exact h e1
theorem lines_13 {t:List UInt8} (h:∀ u,t≠10::u):A7 (13::t)=10::A7 t:=by
  cases t with
  | nil=>rfl
  | cons c t =>
    rw [A7]
    · rfl
    · intro u _ e2; exact h u e2
theorem lines_keep:∀ (a t:List UInt8),(∀ b∈a,b≠13)→A7 (a++t)=a++A7 t
  | [],_,_=>rfl
  | b::a,t,h=>by rw [List.cons_append,lines_no (h b List.mem_cons_self),lines_keep a t (fun c hc=>h c (List.mem_cons_of_mem _ hc))]; rfl
theorem lines_enc:∀ (n:Nat) (ps:List Int),ps.length≤n→(∀ p∈ps,isR p∧O9 p=true)→∃ qs,(∀ q∈qs,isR q∧O9 q=true)∧A7 (T3 ps)=T3 qs
  | _,[],_,_=>⟨[],fun _ h=>absurd h List.not_mem_nil,rfl⟩
  | 0,p::ps,h,_=>by simp at h
  | n+1,p::ps,h,hp=>by
    have hps:=fun q hq=>hp q (List.mem_cons_of_mem p hq)
    obtain ⟨hpR,hpP⟩:=hp p List.mem_cons_self
    rw [List.length_cons] at h
    have h10:isR 10∧O9 10=true:=⟨by unfold isR; decide,by decide⟩
    by_cases h13:p=13
    · subst h13
      have e0:T3 (13::ps)=13::T3 ps:=by rw [J6,enc_one (by decide) (by decide)]; rfl
      have e1:∀ qs,T3 (10::qs)=10::T3 qs:=fun qs=>by rw [J6,enc_one (by decide) (by decide)]; rfl
      rw [e0]
      by_cases hc:∃ u,T3 ps=10::u
      · obtain ⟨u,hu⟩:=hc
        obtain ⟨qs,e2,e3⟩:=enc_tail (fun q hq=>(hps q hq).1) (by decide) hu
        rw [hu,lines_cr,e3]
        obtain ⟨rs,hr,e4⟩:=lines_enc n qs (by rw [e2,List.length_cons] at h; omega) (fun q hq=>hps q (by rw [e2]; exact List.mem_cons_of_mem _ hq))
        exact ⟨10::rs,fun q hq=>by rcases List.mem_cons.1 hq with rfl | hq; exact h10; exact hr q hq,by rw [e1,e4]⟩
      · rw [lines_13 (fun u e=>hc ⟨u,e⟩)]
        obtain ⟨rs,hr,e4⟩:=lines_enc n ps (by omega) hps
        exact ⟨10::rs,fun q hq=>by rcases List.mem_cons.1 hq with rfl | hq; exact h10; exact hr q hq,by rw [e1,e4]⟩
    · have hne:∀ b∈encodeRune p,b≠13:=fun b hb=>by simpa using enc_no hpR (c:=13) (by decide) h13 b hb
      obtain ⟨rs,hr,e4⟩:=lines_enc n ps (by omega) hps
      exact ⟨p::rs,fun q hq=>by rcases List.mem_cons.1 hq with rfl | hq; exact ⟨hpR,hpP⟩; exact hr q hq,by rw [J6,lines_keep _ _ hne,e4,J6]⟩
theorem Pl.lines {l:List UInt8} (h:Pl l):Pl (A7 l):=by
  obtain ⟨ps,hp,rfl⟩:=h
  obtain ⟨qs,hq,e⟩:=lines_enc ps.length ps (Nat.le_refl _) hp
  exact ⟨qs,hq,e⟩
theorem refs_ok {s l:List UInt8} (h:Pl s):match refsE s with | some x=>G7 s (l,0)=(x,(l,0)) | none=>(G7 s (l,0)).2.2=70:=by
  obtain ⟨qs,hq,hl⟩:=h.lines
  have hm:=(rfs_main qs.length qs (Nat.le_refl _) hq).2
  unfold refsE G7
  rw [hl,hm]
  dsimp only
  by_cases hb:(A8 38 (T3 qs)).2.any badX=true
  · rw [if_pos (.inl hb),if_pos hb]
    dsimp only
    rw [flt_0 (e:=70) (q:=(l,0)) rfl]
    split
    · rw [flt_ne (show (70:Int)≠0 by decide)]
    · rfl
  · by_cases hp:I6 (unL (T3 qs))≠unL (T3 qs)
    · rw [if_pos (.inr hp),if_neg hb,if_pos hp]; rfl
    · rw [if_neg (fun h=>h.elim hb hp),if_neg hb,if_neg hp]
theorem around_ne {n:Nat} {q:XS} (h:q.2≠0):B3 n q=q:=by
  cases n with
  | zero=>rfl
  | succ n=>unfold B3; rw [if_pos h]
theorem W3 (n m:Nat) (l:List UInt8) (hp:Pl l) (hn:l.length<n) (hm:l.length<m):match M9 n l with | some r=>B3 m (l,0)=(r,0)∧Pl r∧r.length≤l.length | none=>(B3 m (l,0)).2=70:=by
  obtain ⟨n,rfl⟩:∃ k,n=k+1:=⟨n - 1,by omega⟩
  obtain ⟨m,rfl⟩:∃ k,m=k+1:=⟨m - 1,by omega⟩
  have hs:K5 (l,0)=(decide ((blk l).length<l.length),(blk l,0)):=rfl
  rw [B3,if_neg (by simp),hs]
  dsimp only
  by_cases hb:(blk l).length<l.length
  · rw [if_pos (decide_eq_true hb)]
    have ih:=W3 (n+1) m (blk l) hp.blk (by omega) (by omega)
    have he:M9 (n+1) (blk l)=M9 (n+1) l:=by rw [M9,M9,blk_idem]
    rw [he] at ih
    revert ih
    cases M9 (n+1) l with
    | none=>exact id
    | some r=>exact fun ih=>⟨ih.1,ih.2.1,by have:=ih.2.2; omega⟩
  · rw [if_neg (by rw [decide_eq_false hb]; decide),blk_same hb]
    have ha:=aside_ok (l:=l)
    rw [M9,blk_same hb]
    cases hA:M4 l with
    | none =>
      rw [hA] at ha
      dsimp only at ha ⊢
      rw [if_pos ha.1,around_ne (by rw [ha.2]; decide),ha.2]
    | some x =>
      cases x with
      | none=>rw [hA] at ha; dsimp only at ha ⊢; rw [ha]; dsimp only; rw [if_neg Bool.false_ne_true]; exact ⟨rfl,hp,Nat.le_refl _⟩
      | some r =>
        obtain ⟨h1,h2⟩:=aside_pl hp hA
        rw [hA] at ha; dsimp only at ha ⊢
        rw [ha,if_pos rfl]
        have ih:=W3 n m r h1 (by omega) (by omega)
        revert ih
        cases M9 n r with
        | none=>exact id
        | some r=>exact fun ih=>⟨ih.1,ih.2.1,by have:=ih.2.2; omega⟩
termination_by l.length
theorem quote_ok {l:List UInt8}:match quoteE l with | some x=>C8 (l,0)=(x.1,(x.2,0)) | none=>(C8 (l,0)).2.2=70:=by
  unfold quoteE C8
  by_cases h1:[34].isPrefixOf l=true
  · rw [if_pos h1,take_yes h1,if_pos rfl]; exact until_ok
  · rw [if_neg h1,take_no h1]
    simp only [Bool.false_eq_true,if_false]
    by_cases h2:[39].isPrefixOf l=true
    · rw [if_pos h2,take_yes h2,if_pos rfl]; exact until_ok
    · rw [if_neg h2,take_no h2]
      simp only [Bool.false_eq_true,if_false]; rfl
theorem quote_ne {q:XS} (h:q.2≠0):(C8 q).2.2=q.2:=by
  have t1:=take_e [34] q
  have t2:=take_e [39] q
  unfold C8
  split
  · rw [until_ne (by rw [t1]; exact h),t1]
  · split
    · rw [until_ne (by rw [t2]; exact h),t2]
    · show (E3 70 q).2=_; rw [flt_ne h]
def valX (v:List UInt8 × XS):List UInt8 × XS:=G7 v.1 (if (60:UInt8)∈v.1 then E3 70 v.2 else v.2)
theorem val_ne {v:List UInt8 × XS} (h:v.2.2≠0):(valX v).2.2=v.2.2:=by
  unfold valX
  have:(if (60:UInt8)∈v.1 then E3 70 v.2 else v.2)=v.2:=by split; exact flt_ne h; rfl
  rw [this,refs_ne h]
theorem attrX_eq (q:XS):V5 q=(⟨(A5 q).1,(valX (C8 (K5 (C2 [61] (K5 (A5 q).2).2)).2)).1⟩,(valX (C8 (K5 (C2 [61] (K5 (A5 q).2).2)).2)).2):=rfl
theorem skip_e (q:XS):(K5 q).2.2=q.2:=rfl
theorem attr_ne {q:XS} (h:(A5 q).2.2≠0):(V5 q).2.2=(A5 q).2.2:=by
  rw [attrX_eq]
  have h1:(C2 [61] (K5 (A5 q).2).2).2=(A5 q).2.2:=must_ne h
  have h2:(C8 (K5 (C2 [61] (K5 (A5 q).2).2)).2).2.2=(A5 q).2.2:=by rw [quote_ne (by rw [skip_e,h1]; exact h),skip_e,h1]
  exact (val_ne (v:=C8 (K5 (C2 [61] (K5 (A5 q).2).2)).2) (by rw [h2]; exact h)).trans h2
theorem attr_ok {l:List UInt8} (h:Pl l):match attrE l with | some x=>V5 (l,0)=(x.1,(x.2,0)) | none=>(V5 (l,0)).2.2=70:=by
  have h1:=qual_ok (l:=l)
  unfold attrE
  cases hq:R7 l with
  | none =>
    rw [hq] at h1
    dsimp only at h1 ⊢
    rw [attr_ne (by rw [h1]; decide),h1]
  | some a =>
    obtain ⟨a,r⟩:=a
    obtain ⟨p1,p2,_,_⟩:=qual_pl h hq
    rw [hq] at h1
    dsimp only at h1 p1 p2 ⊢
    rw [attrX_eq,h1]
    have s1:(K5 (r,0)).2=(blk r,0):=rfl
    dsimp only
    rw [s1]
    have h2:=must_ok (w:=[61]) (l:=blk r)
    cases hm:Q9 [61] (blk r) with
    | none =>
      rw [hm] at h2
      dsimp only at h2 ⊢
      have h3:(C8 (K5 (C2 [61] (blk r,0))).2).2.2=70:=by rw [quote_ne (by rw [skip_e,h2]; decide),skip_e,h2]
      rw [val_ne (by rw [h3]; decide),h3]
    | some r1 =>
      obtain ⟨q1,q2⟩:=must_pl p1.blk (by decide) (by decide) hm
      rw [hm] at h2
      dsimp only at h2 ⊢
      rw [h2]
      have s2:(K5 (r1,0)).2=(blk r1,0):=rfl
      rw [s2]
      have h3:=quote_ok (l:=blk r1)
      cases hv:quoteE (blk r1) with
      | none =>
        rw [hv] at h3
        dsimp only at h3 ⊢
        rw [val_ne (by rw [h3]; decide),h3]
      | some v =>
        obtain ⟨v,r2⟩:=v
        obtain ⟨v1,v2,_⟩:=quote_pl q1.blk hv
        rw [hv] at h3
        dsimp only at h3 v1 ⊢
        rw [h3]
        unfold valX
        dsimp only
        by_cases h60:(60:UInt8)∈v
        · rw [if_pos h60,if_pos h60,flt_0 rfl]
          dsimp only
          rw [refs_ne (show (70:Int)≠0 by decide)]
        · rw [if_neg h60,if_neg h60]
          have h4:=refs_ok (l:=r2) v1
          cases hr:refsE v with
          | none=>rw [hr] at h4; exact h4
          | some x=>rw [hr] at h4; dsimp only at h4 ⊢; rw [h4]
theorem attrs_ne {n:Nat} {acc:List AT} {q:XS} (h:q.2≠0):F1 n acc q=(acc,q):=by
  cases n with
  | zero=>rfl
  | succ n=>rw [F1,if_pos h]
theorem tag_ne {n:Nat} {acc:List AT} {q:XS} (h:q.2≠0):(tagX n acc q).2.2.2=q.2:=by
  unfold tagX
  rw [attrs_ne h]
  dsimp only
  have t1:=take_e [47,62] q
  split
  · exact t1
  · rw [must_ne (by rw [t1]; exact h),t1]
theorem tag_stop {m:Nat} {acc:List AT} {l r:List UInt8} (h:F1 m acc (l,0)=(acc,(r,0))):tagX m acc (l,0)=(acc,[47,62].isPrefixOf r,if [47,62].isPrefixOf r then (r.drop 2,0) else C2 [62] (r,0)):=by
  unfold tagX
  rw [h,take_0]
  by_cases h1:[47,62].isPrefixOf r=true
  · rw [if_pos h1,if_pos h1,h1]; rfl
  · rw [if_neg h1,if_neg h1,Bool.eq_false_iff.2 h1]; rfl
theorem tag_ok:∀ (n m:Nat) (acc:List AT) (l:List UInt8),Pl l→l.length<n→l.length<m→match tagE n acc l with | some x=>tagX m acc (l,0)=(x.1,x.2.1,(x.2.2,0))∧Pl x.2.2∧x.2.2.length<l.length | none=>(tagX m acc (l,0)).2.2.2=70
  | 0,_,_,_,_,h,_=>absurd h (Nat.not_lt_zero _)
  | _+1,0,_,_,_,_,h=>absurd h (Nat.not_lt_zero _)
  | n+1,m+1,acc,l,hp,hn,hm=>by
    have hs:K5 (l,0)=(decide ((blk l).length<l.length),(blk l,0)):=rfl
    have hA:F1 (m+1) acc (l,0)=if (blk l).length<l.length∧¬ [62].isPrefixOf (blk l)=true∧¬ [47,62].isPrefixOf (blk l)=true then F1 m (acc++[(V5 (blk l,0)).1]) (V5 (blk l,0)).2 else (acc,(blk l,0)):=by
      rw [F1,if_neg (by simp),hs]
      dsimp only
      by_cases hb:(blk l).length<l.length
      · simp only [hb,decide_true,true_and]
      · rw [if_neg (fun h=>hb (by simpa using h.1)),if_neg (fun h=>hb h.1)]
    rw [tagE]
    by_cases h1:[47,62].isPrefixOf (blk l)=true
    · rw [if_pos h1,tag_stop (hA.trans (if_neg fun h=>h.2.2 h1)),if_pos h1,h1]
      dsimp only
      have:=(List.isPrefixOf_iff_prefix.1 h1).length_le
      have h2:([47,62]:List UInt8).length=2:=rfl
      have h3:=Q5 l
      exact ⟨rfl,hp.blk.pre h1 (by decide),by rw [List.length_drop]; omega⟩
    · rw [if_neg h1]
      by_cases h2:[62].isPrefixOf (blk l)=true
      · rw [if_pos h2,tag_stop (hA.trans (if_neg fun h=>h.2.1 h2)),if_neg h1]
        dsimp only
        have:=(List.isPrefixOf_iff_prefix.1 h2).length_le
        have h4:([62]:List UInt8).length=1:=rfl
        have h3:=Q5 l
        refine ⟨?_,hp.blk.pre h2 (by decide),by rw [List.length_drop]; omega⟩
        unfold C2
        rw [if_pos h2,Bool.eq_false_iff.2 h1]; rfl
      · rw [if_neg h2]
        by_cases hb:(blk l).length<l.length
        · rw [if_pos hb]
          have hA2:=hA.trans (if_pos ⟨hb,h2,h1⟩)
          have h3:=attr_ok hp.blk
          cases hx:attrE (blk l) with
          | none =>
            rw [hx] at h3
            dsimp only at h3 ⊢
            have e:tagX (m+1) acc (l,0)=tagX m (acc++[(V5 (blk l,0)).1]) (V5 (blk l,0)).2:=by unfold tagX; rw [hA2]
            rw [e,tag_ne (by rw [h3]; decide),h3]
          | some x =>
            obtain ⟨x,r⟩:=x
            obtain ⟨p1,p2,_,_⟩:=attr_pl hp.blk hx
            rw [hx] at h3
            dsimp only at h3 p1 p2 ⊢
            have e:tagX (m+1) acc (l,0)=tagX m (acc++[x]) (r,0):=by unfold tagX; rw [hA2,h3]
            rw [e]
            have ih:=tag_ok n m (acc++[x]) r p1 (by omega) (by omega)
            revert ih
            cases tagE n (acc++[x]) r with
            | none=>exact id
            | some y=>exact fun ih=>⟨ih.1,ih.2.1,by have:=ih.2.2; omega⟩
        · rw [if_neg hb,tag_stop (hA.trans (if_neg fun h=>hb h.1)),if_neg h1]
          dsimp only
          unfold C2
          rw [if_neg h2]; rfl
theorem sp_ne:∀ {ats:List AT} {seen:List (List UInt8)} {sp:SPX} {q:XS},q.2≠0→(L5 ats seen sp q).2=q
  | [],_,_,_,_=>rfl
  | a::r,seen,sp,q,h=>by
    rw [L5]
    cases Q4 a with
    | none=>exact sp_ne h
    | some p =>
      dsimp only
      have:(if p∈seen∨a.q.has=true∧a.value=[] then E3 70 q else q)=q:=by split; exact flt_ne h; rfl
      rw [this]; exact sp_ne h
theorem sp_ok:∀ (ats:List AT) (seen:List (List UInt8)) (sp:SPX) (l:List UInt8),match spE ats seen sp with | some x=>L5 ats seen sp (l,0)=(x,(l,0)) | none=>(L5 ats seen sp (l,0)).2.2=70
  | [],_,_,_=>rfl
  | a::r,seen,sp,l=>by
    rw [L5,spE]
    cases Q4 a with
    | none=>exact sp_ok r seen sp l
    | some p =>
      dsimp only
      by_cases hc:p∈seen∨a.q.has=true∧a.value=[]
      · rw [if_pos hc,if_pos hc,flt_0 rfl]
        dsimp only
        rw [sp_ne (show (70:Int)≠0 by decide)]
      · rw [if_neg hc,if_neg hc]; exact sp_ok r _ _ l
theorem space_ne {p:List UInt8} {has:Bool} {sp:SPX} {q:XS} (h:q.2≠0):(J2 p has sp q).2=q:=by
  unfold J2; dsimp only; split
  · exact flt_ne h
  · rfl
theorem space_ok {p:List UInt8} {has:Bool} {sp:SPX} {l:List UInt8}:match spaceE p has sp with | some x=>J2 p has sp (l,0)=(x,(l,0)) | none=>(J2 p has sp (l,0)).2.2=70:=by
  unfold spaceE J2
  by_cases hc:has=true∧lookX sp p=none
  · rw [if_pos hc,if_pos hc]; rfl
  · rw [if_neg hc,if_neg hc]
theorem T7:∀ {ats:List AT} {out:List XA} {sp:SPX} {q:XS},q.2≠0→(M7 ats out sp q).2=q
  | [],_,_,_,_=>rfl
  | a::r,out,sp,q,h=>by
    rw [M7]
    split
    · exact T7 h
    · dsimp only
      have h1:(if a.q.has=true then J2 a.q.pre true sp q else ([],q)).2=q:=by split; exact space_ne h; rfl
      have h2:∀ b:Bool,(if b=true then E3 70 (if a.q.has=true then J2 a.q.pre true sp q else ([],q)).2 else (if a.q.has=true then J2 a.q.pre true sp q else ([],q)).2)=q:=by
        intro b; rw [h1]; split; exact flt_ne h; rfl
      rw [h2]; exact T7 h
theorem marks_ok:∀ (ats:List AT) (out:List XA) (sp:SPX) (l:List UInt8),match marksE ats out sp with | some x=>M7 ats out sp (l,0)=(x,(l,0)) | none=>(M7 ats out sp (l,0)).2.2=70
  | [],_,_,_=>rfl
  | a::r,out,sp,l=>by
    rw [M7,marksE]
    by_cases hd:(Q4 a).isSome=true
    · rw [if_pos hd,if_pos hd]; exact marks_ok r out sp l
    · rw [if_neg hd,if_neg hd]
      dsimp only
      have hs:match (if a.q.has=true then spaceE a.q.pre true sp else some []) with | some x=>(if a.q.has=true then J2 a.q.pre true sp (l,0) else ([],(l,0)))=(x,(l,0)) | none=>(if a.q.has=true then J2 a.q.pre true sp (l,0) else ([],(l,0))).2.2=70:=by
        by_cases hh:a.q.has=true
        · rw [if_pos hh,if_pos hh]; exact space_ok
        · rw [if_neg hh,if_neg hh]
      revert hs
      cases (if a.q.has=true then spaceE a.q.pre true sp else some []) with
      | none =>
        intro hs
        dsimp only at hs ⊢
        generalize (if a.q.has=true then J2 a.q.pre true sp (l,0) else ([],(l,0)))=y at hs
        have h2:∀ b:Bool,(if b=true then E3 70 y.2 else y.2)=y.2:=by
          intro b; split; exact flt_ne (by rw [hs]; decide); rfl
        rw [h2,T7 (by rw [hs]; decide),hs]
      | some s =>
        intro hs
        dsimp only at hs ⊢
        rw [hs]
        dsimp only
        by_cases hb:(out.any fun y=>y.space==s&&y.name==a.q.name)=true
        · rw [if_pos hb,if_pos hb,flt_0 rfl]
          dsimp only
          rw [T7 (show (70:Int)≠0 by decide)]
        · rw [if_neg hb,if_neg hb]; exact marks_ok r _ sp l
def ElOk (el:List UInt8→EX) (ex:XS→XN × XS):Prop:=∀ l,Pl l→match el l with | .ok x=>ex (l,0)=(x.1,(x.2,0))∧Pl x.2∧x.2.length<l.length | .error e=>(ex (l,0)).2.2=e∧e≠0
theorem cont_ne {ex:XS→XN × XS} {n:Nat} {ks:List XN} {q:XS} (h:q.2≠0):F3 ex n ks q=(ks,q):=by
  cases n with
  | zero=>rfl
  | succ n=>rw [F3,if_pos h]
theorem piece_ok {el:List UInt8→EX} {ex:XS→XN × XS} (hel:ElOk el ex) (m:Nat) (ks:List XN) (l:List UInt8) (hp:Pl l) (h0:¬ [60,47].isPrefixOf l=true):match pieceE el ks l with | .ok x=>F3 ex (m+1) ks (l,0)=F3 ex m x.1 (x.2,0)∧Pl x.2∧x.2.length<l.length | .error e=>(F3 ex (m+1) ks (l,0)).2.2=e∧e≠0:=by
  have ht:∀ w:List UInt8,(G0 w (l,0)).1=w.isPrefixOf l:=fun w=>by
    rw [take_0]
    by_cases h:w.isPrefixOf l=true
    · rw [if_pos h,h]
    · rw [if_neg h,Bool.eq_false_iff.2 h]
  have ht2:∀ w:List UInt8,w.isPrefixOf l=true→(G0 w (l,0)).2=(l.drop w.length,0):=fun w h=>by rw [take_0,if_pos h]
  rw [F3,if_neg (by simp)]
  unfold pieceE
  rw [ht,ht,ht,if_neg h0]
  by_cases h1:[60,33,91,67,68,65,84,65,91].isPrefixOf l=true
  · rw [if_pos h1,if_pos h1,ht2 _ h1]
    dsimp only [List.length_cons,List.length_nil]
    have p0:=hp.pre h1 (by decide)
    have hu:=until_ok (w:=[93,93,62]) (l:=l.drop 9)
    cases hU:N8 [93,93,62] (l.drop 9) with
    | none =>
      rw [hU] at hu
      dsimp only at hu ⊢
      rw [cont_ne (by rw [hu]; decide)]
      exact ⟨hu,by decide⟩
    | some x =>
      obtain ⟨x,r⟩:=x
      obtain ⟨_,p2,p3⟩:=until_pl p0 (by decide) (by decide) hU
      change r.length<(l.drop 9).length at p3
      rw [List.length_drop] at p3
      rw [hU] at hu
      dsimp only at hu ⊢
      rw [hu]
      exact ⟨rfl,p2,by omega⟩
  · rw [if_neg h1,if_neg h1]
    have ha:=aside_ok (l:=l)
    cases hA:M4 l with
    | none =>
      rw [hA] at ha
      dsimp only at ha ⊢
      rw [if_pos ha.1,cont_ne (by rw [ha.2]; decide)]
      exact ⟨ha.2,by decide⟩
    | some x =>
      cases x with
      | some r =>
        obtain ⟨p2,p3⟩:=aside_pl hp hA
        rw [hA] at ha
        dsimp only at ha ⊢
        rw [ha,if_pos rfl]
        exact ⟨rfl,p2,p3⟩
      | none =>
        rw [hA] at ha
        dsimp only at ha ⊢
        rw [ha]
        dsimp only
        rw [if_neg Bool.false_ne_true]
        by_cases h2:[60].isPrefixOf l=true
        · rw [if_pos h2,if_pos h2,ht2 _ h2]
          dsimp only [List.length_cons,List.length_nil]
          have p0:=hp.pre h2 (by decide)
          have h3:=hel (l.drop 1) p0
          cases hE:el (l.drop 1) with
          | error e =>
            rw [hE] at h3
            dsimp only at h3 ⊢
            rw [cont_ne (by rw [h3.1]; exact h3.2)]
            exact h3
          | ok x =>
            obtain ⟨x,r⟩:=x
            rw [hE] at h3
            dsimp only at h3 ⊢
            rw [h3.1]
            have h4:=h3.2.2
            rw [List.length_drop] at h4
            exact ⟨rfl,h3.2.1,by omega⟩
        · rw [if_neg h2,if_neg h2]
          have tp:=fun x h=>text_pl (x:=x) hp h (Bool.eq_false_iff.2 h2)
          unfold textE at tp ⊢
          cases hi:idxL [60] l with
          | none=>exact ⟨rfl,by decide⟩
          | some i =>
            rw [hi] at tp
            dsimp only at tp ⊢
            by_cases h3:(idxL [93,93,62] (l.take i)).isSome=true
            · rw [if_pos h3,if_pos h3]; exact ⟨rfl,by decide⟩
            · rw [if_neg h3] at tp
              rw [if_neg h3,if_neg h3]
              have hr:=refs_ok (l:=l.drop i) (hp.at hi (by decide) (by decide)).1
              cases hR:refsE (l.take i) with
              | none =>
                rw [hR] at hr
                dsimp only at hr ⊢
                rw [cont_ne (by rw [hr]; decide)]
                exact ⟨hr,by decide⟩
              | some x =>
                rw [hR] at hr tp
                dsimp only at hr tp ⊢
                rw [hr]
                obtain ⟨t1,t2⟩:=tp _ rfl
                exact ⟨rfl,t1,t2⟩
theorem cont_ok {el:List UInt8→EX} {ex:XS→XN × XS} (hel:ElOk el ex):∀ (n m:Nat) (ks:List XN) (l:List UInt8),Pl l→l.length<n→l.length<m→match contE el n ks l with | .ok x=>F3 ex m ks (l,0)=(x.1,(x.2,0))∧Pl x.2∧x.2.length<l.length | .error e=>(F3 ex m ks (l,0)).2.2=e∧e≠0
  | 0,_,_,_,_,h,_=>absurd h (Nat.not_lt_zero _)
  | _+1,0,_,_,_,_,h=>absurd h (Nat.not_lt_zero _)
  | n+1,m+1,ks,l,hp,hn,hm=>by
    rw [contE]
    by_cases h0:[60,47].isPrefixOf l=true
    · rw [if_pos h0]
      dsimp only
      rw [F3,if_neg (by simp),take_0,if_pos h0,if_pos rfl]
      have:=(List.isPrefixOf_iff_prefix.1 h0).length_le
      have h2:([60,47]:List UInt8).length=2:=rfl
      exact ⟨rfl,hp.pre h0 (by decide),by rw [List.length_drop]; omega⟩
    · rw [if_neg h0]
      have h1:=piece_ok hel m ks l hp h0
      cases hP:pieceE el ks l with
      | error e=>rw [hP] at h1; exact h1
      | ok x =>
        obtain ⟨k2,r⟩:=x
        rw [hP] at h1
        dsimp only at h1 ⊢
        rw [h1.1]
        have ih:=cont_ok hel n m k2 r h1.2.1 (by have:=h1.2.2; omega) (by have:=h1.2.2; omega)
        revert ih
        cases contE el n k2 r with
        | error e=>exact id
        | ok y=>exact fun ih=>⟨ih.1,ih.2.1,by have:=ih.2.2; have:=h1.2.2; omega⟩
theorem elX_eq (lv:Nat) (sp0:SPX) (q:XS):elX lv sp0 q =
    let a:=A5 q
    let t:=tagX (a.2.1.length+1) [] a.2
    if t.2.2.2≠0 then (T2,t.2.2) else
    let sp:=L5 t.1 [] sp0 t.2.2
    let s:=J2 a.1.pre a.1.has sp.1 sp.2
    let m:=M7 t.1 [] sp.1 s.2
    match lv with
    | 0=>(.mk s.1 a.1.name m.1 [] [],E3 71 m.2)
    | lv+1 =>
      if t.2.1=true∨m.2.2≠0 then (.mk s.1 a.1.name m.1 [] [],m.2) else R3 a.1 (F3 (elX lv sp.1) (m.2.1.length+1) [] m.2) s.1 m.1:=by
  rw [elX]
  cases lv <;> dsimp only
theorem end_ok {a:QN} {s:List UInt8} {m:List XA} {ks:List XN} {l:List UInt8} (hp:Pl l):match endE a l with | some r=>R3 a (ks,(l,0)) s m=(.mk s a.name m ks [],(r,0))∧Pl r∧r.length<l.length | none=>(R3 a (ks,(l,0)) s m).2.2=70:=by
  have h1:=qual_ok (l:=l)
  unfold endE R3
  dsimp only
  cases hq:R7 l with
  | none =>
    rw [hq] at h1
    dsimp only at h1 ⊢
    have h2:(C2 [62] (K5 (A5 (l,0)).2).2).2=70:=by rw [must_ne (by rw [skip_e,h1]; decide),skip_e,h1]
    split
    · rw [flt_ne (by rw [h2]; decide),h2]
    · exact h2
  | some b =>
    obtain ⟨b,r⟩:=b
    obtain ⟨p1,p2,_,_⟩:=qual_pl hp hq
    rw [hq] at h1
    dsimp only at h1 p1 p2 ⊢
    rw [h1]
    dsimp only
    have s1:(K5 (r,0)).2=(blk r,0):=rfl
    rw [s1]
    have h2:=must_ok (w:=[62]) (l:=blk r)
    by_cases hb:b≠a
    · rw [if_pos hb,if_pos hb]
      dsimp only
      cases hm:Q9 [62] (blk r) with
      | none=>rw [hm] at h2; dsimp only at h2; rw [flt_ne (by rw [h2]; decide),h2]
      | some x=>rw [hm] at h2; dsimp only at h2; rw [h2]; rfl
    · rw [if_neg hb,if_neg hb]
      cases hm:Q9 [62] (blk r) with
      | none=>rw [hm] at h2; exact h2
      | some x =>
        obtain ⟨q1,q2⟩:=must_pl p1.blk (by decide) (by decide) hm
        rw [hm] at h2
        have:=Q5 r
        exact ⟨congrArg (Prod.mk _) h2,q1,by omega⟩
theorem close_ne {a:QN} {k:List XN × XS} {s:List UInt8} {m:List XA} (h:k.2.2≠0):(R3 a k s m).2.2=k.2.2:=by
  unfold R3
  dsimp only
  have h1:=qual_ne h
  have h2:(C2 [62] (K5 (A5 k.2).2).2).2=k.2.2:=by rw [must_ne (by rw [skip_e,h1]; exact h),skip_e,h1]
  split
  · rw [flt_ne (by rw [h2]; exact h),h2]
  · exact h2
theorem el_ok:∀ (lv:Nat) (sp0:SPX),ElOk (elE lv sp0) (elX lv sp0):=by
  intro lv
  induction lv with
  | zero =>
    intro sp0 l hp
    have hx:=elX_eq 0 sp0 (l,0)
    dsimp only at hx
    rw [elE]
    unfold headE
    have h1:=qual_ok (l:=l)
    cases hq:R7 l with
    | none =>
      rw [hq] at h1
      dsimp only at h1 ⊢
      have ht:=tag_ne (n:=(A5 (l,0)).2.1.length+1) (acc:=[]) (q:=(A5 (l,0)).2) (by rw [h1]; decide)
      rw [h1] at ht
      rw [hx,if_pos (by rw [ht]; decide)]
      exact ⟨ht,by decide⟩
    | some a =>
      obtain ⟨a,r⟩:=a
      obtain ⟨p1,p2,_,_⟩:=qual_pl hp hq
      rw [hq] at h1
      dsimp only at h1 p1 p2 ⊢
      rw [h1] at hx
      dsimp only at hx
      have h2:=tag_ok (r.length+1) (r.length+1) [] r p1 (Nat.lt_succ_self _) (Nat.lt_succ_self _)
      cases hT:tagE (r.length+1) [] r with
      | none =>
        rw [hT] at h2
        dsimp only at h2 ⊢
        rw [hx,if_pos (by rw [h2]; decide)]
        exact ⟨h2,by decide⟩
      | some t =>
        obtain ⟨ats,c,r1⟩:=t
        rw [hT] at h2
        dsimp only at h2 ⊢
        rw [h2.1] at hx
        dsimp only at hx
        rw [if_neg (by decide)] at hx
        have h3:=sp_ok ats [] sp0 r1
        cases hS:spE ats [] sp0 with
        | none =>
          rw [hS] at h3
          dsimp only at h3 ⊢
          rw [space_ne (by rw [h3]; decide),T7 (by rw [h3]; decide),flt_ne (by rw [h3]; decide)] at hx
          rw [hx]; exact ⟨h3,by decide⟩
        | some sp =>
          rw [hS] at h3
          dsimp only at h3 ⊢
          rw [h3] at hx
          dsimp only at hx
          have h4:=space_ok (p:=a.pre) (has:=a.has) (sp:=sp) (l:=r1)
          cases hP:spaceE a.pre a.has sp with
          | none =>
            rw [hP] at h4
            dsimp only at h4 ⊢
            rw [T7 (by rw [h4]; decide),flt_ne (by rw [h4]; decide)] at hx
            rw [hx]; exact ⟨h4,by decide⟩
          | some s =>
            rw [hP] at h4
            dsimp only at h4 ⊢
            rw [h4] at hx
            dsimp only at hx
            have h5:=marks_ok ats [] sp r1
            cases hM:marksE ats [] sp with
            | none =>
              rw [hM] at h5
              dsimp only at h5 ⊢
              rw [flt_ne (by rw [h5]; decide)] at hx
              rw [hx]; exact ⟨h5,by decide⟩
            | some m =>
              rw [hM] at h5
              dsimp only at h5 ⊢
              rw [h5] at hx
              rw [hx]; exact ⟨rfl,by decide⟩
  | succ lv ih =>
    intro sp0 l hp
    have hx:=elX_eq (lv+1) sp0 (l,0)
    dsimp only at hx
    rw [elE]
    unfold headE
    have h1:=qual_ok (l:=l)
    cases hq:R7 l with
    | none =>
      rw [hq] at h1
      dsimp only at h1 ⊢
      have ht:=tag_ne (n:=(A5 (l,0)).2.1.length+1) (acc:=[]) (q:=(A5 (l,0)).2) (by rw [h1]; decide)
      rw [h1] at ht
      rw [hx,if_pos (by rw [ht]; decide)]
      exact ⟨ht,by decide⟩
    | some a =>
      obtain ⟨a,r⟩:=a
      obtain ⟨p1,p2,_,_⟩:=qual_pl hp hq
      rw [hq] at h1
      dsimp only at h1 p1 p2 ⊢
      rw [h1] at hx
      dsimp only at hx
      have h2:=tag_ok (r.length+1) (r.length+1) [] r p1 (Nat.lt_succ_self _) (Nat.lt_succ_self _)
      cases hT:tagE (r.length+1) [] r with
      | none =>
        rw [hT] at h2
        dsimp only at h2 ⊢
        rw [hx,if_pos (by rw [h2]; decide)]
        exact ⟨h2,by decide⟩
      | some t =>
        obtain ⟨ats,c,r1⟩:=t
        rw [hT] at h2
        dsimp only at h2 ⊢
        rw [h2.1] at hx
        dsimp only at hx
        rw [if_neg (by decide)] at hx
        have h3:=sp_ok ats [] sp0 r1
        cases hS:spE ats [] sp0 with
        | none =>
          rw [hS] at h3
          dsimp only at h3 ⊢
          rw [space_ne (by rw [h3]; decide),T7 (by rw [h3]; decide),if_pos (.inr (by rw [h3]; decide))] at hx
          rw [hx]; exact ⟨h3,by decide⟩
        | some sp =>
          rw [hS] at h3
          dsimp only at h3 ⊢
          rw [h3] at hx
          dsimp only at hx
          have h4:=space_ok (p:=a.pre) (has:=a.has) (sp:=sp) (l:=r1)
          cases hP:spaceE a.pre a.has sp with
          | none =>
            rw [hP] at h4
            dsimp only at h4 ⊢
            rw [T7 (by rw [h4]; decide),if_pos (.inr (by rw [h4]; decide))] at hx
            rw [hx]; exact ⟨h4,by decide⟩
          | some s =>
            rw [hP] at h4
            dsimp only at h4 ⊢
            rw [h4] at hx
            dsimp only at hx
            have h5:=marks_ok ats [] sp r1
            cases hM:marksE ats [] sp with
            | none =>
              rw [hM] at h5
              dsimp only at h5 ⊢
              rw [if_pos (.inr (by rw [h5]; decide))] at hx
              rw [hx]; exact ⟨h5,by decide⟩
            | some m =>
              rw [hM] at h5
              dsimp only at h5 ⊢
              rw [h5] at hx
              dsimp only at hx
              by_cases hc:c=true
              · rw [if_pos (.inl hc)] at hx
                rw [if_pos hc]
                exact ⟨hx,h2.2.1,by have:=h2.2.2; show r1.length<_; have h9:r1.length<r.length:=this; omega⟩
              · rw [if_neg (by rintro (h | h); exact hc h; exact h rfl)] at hx
                rw [if_neg hc]
                have h6:=cont_ok (ih sp) (r1.length+1) (r1.length+1) [] r1 h2.2.1 (Nat.lt_succ_self _) (Nat.lt_succ_self _)
                cases hC:contE (elE lv sp) (r1.length+1) [] r1 with
                | error e =>
                  rw [hC] at h6
                  dsimp only at h6 ⊢
                  rw [hx,close_ne (by rw [h6.1]; exact h6.2)]
                  exact h6
                | ok k =>
                  obtain ⟨ks,r2⟩:=k
                  rw [hC] at h6
                  dsimp only at h6 ⊢
                  rw [h6.1] at hx
                  have h7:=end_ok (a:=a) (s:=s) (m:=m) (ks:=ks) h6.2.1
                  cases hE:endE a r2 with
                  | none =>
                    rw [hE] at h7
                    dsimp only at h7 ⊢
                    rw [hx]; exact ⟨h7,by decide⟩
                  | some r3 =>
                    rw [hE] at h7
                    dsimp only at h7 ⊢
                    rw [hx]
                    exact ⟨h7.1,h7.2.1,by have:=h7.2.2; have:=h6.2.2; have:=h2.2.2; omega⟩
theorem par_ok (l0:List UInt8):D8 l0=parE l0:=by
  unfold D8 parE
  by_cases hlen:65536<l0.length
  · rw [if_pos hlen,if_pos hlen]
  · rw [if_neg hlen,if_neg hlen]
    dsimp only
    generalize D2 l0=l
    by_cases hv:N1 l=false∨I6 l≠l
    · rw [if_pos hv,if_pos hv]
    · rw [if_neg hv,if_neg hv]
      have hp:Pl l:=pl_of (by cases h:N1 l; exact absurd (.inl h) hv; rfl) (by by_cases h:I6 l=l; exact h; exact absurd (.inr h) hv)
      have h1:=W3 (l.length+1) (l.length+1) l hp (Nat.lt_succ_self _) (Nat.lt_succ_self _)
      have bad:∀ q:XS,q.2≠0→(let n:=if q.2=0 then elX 24 G8 q else (T2,q); let q2:=B3 (n.2.1.length+1) n.2; let q3:=if q2.1≠[] then E3 70 q2 else q2; if q3.2≠0 then (T2,q3.2) else (n.1,0))=(T2,q.2):=by
        intro q hq
        dsimp only
        rw [if_neg hq]
        dsimp only
        rw [around_ne hq,flt_ne hq]
        simp only [ite_self]
        rw [if_pos hq]
      cases hA:M9 (l.length+1) l with
      | none =>
        rw [hA] at h1
        dsimp only at h1 ⊢
        have h2:(C2 [60] (B3 (l.length+1) (l,0))).2=70:=by rw [must_ne (by rw [h1]; decide),h1]
        refine (bad _ (by rw [h2]; decide)).trans ?_
        rw [h2]
      | some r =>
        rw [hA] at h1
        dsimp only at h1 ⊢
        rw [h1.1]
        have h2:=must_ok (w:=[60]) (l:=r)
        cases hM:Q9 [60] r with
        | none =>
          rw [hM] at h2
          dsimp only at h2 ⊢
          refine (bad _ (by rw [h2]; decide)).trans ?_
          rw [h2]
        | some r1 =>
          obtain ⟨p1,p2⟩:=must_pl h1.2.1 (by decide) (by decide) hM
          rw [hM] at h2
          dsimp only at h2 ⊢
          rw [h2]
          dsimp only
          rw [if_pos rfl]
          have h3:=el_ok 24 G8 r1 p1
          cases hE:elE 24 G8 r1 with
          | error e =>
            rw [hE] at h3
            dsimp only at h3 ⊢
            rw [around_ne (by rw [h3.1]; exact h3.2),flt_ne (by rw [h3.1]; exact h3.2)]
            simp only [ite_self]
            rw [if_pos (by rw [h3.1]; exact h3.2),h3.1]
          | ok k =>
            obtain ⟨k,r2⟩:=k
            rw [hE] at h3
            dsimp only at h3 ⊢
            rw [h3.1]
            dsimp only
            have h4:=W3 (r2.length+1) (r2.length+1) r2 h3.2.1 (Nat.lt_succ_self _) (Nat.lt_succ_self _)
            cases hB:M9 (r2.length+1) r2 with
            | none =>
              rw [hB] at h4
              dsimp only at h4 ⊢
              rw [flt_ne (by rw [h4]; decide)]
              simp only [ite_self]
              rw [if_pos (by rw [h4]; decide),h4]
            | some r3 =>
              rw [hB] at h4
              dsimp only at h4 ⊢
              rw [h4.1]
              by_cases h5:r3=[]
              · subst h5; rfl
              · have e:(if (r3,(0:Int)).1≠[] then E3 70 (r3,0) else (r3,0))=(r3,70):=(if_pos h5).trans (flt_0 rfl)
                rw [e,if_neg h5]; rfl
end Go.Xml
namespace Go.Xml
open Go.Esc Go.Json
theorem pre_iff {w l:List UInt8}:l.take w.length=w ↔ w.isPrefixOf l=true:=by
  rw [List.isPrefixOf_iff_prefix,List.prefix_iff_eq_take]; exact ⟨Eq.symm,Eq.symm⟩
theorem idx_lib:∀ (l w:List UInt8),Lib.index l w=match idxL w l with | some i=>(i:Int) | none=>-1
  | [],w=>by
    unfold Lib.index idxL
    cases w with
    | nil=>rfl
    | cons b w=>rfl
  | b::l,w=>by
    rw [Lib.index,idxL,idx_lib l w]
    by_cases h:w.isPrefixOf (b::l)=true
    · rw [if_pos h,if_pos h]; rfl
    · rw [if_neg h,if_neg h]
      cases idxL w l with
      | none=>rfl
      | some i =>
        dsimp only [Option.map]
        show (if ((i:Int)==-1)=true then (-1:Int) else (i:Int)+1)=((i+1:Nat):Int)
        rw [if_neg (show ¬ ((i:Int)==-1)=true by rw [beq_iff_eq]; intro h; have:=Int.natCast_nonneg i; omega)]; rfl
theorem cut_none {l w:List UInt8} (h:idxL w l=none):Lib.cut l w=(l,[],false):=by
  unfold Lib.cut; rw [idx_lib,h]; rfl
theorem cut_some {l w:List UInt8} {i:Nat} (h:idxL w l=some i):Lib.cut l w=(l.take i,l.drop (i+w.length),true):=by
  unfold Lib.cut; rw [idx_lib,h]; dsimp only
  rw [if_pos (Int.natCast_nonneg i),Int.toNat_natCast]
theorem contains_idx (l w:List UInt8):Lib.contains l w=(idxL w l).isSome:=by
  unfold Lib.contains; rw [idx_lib]
  cases idxL w l with
  | none=>rfl
  | some i=>exact decide_eq_true (Int.natCast_nonneg i)
theorem idx_mem (c:UInt8):∀ l:List UInt8,(idxL [c] l).isSome=decide (c∈l)
  | []=>rfl
  | b::l=>by
    rw [idxL]
    by_cases h:b=c
    · subst h; rw [if_pos (by simp [List.isPrefixOf])]; simp
    · rw [if_neg (by simpa [List.isPrefixOf] using fun e=>h e.symm)]
      have ih:=idx_mem c l
      rw [Option.isSome_map,ih]
      simp [show ¬ c=b from fun e=>h e.symm]
theorem blk_trimX (l:List UInt8):Lib.trimLeftS l [32,9,13,10]=blk l:=by
  unfold Lib.trimLeftS blk
  congr 1
  funext b
  unfold wsB
  simp only [List.contains_cons,List.contains_nil,Bool.or_false]
  cases b==32 <;> cases b==9 <;> cases b==13 <;> cases b==10 <;> rfl
theorem must_yes {w:List UInt8} {q:XS} (h:w.isPrefixOf q.1=true):C2 w q=(q.1.drop w.length,q.2):=if_pos h
theorem must_no {w:List UInt8} {q:XS} (h:¬ w.isPrefixOf q.1=true):C2 w q=E3 70 q:=if_neg h
theorem O8 {w:List UInt8} {q:XS} (h:w.isPrefixOf q.1=true):G0 w q=(true,(q.1.drop w.length,q.2)):=if_pos h
theorem M0 {w:List UInt8} {q:XS} (h:¬ w.isPrefixOf q.1=true):G0 w q=(false,q):=if_neg h
theorem until_none {w:List UInt8} {q:XS} (h:idxL w q.1=none):F5 w q=([],E3 70 q):=by unfold F5; rw [h]
theorem until_some {w:List UInt8} {q:XS} {i:Nat} (h:idxL w q.1=some i):F5 w q=(q.1.take i,(q.1.drop (i+w.length),q.2)):=by unfold F5; rw [h]
theorem fst_iff (b:UInt8):fstX b=true ↔ (97≤b.toNat∧b.toNat≤122)∨(65≤b.toNat∧b.toNat≤90)∨b.toNat=95∨128≤b.toNat:=by
  unfold fstX
  have h95:(b==95)=true ↔ b.toNat=95:=by rw [beq_iff_eq]; exact ⟨fun h=>by rw [h]; rfl,fun h=>UInt8.toNat_inj.1 h⟩
  simp only [Bool.or_eq_true,Bool.and_eq_true,decide_eq_true_eq,h95,or_assoc]
theorem nxt_iff (b:UInt8):nxtX b=true ↔ fstX b=true∨(48≤b.toNat∧b.toNat≤57)∨b.toNat=45∨b.toNat=46:=by
  unfold nxtX dgB
  have h45:(b==45)=true ↔ b.toNat=45:=by rw [beq_iff_eq]; exact ⟨fun h=>by rw [h]; rfl,fun h=>UInt8.toNat_inj.1 h⟩
  have h46:(b==46)=true ↔ b.toNat=46:=by rw [beq_iff_eq]; exact ⟨fun h=>by rw [h]; rfl,fun h=>UInt8.toNat_inj.1 h⟩
  simp only [Bool.or_eq_true,Bool.and_eq_true,decide_eq_true_eq,h45,h46,or_assoc]
def NmAt (l:List UInt8) (i:Nat):Prop:=i=0∨(0<i∧nmX l=i+((l.drop i).takeWhile nxtX).length)
theorem nm_le (l:List UInt8):nmX l≤l.length:=by
  cases l with
  | nil=>exact Nat.le_refl _
  | cons b l =>
    rw [V3]; split
    · have:=(List.takeWhile_prefix nxtX (l:=l)).length_le; rw [List.length_cons]; omega
    · exact Nat.zero_le _
theorem nm_stop {l:List UInt8} {i:Nat} (h:NmAt l i) (hi:i<l.length) (hf:fstX (l.getD i 0)=false) (hn:i=0∨nxtX (l.getD i 0)=false):nmX l=i:=by
  have hd:=Q2 l hi
  rcases h with rfl | ⟨h0,h⟩
  · rw [List.drop_zero] at hd
    rw [hd,V3,hf]; rfl
  · have hn:=hn.resolve_left (by omega)
    rw [h,hd,List.takeWhile_cons,hn]; rfl
theorem nm_step {l:List UInt8} {i:Nat} (h:NmAt l i) (hi:i<l.length) (hf:fstX (l.getD i 0)=true∨(i≠0∧nxtX (l.getD i 0)=true)):NmAt l (i+1):=by
  have hd:=Q2 l hi
  refine .inr ⟨Nat.succ_pos _,?_⟩
  rcases h with rfl | ⟨h0,h⟩
  · have hf:=hf.resolve_right (fun h=>h.1 rfl)
    rw [List.drop_zero] at hd
    conv=>lhs; rw [hd,V3,hf]
    rfl
  · have hn:nxtX (l.getD i 0)=true:=hf.elim (fun h=>(nxt_iff _).2 (.inl h)) (·.2)
    rw [h,hd,List.takeWhile_cons,hn]
    simp only [if_true,List.length_cons]; omega
theorem nm_end {l:List UInt8} {i:Nat} (h:NmAt l i) (hi:l.length≤i) (h2:i≤l.length):nmX l=l.length:=by
  rcases h with rfl | ⟨h0,h⟩
  · have:l=[]:=List.eq_nil_of_length_eq_zero (by omega)
    subst this; rfl
  · rw [h,List.drop_eq_nil_of_le hi]; show i+0=_; omega
theorem nameX_0 {q:XS} (h:nmX q.1=0):K8 q=([],E3 70 q):=by unfold K8; rw [if_pos h,h]; rfl
theorem nameX_s {q:XS} (h:nmX q.1≠0):K8 q=(q.1.take (nmX q.1),(q.1.drop (nmX q.1),q.2)):=by unfold K8; rw [if_neg h]
theorem qual_no {q:XS} (h:¬ [58].isPrefixOf (K8 q).2.1=true):A5 q=(⟨[],(K8 q).1,false⟩,(K8 q).2):=by
  unfold A5; dsimp only; rw [M0 h]; rfl
theorem qual_yes {q:XS} (h:[58].isPrefixOf (K8 q).2.1=true):A5 q=(⟨(K8 q).1,(K8 ((K8 q).2.1.drop 1,(K8 q).2.2)).1,true⟩,(K8 ((K8 q).2.1.drop 1,(K8 q).2.2)).2):=by
  unfold A5; dsimp only; rw [O8 h]; rfl
theorem aside_1 {q:XS} (h:[60,33,45,45].isPrefixOf q.1=true):H9 q=(true,C2 [62] (F5 [45,45] (q.1.drop 4,q.2)).2):=by unfold H9; rw [O8 h]; rfl
theorem aside_2 {q:XS} (h1:¬ [60,33,45,45].isPrefixOf q.1=true) (h:[60,63].isPrefixOf q.1=true):H9 q=(true,(F5 [63,62] (K8 (q.1.drop 2,q.2)).2).2):=by unfold H9; rw [M0 h1,O8 h]; rfl
theorem aside_3 {q:XS} (h1:¬ [60,33,45,45].isPrefixOf q.1=true) (h:¬ [60,63].isPrefixOf q.1=true):H9 q=(false,q):=by unfold H9; rw [M0 h1,M0 h]; rfl
theorem around_skip {m:Nat} {q:XS} (h0:q.2=0) (h:(blk q.1).length<q.1.length):B3 (m+1) q=B3 m (blk q.1,q.2):=by
  rw [B3,if_neg (fun h=>h h0)]
  rw [if_pos (show (K5 q).1=true from decide_eq_true h)]; rfl
theorem around_aside {m:Nat} {q:XS} (h0:q.2=0) (h:¬ (blk q.1).length<q.1.length) (ha:(H9 (blk q.1,q.2)).1=true):B3 (m+1) q=B3 m (H9 (blk q.1,q.2)).2:=by
  rw [B3,if_neg (fun h=>h h0)]
  rw [if_neg (show ¬ (K5 q).1=true from fun hh=>h (of_decide_eq_true hh)),if_pos (show (H9 (K5 q).2).1=true from ha)]; rfl
theorem around_end {m:Nat} {q:XS} (h0:q.2=0) (h:¬ (blk q.1).length<q.1.length) (ha:¬ (H9 (blk q.1,q.2)).1=true):B3 (m+1) q=(H9 (blk q.1,q.2)).2:=by
  rw [B3,if_neg (fun h=>h h0)]
  rw [if_neg (show ¬ (K5 q).1=true from fun hh=>h (of_decide_eq_true hh)),if_neg (show ¬ (H9 (K5 q).2).1=true from ha)]; rfl
end Go.Xml
namespace Go.Proofs
open Go.Shelf
def Tryz.lays144_ren:Go.Shelf.Ren:=⟨fun | 144=>143 | 143=>166 | 219=>184 | 217=>186 | 225=>194 | 224=>193 | 267=>202 | 266=>205 | 314=>221 | n=>n,fun | 9=>9 | 4=>4 | 3=>3 | 5=>5 | 46=>37 | 146=>230 | 51=>36 | n=>n,fun | 1=>2 | n=>n⟩
theorem Tryz.lays144:Go.Proofs.Lays.n144 Tryz.prog Tryz.lays144_ren:={
  mixed:=by kernel_rfl
  f143:=Tryz.func166.trans (congrArg some (by kernel_rfl))
  f144:=Tryz.func143.trans (congrArg some (by kernel_rfl))
  f217:=Tryz.func186.trans (congrArg some (by kernel_rfl))
  f219:=Tryz.func184.trans (congrArg some (by kernel_rfl))
  f224:=Tryz.func193.trans (congrArg some (by kernel_rfl))
  f225:=Tryz.func194.trans (congrArg some (by kernel_rfl))
  f266:=Tryz.func205.trans (congrArg some (by kernel_rfl))
  f267:=Tryz.func202.trans (congrArg some (by kernel_rfl))
  f314:=Tryz.func221.trans (congrArg some (by kernel_rfl))
  t3:=Tryz.underlying3
  a3:=Tryz.isAgg3
  z3:=Tryz.sizeOf3
  v3:=Tryz.zeroValue3
  t4:=Tryz.underlying4
  a4:=Tryz.isAgg4
  z4:=Tryz.sizeOf4
  v4:=Tryz.zeroValue4
  t5:=Tryz.underlying5
  a5:=Tryz.isAgg5
  z5:=Tryz.sizeOf5
  v5:=Tryz.zeroValue5
  t9:=Tryz.underlying9
  a9:=Tryz.isAgg9
  z9:=Tryz.sizeOf9
  v9:=Tryz.zeroValue9
  t46:=Tryz.underlying37
  a46:=Tryz.isAgg37
  z46:=Tryz.sizeOf37
  v46:=Tryz.zeroValue37
  t51:=Tryz.underlying36
  a51:=Tryz.isAgg36
  z51:=Tryz.sizeOf36
  v51:=Tryz.zeroValue36
  t146:=Tryz.underlying230
  a146:=Tryz.isAgg230
  z146:=Tryz.sizeOf230
  v146:=Tryz.zeroValue230
  g1:=by kernel_rfl }
open Go.RowKit Go.Lib in
/-- strings.Contains: "Contains reports whether substr is within s.": IT RETURNS 'Lib.contains s substr'; the world is as it was. (LAID: no walk: one application.) -/
theorem Tryz.strings_Contains (s sub:ByteArray) (m:Int) (w:World) (hs:s.size<4294967281) (hm:w.cell? ⟨2,0,none⟩=some (.int .i64 m)) :
    Calls Tryz.prog 143 #[.string s,.string sub] w fun e w'=>e=.returned (.bool (Lib.contains s.data.toList sub.data.toList))∧w'=w:=Any.strings_Contains Tryz.lays144 s sub m w hs hm
def Tryz.lays145_ren:Go.Shelf.Ren:=⟨fun | 145=>150 | 220=>173 | 219=>184 | 217=>186 | 225=>194 | 224=>193 | 267=>202 | 266=>205 | 314=>221 | n=>n,fun | 9=>9 | 4=>4 | 59=>130 | 3=>3 | 5=>5 | 46=>37 | 146=>230 | 51=>36 | n=>n,fun | 1=>2 | n=>n⟩
theorem Tryz.lays145:Go.Proofs.Lays.n145 Tryz.prog Tryz.lays145_ren:={
  mixed:=by kernel_rfl
  f145:=Tryz.func150.trans (congrArg some (by kernel_rfl))
  f217:=Tryz.func186.trans (congrArg some (by kernel_rfl))
  f219:=Tryz.func184.trans (congrArg some (by kernel_rfl))
  f220:=Tryz.func173.trans (congrArg some (by kernel_rfl))
  f224:=Tryz.func193.trans (congrArg some (by kernel_rfl))
  f225:=Tryz.func194.trans (congrArg some (by kernel_rfl))
  f266:=Tryz.func205.trans (congrArg some (by kernel_rfl))
  f267:=Tryz.func202.trans (congrArg some (by kernel_rfl))
  f314:=Tryz.func221.trans (congrArg some (by kernel_rfl))
  t3:=Tryz.underlying3
  a3:=Tryz.isAgg3
  z3:=Tryz.sizeOf3
  v3:=Tryz.zeroValue3
  t4:=Tryz.underlying4
  a4:=Tryz.isAgg4
  z4:=Tryz.sizeOf4
  v4:=Tryz.zeroValue4
  t5:=Tryz.underlying5
  a5:=Tryz.isAgg5
  z5:=Tryz.sizeOf5
  v5:=Tryz.zeroValue5
  t9:=Tryz.underlying9
  a9:=Tryz.isAgg9
  z9:=Tryz.sizeOf9
  v9:=Tryz.zeroValue9
  t46:=Tryz.underlying37
  a46:=Tryz.isAgg37
  z46:=Tryz.sizeOf37
  v46:=Tryz.zeroValue37
  t51:=Tryz.underlying36
  a51:=Tryz.isAgg36
  z51:=Tryz.sizeOf36
  v51:=Tryz.zeroValue36
  t59:=Tryz.underlying130
  a59:=Tryz.isAgg130
  z59:=Tryz.sizeOf130
  v59:=Tryz.zeroValue130
  t146:=Tryz.underlying230
  a146:=Tryz.isAgg230
  z146:=Tryz.sizeOf230
  v146:=Tryz.zeroValue230
  g1:=by kernel_rfl }
open Go.RowKit Go.Lib in
/-- strings.Cut: "Cut slices s around the first instance of sep, returning the text before and after sep. The found result reports whether sep appears in s. If sep does not appear in s, cut returns s, "", false.": IT RETURNS 'Lib.cut s sep'; the world is as it was but for the count of draws. (LAID: no walk: one application.) -/
theorem Tryz.strings_Cut (s sep:ByteArray) (m:Int) (w:World) (hs:s.size<4294967281) (hm:w.cell? ⟨2,0,none⟩=some (.int .i64 m)) :
    Calls Tryz.prog 150 #[.string s,.string sep] w fun e w'=>e=.returned (.tuple #[.string ⟨(Lib.cut s.data.toList sep.data.toList).1.toArray⟩,.string ⟨(Lib.cut s.data.toList sep.data.toList).2.1.toArray⟩,.bool (Lib.cut s.data.toList sep.data.toList).2.2])∧∃ n,w'=w.drewN n:=Any.strings_Cut Tryz.lays145 s sep m w hs hm
def Tryz.lays146_ren:Go.Shelf.Ren:=⟨fun | 146=>167 | 221=>185 | 268=>203 | 138=>204 | 143=>166 | 195=>222 | 197=>158 | 218=>223 | 219=>184 | 260=>176 | 217=>186 | 225=>194 | 224=>193 | 267=>202 | 266=>205 | 314=>221 | n=>n,fun | 9=>9 | 31=>25 | 3=>3 | 4=>4 | 0=>0 | 105=>185 | 21=>21 | 5=>5 | 46=>37 | 119=>173 | 139=>176 | 138=>175 | 146=>230 | 51=>36 | n=>n,fun | 1=>2 | 3=>0 | 4=>1 | n=>n⟩
theorem Tryz.lays146:Go.Proofs.Lays.n146 Tryz.prog Tryz.lays146_ren:={
  mixed:=by kernel_rfl
  f138:=Tryz.func204.trans (congrArg some (by kernel_rfl))
  f143:=Tryz.func166.trans (congrArg some (by kernel_rfl))
  f146:=Tryz.func167.trans (congrArg some (by kernel_rfl))
  f195:=Tryz.func222.trans (congrArg some (by kernel_rfl))
  f197:=Tryz.func158.trans (congrArg some (by kernel_rfl))
  f217:=Tryz.func186.trans (congrArg some (by kernel_rfl))
  f218:=Tryz.func223.trans (congrArg some (by kernel_rfl))
  f219:=Tryz.func184.trans (congrArg some (by kernel_rfl))
  f221:=Tryz.func185.trans (congrArg some (by kernel_rfl))
  f224:=Tryz.func193.trans (congrArg some (by kernel_rfl))
  f225:=Tryz.func194.trans (congrArg some (by kernel_rfl))
  f260:=Tryz.func176.trans (congrArg some (by kernel_rfl))
  f266:=Tryz.func205.trans (congrArg some (by kernel_rfl))
  f267:=Tryz.func202.trans (congrArg some (by kernel_rfl))
  f268:=Tryz.func203.trans (congrArg some (by kernel_rfl))
  f314:=Tryz.func221.trans (congrArg some (by kernel_rfl))
  t0:=Tryz.underlying0
  a0:=Tryz.isAgg0
  z0:=Tryz.sizeOf0
  v0:=Tryz.zeroValue0
  t3:=Tryz.underlying3
  a3:=Tryz.isAgg3
  z3:=Tryz.sizeOf3
  v3:=Tryz.zeroValue3
  t4:=Tryz.underlying4
  a4:=Tryz.isAgg4
  z4:=Tryz.sizeOf4
  v4:=Tryz.zeroValue4
  t5:=Tryz.underlying5
  a5:=Tryz.isAgg5
  z5:=Tryz.sizeOf5
  v5:=Tryz.zeroValue5
  t9:=Tryz.underlying9
  a9:=Tryz.isAgg9
  z9:=Tryz.sizeOf9
  v9:=Tryz.zeroValue9
  t21:=Tryz.underlying21
  a21:=Tryz.isAgg21
  z21:=Tryz.sizeOf21
  v21:=Tryz.zeroValue21
  t31:=Tryz.underlying25
  a31:=Tryz.isAgg25
  z31:=Tryz.sizeOf25
  v31:=Tryz.zeroValue25
  t46:=Tryz.underlying37
  a46:=Tryz.isAgg37
  z46:=Tryz.sizeOf37
  v46:=Tryz.zeroValue37
  t51:=Tryz.underlying36
  a51:=Tryz.isAgg36
  z51:=Tryz.sizeOf36
  v51:=Tryz.zeroValue36
  t105:=Tryz.underlying185
  a105:=Tryz.isAgg185
  z105:=Tryz.sizeOf185
  v105:=Tryz.zeroValue185
  t119:=Tryz.underlying173
  a119:=Tryz.isAgg173
  z119:=Tryz.sizeOf173
  t138:=Tryz.underlying175
  a138:=Tryz.isAgg175
  z138:=Tryz.sizeOf175
  v138:=Tryz.zeroValue175
  t139:=Tryz.underlying176
  a139:=Tryz.isAgg176
  z139:=Tryz.sizeOf176
  v139:=Tryz.zeroValue176
  t146:=Tryz.underlying230
  a146:=Tryz.isAgg230
  z146:=Tryz.sizeOf230
  v146:=Tryz.zeroValue230
  g1:=by kernel_rfl
  g3:=by kernel_rfl
  g4:=by kernel_rfl }
open Go.RowKit Go.Lib in
/-- strings.Split. (LAID: no walk: one application.) -/
theorem Tryz.strings_Split (s sep:ByteArray) (m:Int) (w:World) (hs:s.size<4294967281) (hm:w.cell? ⟨2,0,none⟩=some (.int .i64 m)) (h1:1≤sep.size) :
    Calls Tryz.prog 167 #[.string s,.string sep] w fun e w' =>
      e=.returned (.slice (some ⟨w.heap.size,0,none⟩) (Lib.countB s sep+1) (Lib.countB s sep+1))∧w'=w.alloc (.cells ((Lib.splitB sep 0 (Lib.countB s sep) s).map Value.string).toArray 9):=Any.strings_Split Tryz.lays146 (by kernel_rfl) s sep m w hs hm h1
end Go.Proofs
namespace Go.Proofs.YtppgfiklmfoaeaaGreatDoor
open Go.Sw Go.Sha Go.Esc Go.RowKit Go.Json Go.Xml
structure R2 (W0:World):Prop where
  base:R5 W0
  max:∃ m,2<W0.heap.size∧W0.cell? ⟨2,0,none⟩=some (.int .i64 m)
def rdX (r:Nat) (q:XS):Grp:=[(r,.cells #[.string (bk q.1),.int .i64 q.2] 97 (0,0))]
theorem trimX (l:List UInt8) (W0:World) (H:List Grp):Tri Tryz.prog 82 #[.string (bk l),.string (mB #[32,9,13,10])] W0 H (fun v H'=>v=.string (bk (blk l))∧H'=H) :=
  Tri_below (fun w _=>(Any.strings_TrimLeft_laid Tryz.lays161 (by kernel_rfl) (bk l) _ w (by decide) (ascii_of_all (by decide))).mono fun _ _ ⟨h1,h2⟩=>⟨by rw [h1,show Lib.trimLeftS (bk l).data.toList (mB #[32,9,13,10]).data.toList=blk l from blk_trimX _],h2⟩)
theorem cutW (w l:List UInt8) (hl:l.length≤1000000000) (W0:World) (H:List Grp) (hX:R2 W0):Tri Tryz.prog 150 #[.string (bk l),.string (bk w)] W0 H (fun v H'=>((idxL w l=none∧v=.tuple #[.string (bk l),.string eB,.bool false])∨∃ i,idxL w l=some i∧v=.tuple #[.string (bk (l.take i)),.string (bk (l.drop (i+w.length))),.bool true])∧H'=H):=by
  obtain ⟨m,h1,h2⟩:=hX.max
  have key:∀ v0,v0=Value.tuple #[.string ⟨(Lib.cut l w).1.toArray⟩,.string ⟨(Lib.cut l w).2.1.toArray⟩,.bool (Lib.cut l w).2.2]→Tri Tryz.prog 150 #[.string (bk l),.string (bk w)] W0 H (fun v H'=>v=v0∧H'=H):=fun v0 h0 =>
    Tri_below (fun w' hs=>(Tryz.strings_Cut (bk l) (bk w) m w' (by rw [D9]; omega) (cell_base hs h1 h2)).mono fun _ w2 ⟨h3,n,h4⟩=>⟨by rw [h3,h0],by rw [h4]; exact ⟨rfl,rfl,rfl,Nat.le_refl _,fun _ _=>rfl⟩⟩)
  refine (key _ rfl).post fun v H' ⟨hv,hH⟩=>⟨H',⟨?_,hH⟩,fun _ h=>h⟩
  cases hI:idxL w l with
  | none=>exact .inl ⟨rfl,by rw [hv,Go.Xml.cut_none hI]⟩
  | some i=>exact .inr ⟨i,rfl,by rw [hv,Go.Xml.cut_some hI]⟩
theorem hasW (w l:List UInt8) (hl:l.length≤1000000000) (W0:World) (H:List Grp) (hX:R2 W0):Tri Tryz.prog 143 #[.string (bk l),.string (bk w)] W0 H (fun v H'=>v=.bool (idxL w l).isSome∧H'=H):=by
  obtain ⟨m,h1,h2⟩:=hX.max
  exact Tri_below (fun w' hs=>(Tryz.strings_Contains (bk l) (bk w) m w' (by rw [D9]; omega) (cell_base hs h1 h2)).mono fun _ w2 ⟨h3,h4⟩=>⟨by rw [h3,← contains_idx],by rw [h4]; exact ⟨rfl,rfl,rfl,Nat.le_refl _,fun _ _=>rfl⟩⟩)
theorem toNat_ext (l:List UInt8) (n:Nat):(bk l).extract 0 (Int.toNat (n:Int))=bk (l.take n):=by rw [Int.toNat_natCast,ext_bkT]
theorem toNat_extD (l:List UInt8) (n:Nat):(bk l).extract (Int.toNat (n:Int)) (bk l).size=bk (l.drop n):=by rw [Int.toNat_natCast,ext_bk]
theorem M3 (r:Nat) (q:XS) (n:Int) (W0:World) (H:List Grp):Tri Tryz.prog 64 #[pt r,.int .i64 n] W0 ([(r,.cells #[.string (bk q.1),.int .i64 q.2] 97 (0,0))]::H) (fun _ H'=>H'=rdX r (E3 n q)::H):=by
 refine D0 (args:=[pt r,.int .i64 n]) (n:=13) Tryz.func64 rfl rfl (Nat.le_of_ble_eq_true rfl) ?_
 refine A1 (A3 ?_)
 refine A4 (j:=3) [0,0,0] (k:=A6 (ch:=[]) (b:=r) (off:=1) (v:=.int .i64 q.2) (hA:=At.grp 0 0 rfl rfl) (k:=?_))
 refine B1 [0] [0,1,8] (k:=A0 ?_)
 refine B7 (b:=q.2==0) kr (fun hc1=>?_) (fun hc1=>?_)
 ·
  have hc:q.2=0:=by simpa using hc1
  refine A3 (A4 (j:=4) [0,0,0,0] (k:=?_))
  refine E2 (ch:=[]) (b:=r) (off:=1) (v:=.int .i64 n) (j:=0) ([(r,.cells #[.string (bk q.1),.int .i64 n] 97 (0,0))]::H) (hoff:=Nat.le_of_ble_eq_true rfl) (hfz:=(fun _ _=>E0)) (k:=B5 (E':=[]) [] [] (k:=?_))
  refine B9 [] [] (k:=?_)
  exact (by rw [Go.Xml.flt_0 hc]; try rfl)
 ·
  have hc:¬ q.2=0:=by simpa using hc1
  refine B4 (B9 [] [] (k:=?_))
  exact (by rw [Go.Xml.flt_ne hc]; try rfl)
theorem xtake_ (r:Nat) (q:XS) (w:List UInt8) (W0:World) (H:List Grp):Tri Tryz.prog 102 #[pt r,.string (bk w)] W0 ([(r,.cells #[.string (bk q.1),.int .i64 q.2] 97 (0,0))]::H) (fun v H'=>(w.isPrefixOf q.1=true∧v=.bool true∧H'=rdX r (q.1.drop w.length,q.2)::H)∨(¬ w.isPrefixOf q.1=true∧v=.bool false∧H'=rdX r q::H)):=by
 refine D0 (args:=[pt r,.string (bk w)]) (n:=22) Tryz.func102 rfl rfl (Nat.le_of_ble_eq_true rfl) ?_
 refine A1 (C3 (E':=[⟨0,[],pt r⟩,⟨1,[],.string (bk w)⟩]) [0] [0,1] (k:=?_))
 refine A0 (A1 ?_)
 refine A3 (A4 (j:=3) [0,0,0] (k:=?_))
 refine A6 (ch:=[]) (b:=r) (off:=0) (v:=.string (bk q.1)) (hA:=At.grp 0 0 rfl rfl) (k:=A4 (j:=5) [0] (k:=?_))
 refine E7 Tryz.func124 (jcut_ (bk q.1) (bk w) _ _) ?_
 rintro _ _ ⟨rfl,rfl⟩
 cases hsp:I0 (bk q.1) (bk w)
 all_goals simp only [Bool.false_eq_true,if_false,if_true]
 ·
  refine B1 [0,0,0,0,0] [0,5,6] (k:=A0 ?_)
  refine A1 (A1 ?_)
  refine G_p [0] [0,5,6,16] (k:=A0 ?_)
  refine D3 kr (B4 ?_)
  refine A0 (A1 ?_)
  refine C3 (E':=[⟨4,[],.bool false⟩]) [0,0] [4] (k:=A0 ?_)
  refine C5 (B9 [.tmp 4] [.bool false] (k:=?_))
  exact .inr ⟨fun hn=>(N3 _ _).1 hsp (by rw [D9]; exact pre_iff.2 hn),rfl,rfl⟩
 ·
  refine B1 [0,0,0,0,0] [0,5,6] (k:=A0 ?_)
  refine A1 (A1 ?_)
  refine G_p [0] [0,5,6,16] (k:=A0 ?_)
  refine C4 kr (A3 ?_)
  refine A4 (j:=4) [0,0,0,0] (k:=E2 (ch:=[]) (b:=r) (off:=0) (v:=.string ((bk q.1).extract (bk w).size (bk q.1).size)) (j:=0) ([(r,.cells #[.string ((bk q.1).extract (bk w).size (bk q.1).size),.int .i64 q.2] 97 (0,0))]::H) (hoff:=Nat.le_of_ble_eq_true rfl) (hfz:=(fun _ _=>E0)) (k:=?_))
  refine B5 (E':=[⟨6,[],.bool true⟩]) [] [6] (k:=A0 ?_)
  refine A1 (C3 (E':=[⟨4,[],.bool true⟩]) [0,0] [4] (k:=?_))
  refine A0 (C5 ?_)
  refine B9 [.tmp 4] [.bool true] (k:=?_)
  exact .inl ⟨pre_iff.1 (by have h:=(N4 _ _).1 hsp; rw [D9] at h; exact h),rfl,by rw [ext_bk,D9]; rfl⟩
theorem xmust_ (r:Nat) (q:XS) (w:List UInt8) (W0:World) (H:List Grp):Tri Tryz.prog 62 #[pt r,.string (bk w)] W0 ([(r,.cells #[.string (bk q.1),.int .i64 q.2] 97 (0,0))]::H) (fun _ H'=>H'=rdX r (C2 w q)::H):=by
 refine D0 (args:=[pt r,.string (bk w)]) (n:=10) Tryz.func62 rfl rfl (Nat.le_of_ble_eq_true rfl) ?_
 refine A1 (A3 ?_)
 refine A4 (j:=2) [0,0] (k:=E7 Tryz.func102 (xtake_ r q w _ _) ?_)
 rintro _ _ (⟨hk1,rfl,rfl⟩ | ⟨hk1,rfl,rfl⟩)
 ·
  have hk1:w.isPrefixOf q.1=true:=hk1
  refine B5 (E':=[⟨0,[],pt r⟩,⟨7,[],.bool false⟩]) [0] [0,7] (k:=A0 ?_)
  refine D3 kr (B4 ?_)
  refine B9 [] [] (k:=?_)
  exact (by rw [must_yes hk1]; try rfl)
 ·
  have hk1:¬ w.isPrefixOf q.1=true:=hk1
  refine B5 (E':=[⟨0,[],pt r⟩,⟨7,[],.bool true⟩]) [0] [0,7] (k:=A0 ?_)
  refine C4 kr (A3 ?_)
  refine A4 (j:=1) [0] (k:=E7 Tryz.func64 (M3 r q 70 _ _) ?_)
  rintro _ _ rfl
  refine B5 (E':=[]) [] [] (k:=B9 [] [] (k:=?_))
  exact (by rw [must_no hk1]; try rfl)
theorem xskip_ (r:Nat) (q:XS) (W0:World) (H:List Grp):Tri Tryz.prog 100 #[pt r] W0 ([(r,.cells #[.string (bk q.1),.int .i64 q.2] 97 (0,0))]::H) (fun v H'=>v=.bool (decide ((blk q.1).length<q.1.length))∧H'=rdX r (blk q.1,q.2)::H):=by
 refine D0 (args:=[pt r]) (n:=24) Tryz.func100 rfl rfl (Nat.le_of_ble_eq_true rfl) ?_
 refine A1 (C3 (E':=[⟨0,[],pt r⟩]) [0] [0] (k:=?_))
 refine A0 (A1 ?_)
 refine A3 (A4 (j:=3) [0,0,0] (k:=?_))
 refine A6 (ch:=[]) (b:=r) (off:=0) (v:=.string (bk q.1)) (hA:=At.grp 0 0 rfl rfl) (k:=B1 [0,0] [0,3] (k:=?_))
 refine A0 (A1 ?_)
 refine A3 (A4 (j:=4) [0,0,0,0] (k:=?_))
 refine A6 (ch:=[]) (b:=r) (off:=0) (v:=.string (bk q.1)) (hA:=At.grp 0 0 rfl rfl) (k:=M5 Tryz.func82 (trimX q.1 _ _) ?_)
 refine A4 (j:=8) [0,0] (k:=E2 (ch:=[]) (b:=r) (off:=0) (v:=.string (bk (blk q.1))) (j:=0) ([(r,.cells #[.string (bk (blk q.1)),.int .i64 q.2] 97 (0,0))]::H) (hoff:=Nat.le_of_ble_eq_true rfl) (hfz:=(fun _ _=>E0)) (k:=?_))
 refine B1 [] [0,3] (k:=A0 ?_)
 refine A1 (A3 ?_)
 refine A4 (j:=3) [0,0,0] (k:=A6 (ch:=[]) (b:=r) (off:=0) (v:=.string (bk (blk q.1))) (hA:=At.grp 0 0 rfl rfl) (k:=?_))
 refine B1 [0,0,0,0] [2] (k:=A0 ?_)
 refine C5 (B9 [.tmp 2] [.bool (decide (((bk (blk q.1)).size:Int)<((bk q.1).size:Int)))] (k:=?_))
 exact ⟨congrArg Value.bool (by rw [D9,D9]; exact decide_eq_decide.2 (by omega)),rfl⟩
theorem xskip2_ (r:Nat) (q:XS) (W0:World) (H:List Grp):Tri Tryz.prog 100 #[pt r] W0 (rdX r q::H) (fun v H'=>((blk q.1).length<q.1.length∧v=.bool true∧H'=rdX r (blk q.1,q.2)::H)∨(¬ (blk q.1).length<q.1.length∧v=.bool false∧H'=rdX r (blk q.1,q.2)::H)):=by
  refine (xskip_ r q W0 H).post fun v H' ⟨h1,h2⟩=>⟨H',?_,fun _ h=>h⟩
  by_cases h:(blk q.1).length<q.1.length
  · exact .inl ⟨h,by rw [h1,decide_eq_true h],h2⟩
  · exact .inr ⟨h,by rw [h1,decide_eq_false h],h2⟩
theorem xuntil_ (r:Nat) (q:XS) (w:List UInt8) (hl:q.1.length≤1000000) (W0:World) (H:List Grp) (hX:R2 W0):Tri Tryz.prog 141 #[pt r,.string (bk w)] W0 ([(r,.cells #[.string (bk q.1),.int .i64 q.2] 97 (0,0))]::H) (fun v H'=>v=.string (bk (F5 w q).1)∧H'=rdX r (F5 w q).2::H):=by
 refine D0 (args:=[pt r,.string (bk w)]) (n:=27) Tryz.func141 rfl rfl (Nat.le_of_ble_eq_true rfl) ?_
 refine A1 (C3 (E':=[⟨0,[],pt r⟩,⟨1,[],.string (bk w)⟩]) [0] [0,1] (k:=?_))
 refine A0 (A1 ?_)
 refine A3 (A4 (j:=3) [0,0,0] (k:=?_))
 refine A6 (ch:=[]) (b:=r) (off:=0) (v:=.string (bk q.1)) (hA:=At.grp 0 0 rfl rfl) (k:=A4 (j:=5) [0] (k:=?_))
 refine E7 Tryz.func150 (cutW w q.1 (by omega) _ _ hX) ?_
 rintro _ _ ⟨⟨hI,rfl⟩ | ⟨i,hI,rfl⟩,rfl⟩
 ·
  refine B1 [0,0,0,0,0,0,0] [0,5,6,7] (k:=A0 ?_)
  refine A1 (A1 ?_)
  refine G_p [0,0] [0,5,6,19] (k:=A0 ?_)
  refine C4 kr (A1 ?_)
  refine A3 (A4 (j:=1) [0] (k:=?_))
  refine E7 Tryz.func64 (M3 r q 70 _ _) ?_
  rintro _ _ rfl
  refine B5 (E':=[]) [] [] (k:=A0 ?_)
  refine A1 (C3 (E':=[⟨4,[],.string eB⟩]) [0] [4] (k:=?_))
  refine A0 (C5 ?_)
  refine B2 (B9 [.tmp 4] [.string eB] (k:=?_))
  exact ⟨by rw [until_none hI]; try rfl,by rw [until_none hI]; try rfl⟩
 ·
  refine B1 [0,0,0,0,0,0,0] [0,5,6,7] (k:=A0 ?_)
  refine A1 (A1 ?_)
  refine G_p [0,0] [0,5,6,19] (k:=A0 ?_)
  refine D3 kr (B4 ?_)
  refine A0 (A1 ?_)
  refine A3 (A4 (j:=4) [0,0,0,0] (k:=?_))
  refine E2 (ch:=[]) (b:=r) (off:=0) (v:=.string (bk (q.1.drop (i+w.length)))) (j:=0) ([(r,.cells #[.string (bk (q.1.drop (i+w.length))),.int .i64 q.2] 97 (0,0))]::H) (hoff:=Nat.le_of_ble_eq_true rfl) (hfz:=(fun _ _=>E0)) (k:=B5 (E':=[⟨5,[],.string (bk (q.1.take i))⟩]) [] [5] (k:=?_))
  refine A0 (A1 ?_)
  refine C3 (E':=[⟨4,[],.string (bk (q.1.take i))⟩]) [0,0] [4] (k:=A0 ?_)
  refine C5 (B9 [.tmp 4] [.string (bk (q.1.take i))] (k:=?_))
  exact ⟨by rw [until_some hI]; try rfl,by rw [until_some hI]; try rfl⟩
theorem xlen_ (l:List UInt8) (hl:l.length≤1000000000000) (W0:World) (H:List Grp):Tri Tryz.prog 116 #[.string (bk l)] W0 H (fun v H'=>v=.int .i64 (nmX l:Int)∧H'=H):=by
 have hbz:=D9 l
 refine D0 (args:=[.string (bk l)]) (n:=63) Tryz.func116 rfl rfl (Nat.le_of_ble_eq_true rfl) ?_
 refine A1 (C3 (E':=[⟨0,[],.string (bk l)⟩]) [0] [0] (k:=?_))
 refine A0 (A1 ?_)
 refine A1 (G_p [0,0,0] [0,7,8] (k:=?_))
 refine A0 (B8 ?_)
 refine L4 (EI:=(fun ξ:Nat=>[⟨0,[],.string (bk l)⟩,⟨7,[],.int .i64 ((bk l).size:Int)⟩,⟨8,[],.int .i64 ((ξ:Nat):Int)⟩])) (HI:=(fun ξ:Nat=>H)) (Φ:=(fun ξ:Nat=>(ξ≤l.length)∧(NmAt l ξ))) (μ:=(fun ξ:Nat=>l.length - ξ)) (s0:=(0)) [0,7,8] kr rfl ⟨(Nat.zero_le _),(.inl rfl)⟩ ?_
 rintro i ⟨hi,hN⟩
 try dsimp only at hi hN
 refine A1 (G_p [0] [0,7,8,9] (k:=?_))
 refine A0 (A1 ?_)
 refine B7 (b:=decide (((i:Nat):Int)<((bk l).size:Int))) kr (fun hc1=>?_) (fun hc1=>?_)
 ·
  have h0:=hc1; simp only [decide_eq_true_eq] at h0
  refine B4 (A0 ?_)
  refine A1 (B8 ?_)
  refine A1 (G_p [0,0] [0,3,7,8] (k:=?_))
  refine A0 (A1 ?_)
  refine A3 (A4 (j:=2) [0,0] (k:=?_))
  refine H3 (ch:=[]) (s:=(bk l)) (kd:=.i64) (j:=((i:Nat):Int)) (hb:=(fun _=>by omega)) (k:=?_)
  have hb2:=J3 (bk l) ((i:Nat):Int)
  refine B1 [0] [0,3,4,7,8] (k:=A0 ?_)
  refine A1 (G_p [0,0,0,0,0,6,0,0,0,0,0,0,6,5,0,0,0,5,0,0,0,5,0] [0,3,4,5,7,8] (k:=?_))
  refine A0 (A1 ?_)
  refine G_p [0,0,0,0,0,0,0,0,0,0,0,6,0,0,0,5,0,0,0,5,0,5,6] [0,3,7,8,58] (k:=A0 ?_)
  refine B7 (b:=(!(((((decide ((D7 (bk l) ((i:Nat):Int)) ≥ 97))&&(decide ((D7 (bk l) ((i:Nat):Int))≤122)))||((decide ((D7 (bk l) ((i:Nat):Int)) ≥ 65))&&(decide ((D7 (bk l) ((i:Nat):Int))≤90))))||((D7 (bk l) ((i:Nat):Int))==95))||(decide ((D7 (bk l) ((i:Nat):Int)) ≥ 128))))&&((((i:Nat):Int)==0)||(!((((decide ((D7 (bk l) ((i:Nat):Int)) ≥ 48))&&(decide ((D7 (bk l) ((i:Nat):Int))≤57)))||((D7 (bk l) ((i:Nat):Int))==45))||((D7 (bk l) ((i:Nat):Int))==46))))) kr (fun hc3=>?_) (fun hc3=>?_)
  ·
   simp only [Bool.and_eq_true,Bool.and_eq_false_iff,Bool.or_eq_true,Bool.or_eq_false_iff,Bool.not_eq_true',decide_eq_false_iff_not,beq_iff_eq,beq_eq_false_iff_ne,ne_eq,ge_iff_le,byteJ] at hc3
   have h1:=hc3
   refine A1 (C3 (E':=[⟨2,[],.int .i64 ((i:Nat):Int)⟩]) [0,0] [2] (k:=?_))
   refine A0 (C5 ?_)
   refine D6 (B2 ?_)
   refine B2 (D6 ?_)
   refine B2 (B9 [.tmp 2] [.int .i64 ((i:Nat):Int)] (k:=?_))
   exact ⟨congrArg (fun n:Nat=>Value.int .i64 (n:Int)) (nm_stop hN (by omega) (by rw [← Bool.not_eq_true,fst_iff]; omega) (by rcases h1.2 with h | h; exact .inl (by omega); exact .inr (by rw [← Bool.not_eq_true,nxt_iff,fst_iff]; omega))).symm,rfl⟩
  ·
   simp only [Bool.and_eq_true,Bool.and_eq_false_iff,Bool.or_eq_true,Bool.or_eq_false_iff,Bool.not_eq_false',decide_eq_true_eq,beq_iff_eq,beq_eq_false_iff_ne,ne_eq,ge_iff_le,byteJ] at hc3
   have h1:=hc3
   refine B4 (C6 ?_)
   refine A0 (A3 ?_)
   refine A4 (j:=1) [0] (k:=F6 60 (((i:Nat):Int)+1) (by omega) (by omega) kr ?_)
   refine B5 (E':=[⟨0,[],.string (bk l)⟩,⟨7,[],.int .i64 ((bk l).size:Int)⟩,⟨8,[],.int .i64 (((i:Nat):Int)+1)⟩]) [0] [0,7,8] (k:=E9 (s':=(i+1)) [0,7,8] kr rfl ⟨(by omega),(nm_step hN (by omega) (by rcases h1 with h1 | h1; exact .inl ((fst_iff _).2 (by omega)); exact .inr ⟨by omega,(nxt_iff _).2 (.inr (by omega))⟩))⟩ (by omega))
 ·
  have h0:=hc1; simp only [decide_eq_false_iff_not] at h0
  refine H7 (B0 ?_)
  refine B0 (C7 ?_)
  refine A0 (A1 ?_)
  refine C3 (E':=[⟨2,[],.int .i64 ((bk l).size:Int)⟩]) [0,0,0] [2] (k:=A0 ?_)
  refine C5 (B9 [.tmp 2] [.int .i64 ((bk l).size:Int)] (k:=?_))
  exact ⟨congrArg (Value.int .i64) (by rw [nm_end hN (by omega) hi,D9]),rfl⟩
theorem xname_ (r:Nat) (q:XS) (hl:q.1.length≤1000000) (W0:World) (H:List Grp):Tri Tryz.prog 142 #[pt r] W0 ([(r,.cells #[.string (bk q.1),.int .i64 q.2] 97 (0,0))]::H) (fun v H'=>v=.string (bk (K8 q).1)∧H'=rdX r (K8 q).2::H):=by
 have hbz:=D9 q.1
 have hnl:=nm_le q.1
 refine D0 (args:=[pt r]) (n:=30) Tryz.func142 rfl rfl (Nat.le_of_ble_eq_true rfl) ?_
 refine A1 (C3 (E':=[⟨0,[],pt r⟩]) [0] [0] (k:=?_))
 refine A0 (A1 ?_)
 refine A3 (A4 (j:=3) [0,0,0] (k:=?_))
 refine A6 (ch:=[]) (b:=r) (off:=0) (v:=.string (bk q.1)) (hA:=At.grp 0 0 rfl rfl) (k:=M5 Tryz.func116 (xlen_ q.1 (by omega) _ _) ?_)
 refine B1 [0] [0,3] (k:=A0 ?_)
 refine A1 (A1 ?_)
 refine G_p [0,0] [0,3,11] (k:=A0 ?_)
 refine B7 (b:=(nmX q.1:Int)==0) kr (fun hc1=>?_) (fun hc1=>?_)
 ·
  have hn:nmX q.1=0:=by have:=hc1; simp only [beq_iff_eq] at this; omega
  refine A3 (A4 (j:=1) [0] (k:=?_))
  refine E7 Tryz.func64 (M3 r q 70 _ _) ?_
  rintro _ _ rfl
  refine B1 [] [0,3] (k:=A0 ?_)
  refine A1 (A3 ?_)
  refine A4 (j:=3) [0,0,0] (k:=A6 (ch:=[]) (b:=r) (off:=0) (v:=.string (bk (E3 70 q).1)) (hA:=At.grp 0 0 rfl rfl) (k:=?_))
  refine A4 (j:=5) [0] (k:=H8 (ch:=[]) (s:=(bk (E3 70 q).1)) (vl:=none) (vh:=(some (.int .i64 (nmX q.1:Int)))) (l:=0) (h:=(nmX q.1:Int)) (hb:=(fun _=>by omega)) (k:=?_))
  refine F0 (E':=[⟨19,[],.string (bk (q.1.take (nmX q.1)))⟩,⟨18,[],.int .i64 (nmX q.1:Int)⟩,⟨17,[],.string (bk (E3 70 q).1)⟩,⟨16,[],pt r⟩,⟨15,[],pt r⟩,⟨14,[],pt r⟩,⟨0,[],pt r⟩,⟨3,[],.int .i64 (nmX q.1:Int)⟩]) (by have hz:([⟨19,[],.string ((bk (E3 70 q).1).extract 0 (Int.toNat (nmX q.1:Int)))⟩,⟨18,[],.int .i64 (nmX q.1:Int)⟩,⟨17,[],.string (bk (E3 70 q).1)⟩,⟨16,[],pt r⟩,⟨15,[],pt r⟩,⟨14,[],pt r⟩,⟨0,[],pt r⟩,⟨3,[],.int .i64 (nmX q.1:Int)⟩]:List Sl)=[⟨19,[],.string (bk (q.1.take (nmX q.1)))⟩,⟨18,[],.int .i64 (nmX q.1:Int)⟩,⟨17,[],.string (bk (E3 70 q).1)⟩,⟨16,[],pt r⟩,⟨15,[],pt r⟩,⟨14,[],pt r⟩,⟨0,[],pt r⟩,⟨3,[],.int .i64 (nmX q.1:Int)⟩]:=(by rw [toNat_ext]; try rfl); exact Eq.trans kr hz) (B1 [0] [0,3,4] (k:=?_))
  refine A0 (A1 ?_)
  refine A3 (A4 (j:=4) [0,0,0,0] (k:=?_))
  refine A6 (ch:=[]) (b:=r) (off:=0) (v:=.string (bk (E3 70 q).1)) (hA:=At.grp 0 0 rfl rfl) (k:=A4 (j:=6) [0] (k:=?_))
  refine H8 (ch:=[]) (s:=(bk (E3 70 q).1)) (vl:=(some (.int .i64 (nmX q.1:Int)))) (vh:=none) (l:=(nmX q.1:Int)) (h:=((bk (E3 70 q).1).size:Int)) (hb:=(fun _=>by omega)) (k:=F0 (E':=[⟨26,[],.string (bk (q.1.drop (nmX q.1)))⟩,⟨25,[],.int .i64 (nmX q.1:Int)⟩,⟨24,[],.string (bk (E3 70 q).1)⟩,⟨23,[],pt r⟩,⟨22,[],pt r⟩,⟨21,[],pt r⟩,⟨20,[],pt r⟩,⟨0,[],pt r⟩,⟨3,[],.int .i64 (nmX q.1:Int)⟩,⟨4,[],.string (bk (q.1.take (nmX q.1)))⟩]) (by have hz:([⟨26,[],.string ((bk (E3 70 q).1).extract (Int.toNat (nmX q.1:Int)) (bk (E3 70 q).1).size)⟩,⟨25,[],.int .i64 (nmX q.1:Int)⟩,⟨24,[],.string (bk (E3 70 q).1)⟩,⟨23,[],pt r⟩,⟨22,[],pt r⟩,⟨21,[],pt r⟩,⟨20,[],pt r⟩,⟨0,[],pt r⟩,⟨3,[],.int .i64 (nmX q.1:Int)⟩,⟨4,[],.string (bk (q.1.take (nmX q.1)))⟩]:List Sl)=[⟨26,[],.string (bk (q.1.drop (nmX q.1)))⟩,⟨25,[],.int .i64 (nmX q.1:Int)⟩,⟨24,[],.string (bk (E3 70 q).1)⟩,⟨23,[],pt r⟩,⟨22,[],pt r⟩,⟨21,[],pt r⟩,⟨20,[],pt r⟩,⟨0,[],pt r⟩,⟨3,[],.int .i64 (nmX q.1:Int)⟩,⟨4,[],.string (bk (q.1.take (nmX q.1)))⟩]:=(by rw [toNat_extD]; try rfl); exact Eq.trans kr hz) ?_)
  refine A4 (j:=9) [0,0] (k:=E2 (ch:=[]) (b:=r) (off:=0) (v:=.string (bk (q.1.drop (nmX q.1)))) (j:=0) ([(r,.cells #[.string (bk (q.1.drop (nmX q.1))),.int .i64 ((E3 70 q).2)] 97 (0,0))]::H) (hoff:=Nat.le_of_ble_eq_true rfl) (hfz:=(fun _ _=>E0)) (k:=?_))
  refine B1 [] [4] (k:=A0 ?_)
  refine A1 (C3 (E':=[⟨2,[],.string (bk (q.1.take (nmX q.1)))⟩]) [0,0] [2] (k:=?_))
  refine A0 (C5 ?_)
  refine B9 [.tmp 2] [.string (bk (q.1.take (nmX q.1)))] (k:=?_)
  exact ⟨by rw [nameX_0 hn,hn]; try rfl,by rw [nameX_0 hn,hn]; try rfl⟩
 ·
  have hn:¬ nmX q.1=0:=by have:=hc1; simp only [beq_eq_false_iff_ne,ne_eq] at this; omega
  refine B4 (A0 ?_)
  refine A1 (A3 ?_)
  refine A4 (j:=3) [0,0,0] (k:=A6 (ch:=[]) (b:=r) (off:=0) (v:=.string (bk q.1)) (hA:=At.grp 0 0 rfl rfl) (k:=?_))
  refine A4 (j:=5) [0] (k:=H8 (ch:=[]) (s:=(bk q.1)) (vl:=none) (vh:=(some (.int .i64 (nmX q.1:Int)))) (l:=0) (h:=(nmX q.1:Int)) (hb:=(fun _=>by omega)) (k:=?_))
  refine F0 (E':=[⟨19,[],.string (bk (q.1.take (nmX q.1)))⟩,⟨18,[],.int .i64 (nmX q.1:Int)⟩,⟨17,[],.string (bk q.1)⟩,⟨16,[],pt r⟩,⟨15,[],pt r⟩,⟨14,[],pt r⟩,⟨0,[],pt r⟩,⟨3,[],.int .i64 (nmX q.1:Int)⟩,⟨11,[],.bool ((nmX q.1:Int)==0)⟩]) (by have hz:([⟨19,[],.string ((bk q.1).extract 0 (Int.toNat (nmX q.1:Int)))⟩,⟨18,[],.int .i64 (nmX q.1:Int)⟩,⟨17,[],.string (bk q.1)⟩,⟨16,[],pt r⟩,⟨15,[],pt r⟩,⟨14,[],pt r⟩,⟨0,[],pt r⟩,⟨3,[],.int .i64 (nmX q.1:Int)⟩,⟨11,[],.bool ((nmX q.1:Int)==0)⟩]:List Sl)=[⟨19,[],.string (bk (q.1.take (nmX q.1)))⟩,⟨18,[],.int .i64 (nmX q.1:Int)⟩,⟨17,[],.string (bk q.1)⟩,⟨16,[],pt r⟩,⟨15,[],pt r⟩,⟨14,[],pt r⟩,⟨0,[],pt r⟩,⟨3,[],.int .i64 (nmX q.1:Int)⟩,⟨11,[],.bool ((nmX q.1:Int)==0)⟩]:=(by rw [toNat_ext]; try rfl); exact Eq.trans kr hz) (B1 [0] [0,3,4] (k:=?_))
  refine A0 (A1 ?_)
  refine A3 (A4 (j:=4) [0,0,0,0] (k:=?_))
  refine A6 (ch:=[]) (b:=r) (off:=0) (v:=.string (bk q.1)) (hA:=At.grp 0 0 rfl rfl) (k:=A4 (j:=6) [0] (k:=?_))
  refine H8 (ch:=[]) (s:=(bk q.1)) (vl:=(some (.int .i64 (nmX q.1:Int)))) (vh:=none) (l:=(nmX q.1:Int)) (h:=((bk q.1).size:Int)) (hb:=(fun _=>by omega)) (k:=F0 (E':=[⟨26,[],.string (bk (q.1.drop (nmX q.1)))⟩,⟨25,[],.int .i64 (nmX q.1:Int)⟩,⟨24,[],.string (bk q.1)⟩,⟨23,[],pt r⟩,⟨22,[],pt r⟩,⟨21,[],pt r⟩,⟨20,[],pt r⟩,⟨0,[],pt r⟩,⟨3,[],.int .i64 (nmX q.1:Int)⟩,⟨4,[],.string (bk (q.1.take (nmX q.1)))⟩]) (by have hz:([⟨26,[],.string ((bk q.1).extract (Int.toNat (nmX q.1:Int)) (bk q.1).size)⟩,⟨25,[],.int .i64 (nmX q.1:Int)⟩,⟨24,[],.string (bk q.1)⟩,⟨23,[],pt r⟩,⟨22,[],pt r⟩,⟨21,[],pt r⟩,⟨20,[],pt r⟩,⟨0,[],pt r⟩,⟨3,[],.int .i64 (nmX q.1:Int)⟩,⟨4,[],.string (bk (q.1.take (nmX q.1)))⟩]:List Sl)=[⟨26,[],.string (bk (q.1.drop (nmX q.1)))⟩,⟨25,[],.int .i64 (nmX q.1:Int)⟩,⟨24,[],.string (bk q.1)⟩,⟨23,[],pt r⟩,⟨22,[],pt r⟩,⟨21,[],pt r⟩,⟨20,[],pt r⟩,⟨0,[],pt r⟩,⟨3,[],.int .i64 (nmX q.1:Int)⟩,⟨4,[],.string (bk (q.1.take (nmX q.1)))⟩]:=(by rw [toNat_extD]; try rfl); exact Eq.trans kr hz) ?_)
  refine A4 (j:=9) [0,0] (k:=E2 (ch:=[]) (b:=r) (off:=0) (v:=.string (bk (q.1.drop (nmX q.1)))) (j:=0) ([(r,.cells #[.string (bk (q.1.drop (nmX q.1))),.int .i64 q.2] 97 (0,0))]::H) (hoff:=Nat.le_of_ble_eq_true rfl) (hfz:=(fun _ _=>E0)) (k:=?_))
  refine B1 [] [4] (k:=A0 ?_)
  refine A1 (G_p [0,0] [2] (k:=?_))
  refine A0 (C5 ?_)
  refine B9 [.tmp 2] [.string (bk (q.1.take (nmX q.1)))] (k:=?_)
  exact ⟨by rw [nameX_s hn]; try rfl,by rw [nameX_s hn]; try rfl⟩
theorem xqual_ (r:Nat) (q:XS) (hl:q.1.length≤1000000) (W0:World) (H:List Grp):Tri Tryz.prog 103 #[pt r] W0 ([(r,.cells #[.string (bk q.1),.int .i64 q.2] 97 (0,0))]::H) (fun v H'=>v=.tuple #[.string (bk (A5 q).1.pre),.string (bk (A5 q).1.name),.bool (A5 q).1.has]∧H'=rdX r (A5 q).2::H):=by
 have hn1:=name_le q
 refine D0 (args:=[pt r]) (n:=15) Tryz.func103 rfl rfl (Nat.le_of_ble_eq_true rfl) ?_
 refine A1 (C3 (E':=[⟨0,[],pt r⟩]) [0,0,0] [0] (k:=?_))
 refine A0 (A1 ?_)
 refine A3 (A4 (j:=1) [0] (k:=?_))
 refine E7 (vs:=[pt r]) Tryz.func142 (xname_ r q (by first | omega | (show (List.drop 1 _).length≤_; rw [List.length_drop]; omega)) _ _) ?_
 rintro _ _ ⟨rfl,rfl⟩
 refine B1 [0] [0,5] (k:=A0 ?_)
 refine A1 (A1 ?_)
 refine A3 (A4 (j:=1) [0] (k:=?_))
 refine E7 Tryz.func102 (xtake_ r ((K8 q).2) [58] _ _) ?_
 rintro _ _ (⟨hk1,rfl,rfl⟩ | ⟨hk1,rfl,rfl⟩)
 ·
  have hk1:[58].isPrefixOf ((K8 q).2).1=true:=hk1
  refine B1 [0] [0,5,10] (k:=A0 ?_)
  refine D3 kr (B4 ?_)
  refine A0 (A1 ?_)
  refine A3 (A4 (j:=2) [0,0] (k:=?_))
  refine E7 (vs:=[pt r]) Tryz.func142 (xname_ r (((K8 q).2).1.drop 1,((K8 q).2).2) (by first | omega | (show (List.drop 1 _).length≤_; rw [List.length_drop]; omega)) _ _) ?_
  rintro _ _ ⟨rfl,rfl⟩
  refine B1 [0,0,0] [2,3,4] (k:=A0 ?_)
  refine C5 (B9 [.tmp 2,.tmp 3,.tmp 4] [.string (bk (K8 q).1),.string (bk (K8 (((K8 q).2).1.drop 1,((K8 q).2).2)).1),.bool true] (k:=?_))
  exact ⟨by rw [qual_yes hk1]; try rfl,by rw [qual_yes hk1]; try rfl⟩
 ·
  have hk1:¬ [58].isPrefixOf ((K8 q).2).1=true:=hk1
  refine B1 [0] [0,5,10] (k:=A0 ?_)
  refine C4 kr (A1 ?_)
  refine G_p [0,0,0,0] [2,3,4] (k:=A0 ?_)
  refine C5 (B2 ?_)
  refine B9 [.tmp 2,.tmp 3,.tmp 4] [.string eB,.string (bk (K8 q).1),.bool false] (k:=?_)
  exact ⟨by rw [qual_no hk1]; try rfl,by rw [qual_no hk1]; try rfl⟩
theorem xaside_ (r:Nat) (q:XS) (hl:q.1.length≤1000000) (W0:World) (H:List Grp) (hX:R2 W0):Tri Tryz.prog 101 #[pt r] W0 ([(r,.cells #[.string (bk q.1),.int .i64 q.2] 97 (0,0))]::H) (fun v H'=>v=.bool (H9 q).1∧H'=rdX r (H9 q).2::H):=by
 refine D0 (args:=[pt r]) (n:=17) Tryz.func101 rfl rfl (Nat.le_of_ble_eq_true rfl) ?_
 refine A1 (C3 (E':=[⟨0,[],pt r⟩]) [0] [0] (k:=?_))
 refine A0 (A1 ?_)
 refine B8 (A1 ?_)
 refine A3 (A4 (j:=1) [0] (k:=?_))
 refine E7 Tryz.func102 (xtake_ r q [60,33,45,45] _ _) ?_
 rintro _ _ (⟨hk1,rfl,rfl⟩ | ⟨hk1,rfl,rfl⟩)
 ·
  have hk1:[60,33,45,45].isPrefixOf q.1=true:=hk1
  refine B5 (E':=[⟨0,[],pt r⟩,⟨3,[],.bool true⟩]) [0] [0,3] (k:=A0 ?_)
  refine C4 kr (A1 ?_)
  refine A3 (A4 (j:=1) [0] (k:=?_))
  refine E7 (vs:=[pt r,.string (mB #[45,45])]) Tryz.func141 (xuntil_ r (q.1.drop 4,q.2) [45,45] (by first | (show (List.drop _ _).length≤_; rw [List.length_drop]; omega) | (have:=name_le (q.1.drop 2,q.2); dsimp only at this; rw [List.length_drop] at this; omega)) _ _ hX) ?_
  rintro _ _ ⟨rfl,rfl⟩
  refine B5 (E':=[⟨0,[],pt r⟩]) [] [0] (k:=A0 ?_)
  refine A3 (A4 (j:=1) [0] (k:=?_))
  refine E7 Tryz.func62 (xmust_ r ((F5 [45,45] (q.1.drop 4,q.2)).2) [62] _ _) ?_
  rintro _ _ rfl
  refine B5 (E':=[]) [] [] (k:=C6 ?_)
  refine A0 (A1 ?_)
  refine C3 (E':=[⟨2,[],.bool true⟩]) [0] [2] (k:=A0 ?_)
  refine C5 (B9 [.tmp 2] [.bool true] (k:=?_))
  exact ⟨by rw [aside_1 hk1]; try rfl,by rw [aside_1 hk1]; try rfl⟩
 ·
  have hk1:¬ [60,33,45,45].isPrefixOf q.1=true:=hk1
  refine B5 (E':=[⟨0,[],pt r⟩,⟨3,[],.bool false⟩]) [0] [0,3] (k:=A0 ?_)
  refine D3 kr (A1 ?_)
  refine A3 (A4 (j:=1) [0] (k:=?_))
  refine E7 Tryz.func102 (xtake_ r q [60,63] _ _) ?_
  rintro _ _ (⟨hk2,rfl,rfl⟩ | ⟨hk2,rfl,rfl⟩)
  ·
   have hk2:[60,63].isPrefixOf q.1=true:=hk2
   refine B5 (E':=[⟨0,[],pt r⟩,⟨10,[],.bool true⟩]) [0] [0,10] (k:=A0 ?_)
   refine C4 kr (A1 ?_)
   refine A3 (A4 (j:=1) [0] (k:=?_))
   refine E7 (vs:=[pt r]) Tryz.func142 (xname_ r (q.1.drop 2,q.2) (by first | (show (List.drop _ _).length≤_; rw [List.length_drop]; omega) | (have:=name_le (q.1.drop 2,q.2); dsimp only at this; rw [List.length_drop] at this; omega)) _ _) ?_
   rintro _ _ ⟨rfl,rfl⟩
   refine B5 (E':=[⟨0,[],pt r⟩]) [] [0] (k:=A0 ?_)
   refine A3 (A4 (j:=1) [0] (k:=?_))
   refine E7 (vs:=[pt r,.string (mB #[63,62])]) Tryz.func141 (xuntil_ r ((K8 (q.1.drop 2,q.2)).2) [63,62] (by first | (show (List.drop _ _).length≤_; rw [List.length_drop]; omega) | (have:=name_le (q.1.drop 2,q.2); dsimp only at this; rw [List.length_drop] at this; omega)) _ _ hX) ?_
   rintro _ _ ⟨rfl,rfl⟩
   refine B5 (E':=[]) [] [] (k:=C6 ?_)
   refine A0 (A1 ?_)
   refine C3 (E':=[⟨2,[],.bool true⟩]) [0] [2] (k:=A0 ?_)
   refine C5 (B9 [.tmp 2] [.bool true] (k:=?_))
   exact ⟨by rw [aside_2 hk1 hk2]; try rfl,by rw [aside_2 hk1 hk2]; try rfl⟩
  ·
   have hk2:¬ [60,63].isPrefixOf q.1=true:=hk2
   refine B5 (E':=[⟨0,[],pt r⟩,⟨10,[],.bool false⟩]) [0] [0,10] (k:=A0 ?_)
   refine D3 kr (A1 ?_)
   refine C3 (E':=[⟨2,[],.bool false⟩]) [0] [2] (k:=A0 ?_)
   refine C5 (D6 ?_)
   refine B2 (B9 [.tmp 2] [.bool false] (k:=?_))
   exact ⟨by rw [aside_3 hk1 hk2]; try rfl,by rw [aside_3 hk1 hk2]; try rfl⟩
theorem xaround_ (r:Nat) (q:XS) (hl:q.1.length≤1000000) (W0:World) (H:List Grp) (hX:R2 W0):Tri Tryz.prog 61 #[pt r] W0 ([(r,.cells #[.string (bk q.1),.int .i64 q.2] 97 (0,0))]::H) (fun _ H'=>H'=rdX r (B3 (q.1.length+1) q)::H):=by
 refine D0 (args:=[pt r]) (n:=15) Tryz.func61 rfl rfl (Nat.le_of_ble_eq_true rfl) ?_
 refine B8 (L4 (EI:=(fun ξ:Nat × XS=>[⟨0,[],pt r⟩])) (HI:=(fun ξ:Nat × XS=>([(r,.cells #[.string (bk ξ.2.1),.int .i64 ξ.2.2] 97 (0,0))]::H))) (Φ:=(fun ξ:Nat × XS=>(B3 (q.1.length+1) q=B3 ξ.1 ξ.2)∧(ξ.2.2=0→ξ.2.1.length<ξ.1)∧(ξ.2.1.length≤1000000))) (μ:=(fun ξ:Nat × XS=>ξ.1)) (s0:=((q.1.length+1),q)) [0] kr rfl ⟨rfl,(fun _=>Nat.lt_succ_self _),hl⟩ ?_)
 rintro ⟨n,q2⟩ ⟨hT,hn,hl2⟩
 dsimp only at hT hn hl2
 refine A1 (A1 ?_)
 by_cases hq0:q2.2=0
 ·
  have hnq:=hn hq0
  obtain ⟨m,rfl⟩:∃ m,n=m+1:=⟨n - 1,by omega⟩
  have hbl:=Q5 q2.1
  refine A3 (A4 (j:=3) [0,0,0] (k:=?_))
  refine A6 (ch:=[]) (b:=r) (off:=1) (v:=.int .i64 q2.2) (hA:=At.grp 0 0 rfl rfl) (k:=G5 (E':=[⟨6,[],.bool (q2.2==0)⟩,⟨0,[],pt r⟩]) (j:=5) [0] (k:=?_))
  refine F0 (E':=[⟨6,[],.bool true⟩,⟨0,[],pt r⟩]) (by rw [show (q2.2==0)=true by simpa using hq0]) (A4 (j:=7) [0,0] (k:=?_))
  refine X7 (ch:=[(7,true)]) (f:=100) (fst:=#[]) (caps:=#[]) (vs:=[pt r]) (hf:=Tryz.func100) (hsure:=P2 kr) (hc:=xskip2_ r q2 _ _) (k:=?_)
  rintro _ _ (⟨hs1,rfl,rfl⟩ | ⟨hs1,rfl,rfl⟩)
  ·
   have hsk:(blk q2.1).length<q2.1.length:=hs1
   refine B5 (E':=[⟨0,[],pt r⟩,⟨14,[],.bool true⟩]) [0,1,1,2,2] [0,14] (k:=A0 ?_)
   refine C4 kr (B4 ?_)
   refine A0 (B8 ?_)
   refine B4 (C6 ?_)
   refine E9 (s':=(m,(blk q2.1,q2.2))) [0] kr rfl ⟨(by dsimp only; exact hT.trans (by first | exact around_skip hq0 hsk | exact around_aside hq0 hsk has)),(by dsimp only; intro _; have:=hn hq0; first | omega | (have:=aside_lt has; dsimp only at this; omega)),(by dsimp only; first | omega | (have:=X5 (blk q2.1,q2.2); dsimp only at this; omega))⟩ (by dsimp only; omega)
  ·
   have hsk:¬ (blk q2.1).length<q2.1.length:=hs1
   refine A4 (j:=10) [0,0] (k:=X7 (ch:=[(10,false),(7,true)]) (f:=101) (fst:=#[]) (caps:=#[]) (vs:=[pt r]) (hf:=Tryz.func101) (hsure:=P2 kr) (hc:=xaside_ r (blk q2.1,q2.2) (by have:=Q5 q2.1; show (blk q2.1).length≤_; omega) _ _ hX) (k:=?_))
   rintro _ _ ⟨rfl,rfl⟩
   refine B1 [3,2] [0,14] (k:=A0 ?_)
   refine B7 (b:=(H9 (blk q2.1,q2.2)).1) kr (fun hc2=>?_) (fun hc2=>?_)
   ·
    have has:(H9 (blk q2.1,q2.2)).1=true:=hc2
    refine B4 (A0 ?_)
    refine B8 (B4 ?_)
    refine C6 (E9 (s':=(m,(H9 (blk q2.1,q2.2)).2)) [0] kr rfl ⟨(by dsimp only; exact hT.trans (by first | exact around_skip hq0 hsk | exact around_aside hq0 hsk has)),(by dsimp only; intro _; have:=hn hq0; first | omega | (have:=aside_lt has; dsimp only at this; omega)),(by dsimp only; first | omega | (have:=X5 (blk q2.1,q2.2); dsimp only at this; omega))⟩ (by dsimp only; omega))
   ·
    have has:¬ (H9 (blk q2.1,q2.2)).1=true:=by rw [hc2]; exact Bool.false_ne_true
    refine H7 (B0 ?_)
    refine B0 (C7 ?_)
    refine B9 [] [] (k:=?_)
    exact (by rw [hT,around_end hq0 hsk has]; try rfl)
 ·
  refine A3 (A4 (j:=3) [0,0,0] (k:=?_))
  refine A6 (ch:=[]) (b:=r) (off:=1) (v:=.int .i64 q2.2) (hA:=At.grp 0 0 rfl rfl) (k:=G5 (E':=[⟨6,[],.bool (q2.2==0)⟩,⟨0,[],pt r⟩]) (j:=5) [0] (k:=?_))
  refine F0 (E':=[⟨6,[],.bool false⟩,⟨0,[],pt r⟩]) (by rw [show (q2.2==0)=false by simpa using hq0]) (B5 (E':=[⟨0,[],pt r⟩,⟨14,[],.bool false⟩]) [0,1,1,1,1,1,1,3] [0,14] (k:=?_))
  refine A0 (D3 kr ?_)
  refine H7 (B0 ?_)
  refine B0 (C7 ?_)
  refine B9 [] [] (k:=?_)
  exact (by rw [hT,around_ne hq0]; try rfl)
end Go.Proofs.YtppgfiklmfoaeaaGreatDoor
namespace Go.Proofs
open Go.Shelf
def Tryz.laysValid_ren:Go.Shelf.Ren:=⟨fun | 196=>97 | 259=>140 | n=>n,fun | 9=>9 | 4=>4 | 3=>3 | 5=>5 | 12=>12 | 119=>173 | 0=>0 | 46=>37 | 139=>176 | 138=>175 | 53=>194 | n=>n,fun | 3=>0 | 4=>1 | n=>n⟩
theorem Tryz.laysValid:Go.Proofs.Lays.n196 Tryz.prog Tryz.laysValid_ren:={
  mixed:=by kernel_rfl
  f196:=Tryz.func97.trans (congrArg some (by kernel_rfl))
  f259:=Tryz.func140.trans (congrArg some (by kernel_rfl))
  t0:=Tryz.underlying0
  a0:=Tryz.isAgg0
  z0:=Tryz.sizeOf0
  v0:=Tryz.zeroValue0
  t3:=Tryz.underlying3
  a3:=Tryz.isAgg3
  z3:=Tryz.sizeOf3
  v3:=Tryz.zeroValue3
  t4:=Tryz.underlying4
  a4:=Tryz.isAgg4
  z4:=Tryz.sizeOf4
  v4:=Tryz.zeroValue4
  t5:=Tryz.underlying5
  a5:=Tryz.isAgg5
  z5:=Tryz.sizeOf5
  v5:=Tryz.zeroValue5
  t9:=Tryz.underlying9
  a9:=Tryz.isAgg9
  z9:=Tryz.sizeOf9
  v9:=Tryz.zeroValue9
  t12:=Tryz.underlying12
  a12:=Tryz.isAgg12
  z12:=Tryz.sizeOf12
  v12:=Tryz.zeroValue12
  t46:=Tryz.underlying37
  a46:=Tryz.isAgg37
  z46:=Tryz.sizeOf37
  v46:=Tryz.zeroValue37
  t53:=Tryz.underlying194
  a53:=Tryz.isAgg194
  z53:=Tryz.sizeOf194
  v53:=Tryz.zeroValue194
  t119:=Tryz.underlying173
  a119:=Tryz.isAgg173
  z119:=Tryz.sizeOf173
  t138:=Tryz.underlying175
  a138:=Tryz.isAgg175
  z138:=Tryz.sizeOf175
  v138:=Tryz.zeroValue175
  t139:=Tryz.underlying176
  a139:=Tryz.isAgg176
  z139:=Tryz.sizeOf176
  v139:=Tryz.zeroValue176
  g3:=by kernel_rfl
  g4:=by kernel_rfl }
end Go.Proofs
namespace Go.Proofs.YtppgfiklmfoaeaaGreatDoor
open Go.Sw Go.Esc Go.RowKit
theorem cell_lt {w:World} {b off:Nat} {v:Value} (h:w.cell? ⟨b,off,none⟩=some v):b<w.heap.size:=by
  rcases Nat.lt_or_ge b w.heap.size with h' | h'
  · exact h'
  · unfold World.cell? at h
    simp only [Array.getElem?_eq_none h'] at h
    cases h
theorem tabs_sat {W0:World} {H:List Grp} {w:World} {g3 g4:Nat} (h:Lib.Utf8Tabs g3 g4 W0) (hs:Sat W0 H w):Lib.Utf8Tabs g3 g4 w:=by
  have c:∀ {b off:Nat} {v:Value},W0.cell? ⟨b,off,none⟩=some v→w.cell? ⟨b,off,none⟩=some v:=fun h=>cell_base hs (cell_lt h) h
  exact ⟨fun q hq=>c (h.1 q hq),fun i hi=>⟨c (h.2 i hi).1,c (h.2 i hi).2⟩⟩
theorem validStr (s:ByteArray) (hs:s.size≤1000000000000) (W0:World) (H:List Grp) (hW:R5 W0):Tri Tryz.prog 97 #[.string s] W0 H (fun v H'=>v=.bool (N1 s.data.toList)∧H'=H):=by
  rw [validP_D]
  exact Tri_below (fun w hw=>Any.utf8_ValidString Tryz.laysValid s w (by omega) (tabs_sat hW.utf hw))
end Go.Proofs.YtppgfiklmfoaeaaGreatDoor
namespace Go.Proofs.YtppgfiklmfoaeaaGreatDoor
open Go Go.ChangeShapes Go.WideShapes Go.ChangeAt Go.RowKit Go.Sw Go.Lib Go.Shelf Go.Proofs
theorem frozen_below {W W':World} (h:Below W.heap.size W W') {a:Addr} (ha:a.block<W.heap.size):W'.frozen? a=W.frozen? a:=by
  unfold World.frozen?
  rw [h.block _ ha]
theorem post_below {H:Type} {enc:TypeId × Value→H} {P:Program} {f:Func} {s:ChangeSpec} {apart fresh handsOn again:Bool} {W W':World} {args:Array Value} {v:Value} {ds gs:List (DataW H)} {before pa pv:List MemPlace}
    (hW:DataW.Whole enc P f.params.toList s.vars apart W args.toList ds gs before)
    (hres:∀ (b:Nat) (sp:Nat→Bool) (hd:Bool),DataW.TrodAll enc P W' b sp hd f.resultTypes.toList (v.resultList f.resultTypes.size) (s.fn H (ds++gs)).results [])
    (hargs:∀ sp:Nat→Bool,(∀ p∈before,sp p.block=true)→DataW.TrodAll enc P W' 0 sp true f.params.toList args.toList (s.fn H (ds++gs)).args pa)
    (hvars:∀ sp:Nat→Bool,(∀ p∈before,sp p.block=true)→DataW.TrodVars enc P W' sp s.vars (s.fn H (ds++gs)).vars pv)
    (hps:before=pa++pv) (hb:Below W.heap.size W W')
    (hok:∀ (j:Nat) (t:TypeId) (r:Value),f.resultTypes[j]? = some t→(v.resultList f.resultTypes.size)[j]? = some r→Value.okWide P W' .any 0 t r) :
    s.post enc P f apart fresh handsOn again W args v W':=by
  have hold:∀ p∈before,(fun b=>decide (b<W.heap.size)) p.block=true:=fun p hp=>by simpa using hW.lt p hp
  have hlt:=hW.lt
  refine ⟨ds,gs,before,[],pa,pv,hW,hres _ _ _,hargs _ hold,hvars _ hold,hb.frame _,fun _=>?_⟩
  obtain ⟨_,_,_,_,_,hz,hn⟩:=hW
  refine ⟨hok,_,_,([]++pa)++pv,⟨[]++pa,pv,trodAll_append (hargs _ (fun _ _=>rfl)) (hres _ _ _),hvars _ (fun _ _=>rfl),rfl,?_,?_⟩,?_⟩
  · intro b off hp
    have hp':MemPlace.cell b off∈before:=by rw [hps]; simpa using hp
    rw [frozen_below hb (hlt _ hp')]
    exact hz b off hp'
  · intro ha
    have:=hn ha
    rw [hps] at this
    simpa using this
  · intro p hp _
    rw [hps]
    simpa using hp
theorem Q1 {P:Program} {x:String × DataW Unit} {r:List (String × DataW Unit)} {W:World} (h:laidMet P (x::r) W):laidMet P r W:=by
  obtain ⟨ps,⟨g,t,cs,fuel,p,q,_,_,_,_,h5,h6⟩,hn,hc⟩:=h
  subst h6
  exact ⟨q,h5,(List.nodup_append.1 hn).2.1,fun b off hm=>hc b off (List.mem_append_right _ hm)⟩
theorem sat_nil (W:World):Sat W [] W:=⟨Below.refl _ _,by simp,by simp,by simp⟩
theorem eStar : "*" ++ "errors.errorString" = "*errors.errorString" := by decide
theorem eRow (u : TypeId) (h : Tryz.prog.typeName? 3 u = some "*errors.errorString") : u = 292 :=
  typeName_ptr_named (nm := "errors.errorString") (by rw [eStar]; kernel_rfl) (by kernel_rfl) (by decide) u (by rw [eStar]; exact h)
theorem eGlob : Tryz.prog.globalNamed "strconv.ErrSyntax" = some 4 := by kernel_rfl
theorem eU8:U8Extra Tryz.prog Tryz.laysValid_ren:={ n3:=by kernel_rfl,n4:=by kernel_rfl,y3:=by kernel_rfl,y4:=by kernel_rfl,c5:=by kernel_rfl,c119:=by kernel_rfl,c138:=by kernel_rfl }
def de64:List Int:=[0,1,56,2,57,49,28,3,61,58,42,50,38,29,17,4,62,47,59,36,45,43,51,22,53,39,33,30,24,18,12,5,63,55,48,27,60,41,37,16,46,35,44,21,52,32,23,11,54,26,40,15,34,20,31,10,25,14,19,9,13,8,7,6]
theorem eTz : Tryz.prog.globalNamed "math/bits.deBruijn64tab" = some 7 := by kernel_rfl
theorem base_of {W : World} (h : laidMet Tryz.prog [("math/bits.deBruijn32tab", Rows.laid_math_bits_deBruijn32tab), ("math/bits.deBruijn64tab", Rows.laid_math_bits_deBruijn64tab), ("internal/strconv.uint64pow10", Rows.laid_internal_strconv_uint64pow10), ("unicode/utf8.acceptRanges", Rows.laid_unicode_utf8_acceptRanges), ("strconv.ErrRange", Rows.laid_strconv_ErrRange), ("strconv.ErrSyntax", Rows.laid_strconv_ErrSyntax), ("unicode/utf8.first", Rows.laid_unicode_utf8_first)] W) : R5 W := by
  have h2:=Q1 h
  have h6:=Q1 (Q1 (Q1 (Q1 h2)))
  refine ⟨?_,?_,?_⟩
  · obtain ⟨a0,s0,hv0,-,-,-⟩:=laid_sentinel h6 eGlob (ti:=120) (tp:=292) (te:=294) (ts:=9) (by kernel_rfl) Tryz.underlying120 eRow Tryz.underlying292 Tryz.underlying294 rfl rfl Tryz.underlying9 (by kernel_rfl) (by kernel_rfl)
    have hc:W.cell? ⟨4,0,none⟩=some (.iface 292 (.pointer (some a0))):=by
      have h0:=World.var?_cell eGlob hv0 0; simpa using h0
    exact ⟨_,cell_lt hc,hc,.inr ⟨_,_,rfl⟩⟩
  · have hT : Lib.TabIs Tryz.prog W "math/bits.deBruijn64tab" .u8 de64 := by
      rw [show Rows.laid_math_bits_deBruijn64tab=Lib.tabData .u8 de64 from by kernel_rfl] at h2
      exact Lib.tabIs_of_head (t:=289) (e:=5) (n:=64) eTz (by kernel_rfl) (by kernel_rfl) (by kernel_rfl) (by kernel_rfl) (by kernel_rfl) h2
    unfold Lib.TabIs World.var? at hT
    rw [eTz] at hT
    simp only [Option.bind_some] at hT
    cases hb:W.heap[7]? with
    | none=>rw [hb] at hT; cases hT
    | some ob =>
      rw [hb] at hT
      cases ob with
      | cells c e fz =>
        have hlt:7<W.heap.size:=(Array.getElem?_eq_some_iff.1 hb).1
        simp only [Option.some.injEq] at hT
        subst hT
        exact ⟨_,_,_,hlt,rfl,by rfl⟩
      | _=>cases hT
  · have h3 := laidMet.reads h (n := "unicode/utf8.first") (d := Rows.laid_unicode_utf8_first) (by simp)
    have h4 := laidMet.reads h (n := "unicode/utf8.acceptRanges") (d := Rows.laid_unicode_utf8_acceptRanges) (by simp)
    rw [show Rows.laid_unicode_utf8_first=Lib.firstData from by kernel_rfl] at h3
    rw [show Rows.laid_unicode_utf8_acceptRanges=Lib.acceptData from by kernel_rfl] at h4
    exact utf8Tabs_of_readsT (U8Types.of196 Tryz.laysValid) eU8 h3 h4
end Go.Proofs.YtppgfiklmfoaeaaGreatDoor
namespace Go.Json
open Go.Sw Go.Esc
def strV (ns:List (List UInt8)):List Value:=ns.map fun n=>.string (bk n)
theorem strV_len (a:List (List UInt8)):(strV a).length=a.length:=List.length_map _
theorem strV_at {a:List (List UInt8)} {k:Nat} (h:k<a.length):(strV a)[k]? = some (.string (bk a[k])):=by
  unfold strV; rw [List.getElem?_map,List.getElem?_eq_getElem h]; rfl
theorem rd_mono {S S':Nat→Obj→Prop} {a:Option Addr} {cs:List Value} (h:Rd S a cs) (hs:∀ b o,S b o→S' b o):Rd S' a cs:=by
  unfold Rd at h ⊢
  rcases h with h | ⟨b,off,c,t,z,h1,h2,h3⟩
  · exact .inl h
  · exact .inr ⟨b,off,c,t,z,h1,hs _ _ h2,h3⟩
mutual
inductive JRd (S:Nat→Obj→Prop):JV→List Value→Prop
  | mk {k:Int} {t:List UInt8} {ns:List (List UInt8)} {l:List JV} {an al:Option Addr} {cn cl:Nat} {cs:List Value}:Rd S an (strV ns)→Rd S al cs→JRdL S l cs→JRd S (.mk k t ns l) [.int .i64 k,.string (bk t),.slice an ns.length cn,.slice al l.length cl]
inductive JRdL (S:Nat→Obj→Prop):List JV→List Value→Prop
  | nil:JRdL S [] []
  | cons {v:JV} {l:List JV} {c cs:List Value}:JRd S v c→JRdL S l cs→JRdL S (v::l) (c++cs)
end
mutual
/-- owned: one group for all of it -/
inductive JRep (ts tj:TypeId):JV→List Value→Grp→Prop
  | mk {k:Int} {t:List UInt8} {ns:List (List UInt8)} {l:List JV} {an al:Option Addr} {cn cl:Nat} {cs:List Value} {gn gl gs:Grp}:Own ts 1 (.slice an ns.length cn) gn ns.length (strV ns)→Own tj 4 (.slice al l.length cl) gl l.length cs→JRepL ts tj l cs gs→JRep ts tj (.mk k t ns l) [.int .i64 k,.string (bk t),.slice an ns.length cn,.slice al l.length cl] (gn++(gl++gs))
inductive JRepL (ts tj:TypeId):List JV→List Value→Grp→Prop
  | nil:JRepL ts tj [] [] []
  | cons {v:JV} {l:List JV} {c cs:List Value} {g gs:Grp}:JRep ts tj v c g→JRepL ts tj l cs gs→JRepL ts tj (v::l) (c++cs) (g++gs)
end
theorem JRd.len {S:Nat→Obj→Prop} {v:JV} {c:List Value} (h:JRd S v c):c.length=4:=by cases h; rfl
theorem JRdL.len {S:Nat→Obj→Prop}:∀ {l:List JV} {cs:List Value},JRdL S l cs→cs.length=l.length * 4
  | [],_,h=>by cases h; rfl
  | v::l,_,h=>by
    cases h with
    | cons h1 h2=>rw [List.length_append,h1.len,h2.len,List.length_cons]; omega
theorem JRdL.at {S:Nat→Obj→Prop}:∀ {l:List JV} {cs:List Value} {i:Nat} (hi:i<l.length),JRdL S l cs→JRd S l[i] ((cs.drop (i * 4)).take 4)
  | [],_,_,hi,_=>absurd hi (Nat.not_lt_zero _)
  | v::l,_,0,_,h=>by
    cases h with
    | cons h1 h2 =>
      rw [Nat.zero_mul,List.drop_zero,List.take_append_of_le_length (by rw [h1.len]; exact Nat.le_refl _),List.take_of_length_le (by rw [h1.len]; exact Nat.le_refl _)]; exact h1
  | v::l,_,i+1,hi,h=>by
    cases h with
    | cons h1 h2 =>
      rename_i c cs
      have e:(c++cs).drop ((i+1) * 4)=cs.drop (i * 4):=by
        rw [List.drop_append,List.drop_eq_nil_of_le (by rw [h1.len]; omega),h1.len,List.nil_append,show (i+1) * 4 - 4=i * 4 by omega]
      rw [e]; exact JRdL.at (l:=l) (by simpa using hi) h2
theorem JRep.nul {ts tj:TypeId}:JRep ts tj nul [.int .i64 0,.string (bk []),.slice none 0 0,.slice none 0 0] []:=.mk (ns:=[]) (l:=[]) Own.nil Own.nil .nil
theorem JRepL.snoc {ts tj:TypeId}:∀ {l:List JV} {cs:List Value} {gs:Grp} {v:JV} {c:List Value} {g:Grp},JRepL ts tj l cs gs→JRep ts tj v c g→JRepL ts tj (l++[v]) (cs++c) (gs++g)
  | [],_,_,v,c,g,h,hv=>by
    cases h
    have:=JRepL.cons hv .nil
    rw [List.append_nil,List.append_nil] at this
    exact this
  | x::l,_,_,v,c,g,h,hv=>by
    cases h with
    | cons h1 h2 =>
      rw [List.cons_append,List.append_assoc,List.append_assoc]
      exact .cons h1 (JRepL.snoc h2 hv)
mutual
theorem JRep.rd {ts tj:TypeId} {S:Nat→Obj→Prop}:∀ {v:JV} {c:List Value} {g:Grp},JRep ts tj v c g→(∀ b o,inG g b o→S b o)→JRd S v c
  | .mk _ _ _ _,_,_,.mk h1 h2 h3,hs=>.mk (rd_mono (K7 h1) fun b o h=>hs b o (List.mem_append_left _ h)) (rd_mono (K7 h2) fun b o h=>hs b o (List.mem_append_right _ (List.mem_append_left _ h))) (JRepL.rd h3 fun b o h=>hs b o (List.mem_append_right _ (List.mem_append_right _ h)))
theorem JRepL.rd {ts tj:TypeId} {S:Nat→Obj→Prop}:∀ {l:List JV} {cs:List Value} {g:Grp},JRepL ts tj l cs g→(∀ b o,inG g b o→S b o)→JRdL S l cs
  | [],_,_,.nil,_=>.nil
  | _::_,_,_,.cons h1 h2,hs=>.cons (JRep.rd h1 fun b o h=>hs b o (List.mem_append_left _ h)) (JRepL.rd h2 fun b o h=>hs b o (List.mem_append_right _ h))
end
end Go.Json
namespace Go.Proofs.YtppgfiklmfoaeaaGreatDoor
open Go Go.ChangeShapes Go.WideShapes Go.ChangeAt Go.RowKit Go.Sw Go.Sha Go.Esc
theorem laidOut_:laidOutB Tryz.prog=true:=by kernel_rfl
def SW (W:World) (y:Nat) (o:Obj):Prop:=y<W.heap.size∧W.heap[y]? = some o
theorem sw_at {W:World} {y:Nat} {o:Obj} (h:SW W y o):At W [] y o:=.inl h
theorem rd_cells {W:World} {a:Addr} {cs:List Value} (hn:cs≠[]) (h:∀ j u,cs[j]? = some u→W.cell? (a.add j)=some u):(∃ b off,a=⟨b,off,none⟩)∧Rd (SW W) (some a) cs:=by
  obtain ⟨b,off,sp⟩:=a
  cases cs with
  | nil=>exact absurd rfl hn
  | cons v r =>
    have h0:=h 0 v rfl
    unfold World.cell? at h0
    rw [show (Addr.add ⟨b,off,sp⟩ 0)=⟨b,off,sp⟩ from rfl] at h0
    cases hb:W.heap[b]? with
    | none=>rw [show (⟨b,off,sp⟩:Addr).block=b from rfl,hb] at h0; cases h0
    | some o =>
      rw [show (⟨b,off,sp⟩:Addr).block=b from rfl,hb] at h0
      cases o with
      | cells c e fz =>
        cases sp with
        | some s=>simp at h0
        | none =>
          refine ⟨⟨b,off,rfl⟩,.inr ⟨b,off,c,e,fz,rfl,⟨?_,hb⟩,fun j u hu=>?_⟩⟩
          · rcases Nat.lt_or_ge b W.heap.size with h | h
            · exact h
            · rw [Array.getElem?_eq_none h] at hb; cases hb
          · have hj:=h j u hu
            rw [N0] at hj
            unfold World.cell? at hj
            rw [show (⟨b,off+j,none⟩:Addr).block=b from rfl,hb] at hj
            simpa using hj
      | _=>cases h0
theorem wf_u8 {n:Int} (h:(Lit.int .u8 n).wf=true):0≤n∧n<256:=by
  simp [Lit.wf,IntKind.min,IntKind.max,IntKind.bits,IntKind.signed] at h
  omega
def bytesZ (zs:List Int):List UInt8:=zs.map fun z=>UInt8.ofNat z.toNat
theorem u8s_bytesZ {zs:List Int} (h:∀ n∈zs,0≤n∧n<256):u8s (bytesZ zs)=zs.map (Value.int .u8):=by
  unfold u8s bytesZ
  simp only [List.map_map]
  refine List.map_congr_left fun z hz=>?_
  obtain ⟨h0,h1⟩:=h z hz
  simp only [Function.comp]
  congr 1
  rw [UInt8.toNat_ofNat']
  omega
theorem bytesZ_len (zs:List Int):(bytesZ zs).length=zs.length:=List.length_map _
theorem cells_u8:Tryz.prog.cellsOf 5=1:=by kernel_rfl
set_option maxRecDepth 100000 in
theorem open_bytesL {H:Type} {enc:TypeId × Value→H} {W:World} {v:Value} {d:DataW H} {p:List MemPlace} {r:Reach} {b0:Nat} (hval:Value.okWide Tryz.prog W r b0 22 v) (h0:DataW.Trod enc Tryz.prog W 0 (fun _=>true) true 22 v d p) :
    ∃ (a:Option Addr) (c:Nat) (l:List UInt8),v=.slice a l.length c∧Rd (SW W) a (u8s l)∧l.length≤c:=by
  obtain ⟨a0,len,cap,rfl⟩:=okWide_slice Tryz.underlying22 hval
  obtain ⟨fuel,hf⟩:=h0
  rcases open_ints Tryz.underlying22 Tryz.underlying5 cells_u8 hf with ⟨hcs,hx⟩ | ⟨a,len',cap',zs,hcs,_,hl,hm,hz,hx,hcell,hwz⟩
  · have e:Value.slice a0 len cap=.slice none 0 0:=by simpa [Value.cells] using hcs
    exact ⟨none,0,[],e,.inl rfl,Nat.le_refl _⟩
  · have e:Value.slice a0 len cap=.slice (some a) len' cap':=by simpa [Value.cells] using hcs
    rw [e]
    simp only [if_true] at hz
    have hlen:(zs.take len').length=len':=by rw [List.length_take]; omega
    have hu:u8s (bytesZ (zs.take len'))=(zs.take len').map (Value.int .u8):=u8s_bytesZ fun n hn=>wf_u8 (hwz n (List.mem_of_mem_take hn))
    refine ⟨some a,cap',bytesZ (zs.take len'),by rw [bytesZ_len,hlen],?_,by rw [bytesZ_len,hlen]; omega⟩
    by_cases h0:len'=0
    · subst h0; exact .inl (by rw [hu]; simp)
    · rw [hu]
      exact (rd_cells (W:=W) (a:=a) (cs:=(zs.take len').map (Value.int .u8)) (by intro he; rw [List.map_eq_nil_iff] at he; rw [he] at hlen; simp at hlen; omega) (fun j u hu=>by
        rw [List.getElem?_map] at hu
        obtain ⟨z,hz1,rfl⟩:=Option.map_eq_some_iff.1 hu
        have hj:j<len':=by
          rcases Nat.lt_or_ge j (zs.take len').length with h | h
          · omega
          · rw [List.getElem?_eq_none h] at hz1; cases hz1
        rw [List.getElem?_take_of_lt hj] at hz1
        rw [hcell j (by omega),List.getD_eq_getElem?_getD,hz1]; rfl)).2
end Go.Proofs.YtppgfiklmfoaeaaGreatDoor
namespace Go.Proofs.YtppgfiklmfoaeaaGreatDoor
open Go Go.ChangeShapes Go.WideShapes Go.ChangeAt Go.RowKit Go.Sw Go.Esc Go.Xml
theorem cell_in {W:World} {g:Nat} {v:Value} (h:W.cell? ⟨g,0,none⟩=some v):g<W.heap.size:=by
  rcases Nat.lt_or_ge g W.heap.size with h1 | h1
  · exact h1
  · unfold World.cell? at h
    rw [show (⟨g,0,none⟩:Addr).block=g from rfl,Array.getElem?_eq_none h1] at h; cases h
theorem baseX_of {W:World} (hB:R5 W) (h:W.ShapedOpen Tryz.prog):R2 W:=by
  obtain ⟨m,hm⟩:=cell_of_shapedOpen_int (k:=.i64) h (g:=2) (of_decide_eq_true (by kernel_rfl)) (t:=3) (zero:=#[.int .i64 0]) (by kernel_rfl) rfl (by kernel_rfl) (by kernel_rfl) Tryz.underlying3
  exact ⟨hB,m,cell_in hm,hm⟩
variable {H : Type} {enc : TypeId × Value → H}
theorem returnsIn_shaped {a:Assume} {C:Checked} {os:Os} {f:FuncId} {fn:Func} {s:ChangeSpec} {conds:List PathCond} {apart fresh handsOn again:Bool} {X:World→Array Value→Prop}
    (hX:∀ (w w':World) (args:Array Value),w.heap=w'.heap→X w args→X w' args)
    (own:ownKnob C.prog.godebug=none) (started:os.Started) (noInit:C.prog.inits.idxOf? f=none) (hfn:C.prog.funcs[f]? = some fn)
    (witness:∃ (w:World) (tape:Tape) (i:Input),w.os=os∧(w.forCall tape i).Shaped C.prog∧i.vars=[]∧Input.okWide C.prog (w.forCall tape i) .any w.heap.size f i ∧
      ((s.pre enc C.prog fn conds apart (w.forCall tape i).memory i.args∧X (w.forCall tape i).memory i.args)∧sizedMet enc C.prog fn (OpenSpec.ofChange s) apart (w.forCall tape i).memory i.args)∧a.holds C.prog (lone (Frame.enter C.prog f i.args .normal) [] (w.forCall tape i)))
    (contract:∀ (W:World) (base:Nat) (args:Array Value) (ds gs:List (DataW H)) (before:List MemPlace),
      (∀ (j:Nat) t v,fn.params[j]? = some t→args[j]? = some v→Value.okWide C.prog W .any base t v) →
      DataW.Whole enc C.prog fn.params.toList s.vars apart W args.toList ds gs before →
      conds.all (PathCond.test C.prog ⟨fn.params.toList,ds,s.plain.varTypes C.prog,gs⟩)=true →
      X W args→W.ShapedOpen C.prog →
      Calls C.prog f args W fun e W'=>∃ v,e=.returned v∧s.post enc C.prog fn apart fresh handsOn again W args v W') :
    ReturnsInHanded a C os f .any (fun w args=>(s.pre enc C.prog fn conds apart w args∧X w args)∧sizedMet enc C.prog fn (OpenSpec.ofChange s) apart w args) (s.post enc C.prog fn apart fresh handsOn again):=by
  refine returnsInHanded_of_calls own started noInit witness ?_
  intro w tape i _ hsh _ hok hpre _
  obtain ⟨_,_,_,fn',hfn',_,_,_,_,hval⟩:=hok
  have e:fn'=fn:=Option.some.inj (hfn'.symm.trans hfn)
  subst e
  obtain ⟨⟨⟨ds,gs,before,hw,hc⟩,hx⟩,_⟩:=hpre
  have hw':=DataW.Whole.of_heap (w':=w.forCall tape i) (by rfl) hw
  refine (contract (w.forCall tape i) w.heap.size i.args ds gs before hval hw' hc (hX _ _ _ (by rfl) hx) hsh).mono fun e W' ⟨v,he,hp⟩=>?_
  subst he
  exact ChangeSpec.post_blind hp
end Go.Proofs.YtppgfiklmfoaeaaGreatDoor
namespace Go.Proofs.YtppgfiklmfoaeaaGreatDoor
open Go Go.ChangeShapes Go.WideShapes Go.ChangeAt Go.RowKit Go.Sw
theorem and_tt {a b:Bool} (h:a=true) (h2:b=true):(a&&b)=true:=by rw [h,h2]; rfl
theorem cl_may:Tryz.prog.mayEnter=true:=by kernel_rfl
theorem cl_lift:Tryz.prog.liftsFinal=Rows.jsonParsesRow.lifted:=by kernel_rfl
theorem cl_make:Tryz.prog.make=some Rows.jsonParsesRow.make:=by kernel_rfl
theorem cl_heard:Tryz.prog.stopsHeard=true:=by kernel_rfl
theorem cl_keys:Tryz.prog.plainKeys=Rows.jsonParsesRow.plainKeys:=by kernel_rfl
end Go.Proofs.YtppgfiklmfoaeaaGreatDoor
namespace Go.Proofs.YtppgfiklmfoaeaaGreatDoor
open Go.Sw Go.Esc
def quoT:List Value:=[.string (mB #[10]),.string (mB #[38,35,49,48,59]),.string (mB #[9]),.string (mB #[38,35,57,59])]
theorem newRepQ_ (v:Nat) (W0:World) (H:List Grp):Tri Tryz.prog 148 #[.slice (some ⟨v,0,none⟩) 4 4] W0 ([(v,.cells #[.string (mB #[10]),.string (mB #[38,35,49,48,59]),.string (mB #[9]),.string (mB #[38,35,57,59])] 9 (0,0))]::H) (fun x H'=>∃ b a cap g,x=pt b∧Go.Sw.Own 9 1 (.slice a 4 cap) g 4 quoT∧H'=repG b 0 0 .nilIface (.slice a 4 cap)::g::[(v,.cells #[.string (mB #[10]),.string (mB #[38,35,49,48,59]),.string (mB #[9]),.string (mB #[38,35,57,59])] 9 (0,0))]::H):=by
 refine D0 (args:=[.slice (some ⟨v,0,none⟩) 4 4]) (n:=12) Tryz.func148 rfl rfl (Nat.le_of_ble_eq_true rfl) ?_
 refine A1 (G_p [0] [0] (k:=?_))
 refine A0 (A1 ?_)
 refine A1 (A3 ?_)
 refine A4 (j:=3) [0,0,0] (k:=?_)
 have hw1:Int.tmod 4 2=4 % 2:=r64 (by omega)
 refine GL_w 5 hw1 kr (B1 [0] [0,6] (k:=?_))
 refine A0 (B7 (b:=(4 % 2)==1) kr (fun hc2=>?_) (fun hc2=>?_))
 ·
  exact absurd hc2 (by decide)
 ·
  skip
  refine B4 (A0 ?_)
  refine A1 (A3 ?_)
  refine A4 (j:=1) [0] (k:=H4 rfl (H':=([]::[(v,.cells #[.string (mB #[10]),.string (mB #[38,35,49,48,59]),.string (mB #[9]),.string (mB #[38,35,57,59])] 9 (0,0))]::H)) (fun w h=>h.flat (List.Perm.refl _)) ?_)
  refine G4 (i:=1) (ch:=[]) (t:=25) (tx:=25) (e:=9) (inf:=Tryz.t9) (s:=.slice none 0 0) (x:=.slice (some ⟨v,0,none⟩) 4 4) (n:=0) (m:=4) (j:=0) (cs:=[]) (news:=[.string (mB #[10]),.string (mB #[38,35,49,48,59]),.string (mB #[9]),.string (mB #[38,35,57,59])]) (g:=[]) (S:=(inG [(v,.cells #[.string (mB #[10]),.string (mB #[38,35,49,48,59]),.string (mB #[9]),.string (mB #[38,35,57,59])] 9 (0,0))])) rfl rfl rfl rfl kr kr kr rfl rfl (.inl ⟨9,kr⟩) (fun ⟨_,h⟩=>by cases h) (fun _=>⟨9,kr⟩) kr kr kr rfl Go.Sw.Own.nil (SrcOf.slice _ _ _ _ Rd.lit (fun h=>by cases h)) (D4 1 rfl) kr (by intro u hu; simp only [List.mem_cons,List.not_mem_nil,or_false] at hu; rcases hu with rfl | rfl | rfl | rfl <;> rfl) (by omega) (by show (0+4) * 16≤140737488355328; omega) (fun v3 g4 hO5=>?_)
  replace hO5:=own_nilE hO5
  obtain ⟨a6,cap7,rfl,hcap8,hrd9⟩:=hO5.shape
  refine A4 (j:=3) [0] (k:=T1 (ch:=[]) (v:=.agg #[.int .u32 0,.int .i32 0,.int .u32 0,.nilIface,.slice a6 4 cap7]) (k:=(fun b10=>?_)))
  refine B5 (E':=[⟨2,[],pt b10⟩]) [0] [2] (k:=A0 ?_)
  refine C5 (B9 [.tmp 2] [pt b10] (k:=?_))
  exact ⟨_,_,_,_,rfl,hO5,rfl⟩
def W9:List Value:=[.string (mB #[9]),.string (mB #[10])]
def buildRQ (b:Nat) (a:Option Addr) (cap:Nat) (g:Grp) (H:List Grp) (x:Value) (H':List Grp):Prop:=∃ c aT cT gT a10 c10 g10 a9 c9 g9,x=.iface 249 (pt c)∧Go.Sw.Own 9 1 (.slice aT 2 cT) gT 2 W9∧(Rd (inG g10) (some ⟨a10,0,none⟩) (u8s (mB #[38,35,49,48,59]).data.toList)∧Rd (inG g9) (some ⟨a9,0,none⟩) (u8s (mB #[38,35,57,59]).data.toList))∧H'=[(c,.cells (bsr [(9,.slice (some ⟨a9,0,none⟩) 4 c9),(10,.slice (some ⟨a10,0,none⟩) 5 c10)] (.slice aT 2 cT)) 248 (0,0))]::gT::g10::g9::([(b,.cells #[.int .u32 0,.int .i32 1,.int .u32 0,.nilIface,.slice a 4 cap] 213 (0,0))]::g::H)
theorem buildQ_ (b:Nat) (a:Option Addr) (cap:Nat) (g:Grp) (hr:Rd (inG g) a quoT) (W0:World) (H:List Grp):Tri Tryz.prog 190 #[pt b] W0 ([(b,.cells #[.int .u32 0,.int .i32 1,.int .u32 0,.nilIface,.slice a 4 cap] 213 (0,0))]::g::H) (buildRQ b a cap g H):=by
  refine D0 (args:=[pt b]) (n:=132) Tryz.func190 rfl rfl (Nat.le_of_ble_eq_true rfl) ?_
  refine A1 (C3 (E':=[⟨0,[],pt b⟩]) [0] [0] (k:=?_))
  refine A0 (A1 ?_)
  refine A3 (A4 (j:=3) [0,0,0] (k:=?_))
  refine A6 (ch:=[]) (b:=b) (off:=4) (v:=.slice a 4 cap) (hA:=At.grp 0 0 rfl rfl) (k:=B5 (E':=[⟨3,[],.slice a 4 cap⟩]) [0] [3] (k:=?_))
  refine A0 (A1 ?_)
  refine A1 (G_p [0,0,0,0,1,1,1,1,1,3] [3,28] (k:=?_))
  refine A0 (D3 kr ?_)
  refine B4 (A0 ?_)
  refine A1 (G_p [0] [3,4] (k:=?_))
  refine A0 (A1 ?_)
  refine A1 (G_p [0] [3,4,5] (k:=?_))
  refine A0 (B8 ?_)
  refine N9 3 (G1 ?_)
  refine A1 (A1 ?_)
  refine G_p [0,0,0,0] [3,4,5,40] (k:=A0 ?_)
  refine C4 kr (B4 ?_)
  refine A0 (A1 ?_)
  refine B8 (A1 ?_)
  refine A1 (A3 ?_)
  refine A4 (j:=2) [0,0] (k:=A9 (ch:=[]) (a:=a) (len:=4) (cap:=cap) (kd:=.i64) (j:=0) (e:=9) (sz:=1) (S:=(inG g)) (cs:=quoT) (hrd:=hr) (hb:=(fun _=>by exact ⟨by decide,by decide,by intro h; cases h⟩)) (k:=?_))
  refine F4 (ch:=[]) (a:=a) (q:=0 * 1) (S:=(inG g)) (cs:=quoT) (v:=.string (mB #[10])) (hrd:=hr) (hS:=D4 1 rfl) (hv:=(fun _=>rfl)) (k:=B1 [0,0] [3,4,5,48] (k:=?_))
  refine A0 (D3 kr ?_)
  refine B4 (A0 ?_)
  refine A1 (A3 ?_)
  refine A4 (j:=3) [0,0,0] (k:=A9 (ch:=[]) (a:=a) (len:=4) (cap:=cap) (kd:=.i64) (j:=1) (e:=9) (sz:=1) (S:=(inG g)) (cs:=quoT) (hrd:=hr) (hb:=(fun _=>by exact ⟨by decide,by decide,by intro h; cases h⟩)) (k:=?_))
  refine F4 (ch:=[]) (a:=a) (q:=1 * 1) (S:=(inG g)) (cs:=quoT) (v:=.string (mB #[38,35,49,48,59])) (hrd:=hr) (hS:=D4 1 rfl) (hv:=(fun _=>rfl)) (k:=B5 (E':=[⟨3,[],.slice a 4 cap⟩,⟨4,[],.bool true⟩,⟨5,[],.int .i64 0⟩,⟨58,[],.bool true⟩]) [0,0] [3,4,5,58] (k:=?_))
  refine A0 (C4 kr ?_)
  refine G_p [0] [3,4,5] (k:=C6 ?_)
  refine A0 (G_p [0,0,0] [3,4,5] (k:=?_))
  refine N_rd (G1 ?_)
  refine A1 (A1 ?_)
  refine G_p [0,0,0,0] [3,4,5,40] (k:=A0 ?_)
  refine C4 kr (B4 ?_)
  refine A0 (A1 ?_)
  refine B8 (A1 ?_)
  refine A1 (A3 ?_)
  refine A4 (j:=2) [0,0] (k:=A9 (ch:=[]) (a:=a) (len:=4) (cap:=cap) (kd:=.i64) (j:=2) (e:=9) (sz:=1) (S:=(inG g)) (cs:=quoT) (hrd:=hr) (hb:=(fun _=>by exact ⟨by decide,by decide,by intro h; cases h⟩)) (k:=?_))
  refine F4 (ch:=[]) (a:=a) (q:=2 * 1) (S:=(inG g)) (cs:=quoT) (v:=.string (mB #[9])) (hrd:=hr) (hS:=D4 1 rfl) (hv:=(fun _=>rfl)) (k:=B1 [0,0] [3,4,5,48] (k:=?_))
  refine A0 (D3 kr ?_)
  refine B4 (A0 ?_)
  refine A1 (A3 ?_)
  refine A4 (j:=3) [0,0,0] (k:=A9 (ch:=[]) (a:=a) (len:=4) (cap:=cap) (kd:=.i64) (j:=3) (e:=9) (sz:=1) (S:=(inG g)) (cs:=quoT) (hrd:=hr) (hb:=(fun _=>by exact ⟨by decide,by decide,by intro h; cases h⟩)) (k:=?_))
  refine F4 (ch:=[]) (a:=a) (q:=3 * 1) (S:=(inG g)) (cs:=quoT) (v:=.string (mB #[38,35,57,59])) (hrd:=hr) (hS:=D4 1 rfl) (hv:=(fun _=>rfl)) (k:=B1 [0,0] [3,4,5,58] (k:=?_))
  refine A0 (C4 kr ?_)
  refine C3 (E':=[⟨3,[],.slice a 4 cap⟩,⟨4,[],.bool false⟩,⟨5,[],.int .i64 2⟩]) [0] [3,4,5] (k:=C6 ?_)
  refine A0 (G_p [0,0,0] [3,4,5] (k:=?_))
  refine N_rd (G1 ?_)
  refine A1 (A1 ?_)
  refine G_p [0,0,0,0] [3,4,5,40] (k:=A0 ?_)
  refine D3 kr (H7 ?_)
  refine B0 (B0 ?_)
  refine C7 (A0 ?_)
  refine A1 (A1 ?_)
  refine G_p [0] [3,59] (k:=A0 ?_)
  refine D3 kr (B4 ?_)
  refine A0 (A1 ?_)
  refine A3 (A4 (j:=3) [0,0,0] (k:=?_))
  refine GL_makeLC (i:=3) (ch:=[]) (t:=25) (e:=9) (inf:=Tryz.t9) (l:=0) (m:=2) (c:=[.string eB,.string eB]) rfl rfl kr kr kr kr rfl (by decide) (by decide) (by decide) (by decide) kr kr kr kr (fun b1=>A4 (j:=5) [0] (k:=?_))
  refine H5 (ch:=[]) (z:=.agg (bsr [] (.slice none 0 0))) (k:=(fun b2=>?_))
  refine E2 (ch:=[]) (b:=b2) (off:=0) (v:=.agg (bsr [] (.slice (some ⟨b1,0,none⟩) 0 2))) (j:=0) ([(b2,.cells (bsr [] (.slice (some ⟨b1,0,none⟩) 0 2)) 248 (0,0))]::[(b1,.cells #[.string eB,.string eB] 9 (0,0))]::[(b,.cells #[.int .u32 0,.int .i32 1,.int .u32 0,.nilIface,.slice a 4 cap] 213 (0,0))]::g::H) (hoff:=Nat.le_of_ble_eq_true kr) (hfz:=(fun _ _=>E0)) (k:=B1 [] [3,11] (k:=?_))
  refine A0 (A1 ?_)
  refine A1 (G_p [0,0,0,0] [3,11,12] (k:=?_))
  refine A0 (B8 ?_)
  refine N9 3 (G1 ?_)
  refine A1 (A1 ?_)
  refine C3 (E':=[⟨3,[],.slice a 4 cap⟩,⟨11,[],pt b2⟩,⟨12,[],.int .i64 2⟩,⟨100,[],.bool true⟩]) [0,0] [3,11,12,100] (k:=A0 ?_)
  refine C4 kr (B4 ?_)
  refine A0 (A1 ?_)
  refine B8 (A1 ?_)
  refine A3 (A4 (j:=2) [0,0] (k:=?_))
  refine A9 (ch:=[]) (a:=a) (len:=4) (cap:=cap) (kd:=.i64) (j:=2) (e:=9) (sz:=1) (S:=(inG g)) (cs:=quoT) (hrd:=hr) (hb:=(fun _=>by exact ⟨by decide,by decide,by intro h; cases h⟩)) (k:=F4 (ch:=[]) (a:=a) (q:=2 * 1) (S:=(inG g)) (cs:=quoT) (v:=.string (mB #[9])) (hrd:=hr) (hS:=D4 3 rfl) (hv:=(fun _=>rfl)) (k:=?_))
  refine H3 (ch:=[]) (s:=(mB #[9])) (kd:=.i64) (j:=0) (hb:=(fun _=>by decide)) (k:=B1 [0] [3,11,12,13] (k:=?_))
  refine A0 (A1 ?_)
  refine A3 (A4 (j:=3) [0,0,0] (k:=?_))
  refine A9 (ch:=[]) (a:=a) (len:=4) (cap:=cap) (kd:=.i64) (j:=3) (e:=9) (sz:=1) (S:=(inG g)) (cs:=quoT) (hrd:=hr) (hb:=(fun _=>by exact ⟨by decide,by decide,by intro h; cases h⟩)) (k:=F4 (ch:=[]) (a:=a) (q:=3 * 1) (S:=(inG g)) (cs:=quoT) (v:=.string (mB #[38,35,57,59])) (hrd:=hr) (hS:=D4 3 rfl) (hv:=(fun _=>rfl)) (k:=?_))
  refine B1 [0] [3,11,12,13,14] (k:=A0 ?_)
  refine A1 (A1 ?_)
  refine A3 (A4 (j:=2) [0,0] (k:=?_))
  refine E6 (ch:=[]) (b:=b2) (off:=0) (len:=256) (sz:=1) (e:=22) (kd:=.u8) (j:=9) (hb:=(fun _=>⟨by decide,by decide⟩)) (k:=A6 (ch:=[]) (b:=b2) (off:=9) (v:=.slice none 0 0) (hA:=At.grp 0 0 rfl rfl) (hv:=kr) (k:=?_))
  refine B1 [0] [3,11,12,13,14,117] (k:=A0 ?_)
  refine C4 kr (A3 ?_)
  refine A4 (j:=1) [0] (k:=A6 (ch:=[]) (b:=b2) (off:=256) (v:=.slice (some ⟨b1,0,none⟩) 0 2) (hA:=At.grp 0 0 rfl rfl) (hv:=kr) (k:=?_))
  refine A4 (j:=3) [0] (k:=D5 (ch:=[]) (e:=5) (l:=[(0,.int .u8 9)]) (c:=[.int .u8 9]) (k:=(fun b3=>?_)))
  refine L9 (ch:=[]) (a:=⟨b3,0,none⟩) (cap:=1) (e:=5) (S:=(inG [(b3,.cells #[.int .u8 9] 5 (0,0))])) ([9]) (hrd:=Rd.lit (c:=[.int .u8 9])) (hS:=D4 0 rfl) (k:=D5 (ch:=[]) (e:=9) (l:=[(0,.string (mB #[9]))]) (c:=[.string (mB #[9])]) (k:=(fun b4=>?_)))
  refine G4 (i:=6) (ch:=[]) (t:=25) (tx:=25) (e:=9) (inf:=Tryz.t9) (s:=.slice (some ⟨b1,0,none⟩) 0 2) (x:=.slice (some ⟨b4,0,none⟩) 1 1) (n:=0) (m:=1) (j:=3) (cs:=[]) (news:=[.string (mB #[9])]) (g:=[(b1,.cells #[.string eB,.string eB] 9 (0,0))]) (S:=(inG [(b4,.cells #[.string (mB #[9])] 9 (0,0))])) rfl rfl rfl rfl kr kr kr rfl rfl (.inl ⟨9,kr⟩) (fun ⟨_,h⟩=>by cases h) (fun _=>⟨9,kr⟩) kr kr kr rfl (own_cut0 (c:=[.string eB,.string eB]) rfl) (SrcOf.slice _ _ _ _ Rd.lit (fun h=>by cases h)) (D4 0 rfl) kr (by intro u hu; rcases List.mem_singleton.1 hu with rfl; rfl) (by omega) (by show (0+1) * 16≤140737488355328; omega) (fun v5 g6 hO7=>?_)
  obtain ⟨a8,cap9,rfl,hcap10,hrd11⟩:=hO7.shape
  refine A4 (j:=8) [0] (k:=E2 (ch:=[]) (b:=b2) (off:=256) (v:=.slice a8 (0+1) cap9) (j:=2) ([(b4,.cells #[.string (mB #[9])] 9 (0,0))]::[(b3,.cells #[.int .u8 9] 5 (0,0))]::[(b2,.cells (bsr [] (.slice a8 (0+1) cap9)) 248 (0,0))]::g6::[(b,.cells #[.int .u32 0,.int .i32 1,.int .u32 0,.nilIface,.slice a 4 cap] 213 (0,0))]::g::H) (hoff:=Nat.le_of_ble_eq_true kr) (hfz:=(fun _ _=>E0)) (k:=?_))
  refine B1 [] [3,11,12,13,14] (k:=A0 ?_)
  refine A3 (A4 (j:=2) [0,0] (k:=?_))
  refine K4 (ch:=[]) (src:=9) (dst:=22) (e:=5) (s:=(mB #[38,35,57,59])) (k:=(fun b12 cap13 g14 hcap15 hrd16=>?_))
  refine A4 (j:=4) [0] (k:=E6 (ch:=[]) (b:=b2) (off:=0) (len:=256) (sz:=1) (e:=22) (kd:=.u8) (j:=9) (hb:=(fun _=>⟨by decide,by decide⟩)) (k:=?_))
  refine E2 (ch:=[]) (b:=b2) (off:=9) (v:=.slice (some ⟨b12,0,none⟩) ((mB #[38,35,57,59]).size) cap13) (j:=3) (g14::[(b4,.cells #[.string (mB #[9])] 9 (0,0))]::[(b3,.cells #[.int .u8 9] 5 (0,0))]::[(b2,.cells (bsr [(9,.slice (some ⟨b12,0,none⟩) ((mB #[38,35,57,59]).size) cap13)] (.slice a8 (0+1) cap9)) 248 (0,0))]::g6::[(b,.cells #[.int .u32 0,.int .i32 1,.int .u32 0,.nilIface,.slice a 4 cap] 213 (0,0))]::g::H) (hoff:=Nat.le_of_ble_eq_true kr) (hfz:=(fun _ _=>E0)) (k:=B1 [] [3,11,12] (k:=?_))
  refine C6 (A0 ?_)
  refine C3 (E':=[⟨3,[],.slice a 4 cap⟩,⟨11,[],pt b2⟩,⟨12,[],.int .i64 0⟩]) [0,0,0] [3,11,12] (k:=N_rd ?_)
  refine G1 (A1 ?_)
  refine A1 (G_p [0,0] [3,11,12,100] (k:=?_))
  refine A0 (C4 kr ?_)
  refine B4 (A0 ?_)
  refine A1 (B8 ?_)
  refine A1 (A3 ?_)
  refine A4 (j:=2) [0,0] (k:=A9 (ch:=[]) (a:=a) (len:=4) (cap:=cap) (kd:=.i64) (j:=0) (e:=9) (sz:=1) (S:=(inG g)) (cs:=quoT) (hrd:=hr) (hb:=(fun _=>by exact ⟨by decide,by decide,by intro h; cases h⟩)) (k:=?_))
  refine F4 (ch:=[]) (a:=a) (q:=0 * 1) (S:=(inG g)) (cs:=quoT) (v:=.string (mB #[10])) (hrd:=hr) (hS:=D4 6 rfl) (hv:=(fun _=>rfl)) (k:=H3 (ch:=[]) (s:=(mB #[10])) (kd:=.i64) (j:=0) (hb:=(fun _=>by decide)) (k:=?_))
  refine B1 [0] [3,11,12,13] (k:=A0 ?_)
  refine A1 (A3 ?_)
  refine A4 (j:=3) [0,0,0] (k:=A9 (ch:=[]) (a:=a) (len:=4) (cap:=cap) (kd:=.i64) (j:=1) (e:=9) (sz:=1) (S:=(inG g)) (cs:=quoT) (hrd:=hr) (hb:=(fun _=>by exact ⟨by decide,by decide,by intro h; cases h⟩)) (k:=?_))
  refine F4 (ch:=[]) (a:=a) (q:=1 * 1) (S:=(inG g)) (cs:=quoT) (v:=.string (mB #[38,35,49,48,59])) (hrd:=hr) (hS:=D4 6 rfl) (hv:=(fun _=>rfl)) (k:=B1 [0] [3,11,12,13,14] (k:=?_))
  refine A0 (A1 ?_)
  refine A1 (A3 ?_)
  refine A4 (j:=2) [0,0] (k:=E6 (ch:=[]) (b:=b2) (off:=0) (len:=256) (sz:=1) (e:=22) (kd:=.u8) (j:=10) (hb:=(fun _=>⟨by decide,by decide⟩)) (k:=?_))
  refine A6 (ch:=[]) (b:=b2) (off:=10) (v:=.slice none 0 0) (hA:=At.grp 3 0 rfl rfl) (hv:=kr) (k:=B1 [0] [3,11,12,13,14,117] (k:=?_))
  refine A0 (C4 kr ?_)
  refine A3 (A4 (j:=1) [0] (k:=?_))
  refine A6 (ch:=[]) (b:=b2) (off:=256) (v:=.slice a8 (0+1) cap9) (hA:=At.grp 3 0 rfl rfl) (hv:=kr) (k:=A4 (j:=3) [0] (k:=?_))
  refine D5 (ch:=[]) (e:=5) (l:=[(0,.int .u8 10)]) (c:=[.int .u8 10]) (k:=(fun b17=>?_))
  refine L9 (ch:=[]) (a:=⟨b17,0,none⟩) (cap:=1) (e:=5) (S:=(inG [(b17,.cells #[.int .u8 10] 5 (0,0))])) ([10]) (hrd:=Rd.lit (c:=[.int .u8 10])) (hS:=D4 0 rfl) (k:=D5 (ch:=[]) (e:=9) (l:=[(0,.string (mB #[10]))]) (c:=[.string (mB #[10])]) (k:=(fun b18=>?_)))
  refine G4 (i:=6) (ch:=[]) (t:=25) (tx:=25) (e:=9) (inf:=Tryz.t9) (s:=.slice a8 (0+1) cap9) (x:=.slice (some ⟨b18,0,none⟩) 1 1) (n:=(0+1)) (m:=1) (j:=6) (cs:=([]++[.string (mB #[9])])) (news:=[.string (mB #[10])]) (g:=g6) (S:=(inG [(b18,.cells #[.string (mB #[10])] 9 (0,0))])) rfl rfl rfl rfl kr kr kr rfl rfl (.inl ⟨9,kr⟩) (fun ⟨_,h⟩=>by cases h) (fun _=>⟨9,kr⟩) kr kr kr rfl hO7 (SrcOf.slice _ _ _ _ Rd.lit (fun h=>by cases h)) (D4 0 rfl) kr (by intro u hu; rcases List.mem_singleton.1 hu with rfl; rfl) (by omega) (by show ((0+1)+1) * 16≤140737488355328; omega) (fun v19 g20 hO21=>?_)
  obtain ⟨a22,cap23,rfl,hcap24,hrd25⟩:=hO21.shape
  refine A4 (j:=8) [0] (k:=E2 (ch:=[]) (b:=b2) (off:=256) (v:=.slice a22 ((0+1)+1) cap23) (j:=5) ([(b18,.cells #[.string (mB #[10])] 9 (0,0))]::[(b17,.cells #[.int .u8 10] 5 (0,0))]::g14::[(b4,.cells #[.string (mB #[9])] 9 (0,0))]::[(b3,.cells #[.int .u8 9] 5 (0,0))]::[(b2,.cells (bsr [(9,.slice (some ⟨b12,0,none⟩) ((mB #[38,35,57,59]).size) cap13)] (.slice a22 ((0+1)+1) cap23)) 248 (0,0))]::g20::[(b,.cells #[.int .u32 0,.int .i32 1,.int .u32 0,.nilIface,.slice a 4 cap] 213 (0,0))]::g::H) (hoff:=Nat.le_of_ble_eq_true kr) (hfz:=(fun _ _=>E0)) (k:=?_))
  refine B1 [] [3,11,12,13,14] (k:=A0 ?_)
  refine A3 (A4 (j:=2) [0,0] (k:=?_))
  refine K4 (ch:=[]) (src:=9) (dst:=22) (e:=5) (s:=(mB #[38,35,49,48,59])) (k:=(fun b26 cap27 g28 hcap29 hrd30=>?_))
  refine A4 (j:=4) [0] (k:=E6 (ch:=[]) (b:=b2) (off:=0) (len:=256) (sz:=1) (e:=22) (kd:=.u8) (j:=10) (hb:=(fun _=>⟨by decide,by decide⟩)) (k:=?_))
  refine E2 (ch:=[]) (b:=b2) (off:=10) (v:=.slice (some ⟨b26,0,none⟩) ((mB #[38,35,49,48,59]).size) cap27) (j:=6) (g28::[(b18,.cells #[.string (mB #[10])] 9 (0,0))]::[(b17,.cells #[.int .u8 10] 5 (0,0))]::g14::[(b4,.cells #[.string (mB #[9])] 9 (0,0))]::[(b3,.cells #[.int .u8 9] 5 (0,0))]::[(b2,.cells (bsr [(9,.slice (some ⟨b12,0,none⟩) ((mB #[38,35,57,59]).size) cap13),(10,.slice (some ⟨b26,0,none⟩) ((mB #[38,35,49,48,59]).size) cap27)] (.slice a22 ((0+1)+1) cap23)) 248 (0,0))]::g20::[(b,.cells #[.int .u32 0,.int .i32 1,.int .u32 0,.nilIface,.slice a 4 cap] 213 (0,0))]::g::H) (hoff:=Nat.le_of_ble_eq_true kr) (hfz:=(fun _ _=>E0)) (k:=B5 (E':=[⟨3,[],.slice a 4 cap⟩,⟨11,[],pt b2⟩,⟨12,[],.int .i64 0⟩]) [] [3,11,12] (k:=?_))
  refine C6 (A0 ?_)
  refine G_p [0,0,0] [3,11,12] (k:=N_rd ?_)
  refine G1 (A1 ?_)
  refine A1 (G_p [0,0] [3,11,12,100] (k:=?_))
  refine A0 (D3 kr ?_)
  refine H7 (B0 ?_)
  refine B0 (C7 ?_)
  refine A0 (A1 ?_)
  refine C3 (E':=[⟨2,[],.iface 249 (pt b2)⟩]) [0,0] [2] (k:=A0 ?_)
  refine C5 (C1 (H':=(g28::[(b18,.cells #[.string (mB #[10])] 9 (0,0))]::[(b17,.cells #[.int .u8 10] 5 (0,0))]::g14::[(b4,.cells #[.string (mB #[9])] 9 (0,0))]::[(b2,.cells (bsr [(9,.slice (some ⟨b12,0,none⟩) ((mB #[38,35,57,59]).size) cap13),(10,.slice (some ⟨b26,0,none⟩) ((mB #[38,35,49,48,59]).size) cap27)] (.slice a22 ((0+1)+1) cap23)) 248 (0,0))]::g20::[(b,.cells #[.int .u32 0,.int .i32 1,.int .u32 0,.nilIface,.slice a 4 cap] 213 (0,0))]::g::H)) (fun w h=>h.erase 5) ?_)
  refine C1 (H':=(g28::[(b18,.cells #[.string (mB #[10])] 9 (0,0))]::[(b17,.cells #[.int .u8 10] 5 (0,0))]::g14::[(b2,.cells (bsr [(9,.slice (some ⟨b12,0,none⟩) ((mB #[38,35,57,59]).size) cap13),(10,.slice (some ⟨b26,0,none⟩) ((mB #[38,35,49,48,59]).size) cap27)] (.slice a22 ((0+1)+1) cap23)) 248 (0,0))]::g20::[(b,.cells #[.int .u32 0,.int .i32 1,.int .u32 0,.nilIface,.slice a 4 cap] 213 (0,0))]::g::H)) (fun w h=>h.erase 4) (C1 (H':=(g28::[(b18,.cells #[.string (mB #[10])] 9 (0,0))]::g14::[(b2,.cells (bsr [(9,.slice (some ⟨b12,0,none⟩) ((mB #[38,35,57,59]).size) cap13),(10,.slice (some ⟨b26,0,none⟩) ((mB #[38,35,49,48,59]).size) cap27)] (.slice a22 ((0+1)+1) cap23)) 248 (0,0))]::g20::[(b,.cells #[.int .u32 0,.int .i32 1,.int .u32 0,.nilIface,.slice a 4 cap] 213 (0,0))]::g::H)) (fun w h=>h.erase 2) ?_)
  refine C1 (H':=(g28::g14::[(b2,.cells (bsr [(9,.slice (some ⟨b12,0,none⟩) ((mB #[38,35,57,59]).size) cap13),(10,.slice (some ⟨b26,0,none⟩) ((mB #[38,35,49,48,59]).size) cap27)] (.slice a22 ((0+1)+1) cap23)) 248 (0,0))]::g20::[(b,.cells #[.int .u32 0,.int .i32 1,.int .u32 0,.nilIface,.slice a 4 cap] 213 (0,0))]::g::H)) (fun w h=>h.erase 1) (C1 (H':=([(b2,.cells (bsr [(9,.slice (some ⟨b12,0,none⟩) ((mB #[38,35,57,59]).size) cap13),(10,.slice (some ⟨b26,0,none⟩) ((mB #[38,35,49,48,59]).size) cap27)] (.slice a22 ((0+1)+1) cap23)) 248 (0,0))]::g20::g28::g14::[(b,.cells #[.int .u32 0,.int .i32 1,.int .u32 0,.nilIface,.slice a 4 cap] 213 (0,0))]::g::H)) (fun w h=>((((((h.front (j:=5) rfl).front (j:=5) rfl).front (j:=3) rfl).front (j:=3) rfl).front (j:=5) rfl).front (j:=5) rfl)) ?_)
  refine B9 [.tmp 2] [.iface 249 (pt b2)] (k:=?_)
  refine ⟨b2,a22,cap23,g20,b26,cap27,g28,b12,cap13,g14,rfl,?_,⟨hrd30,hrd16⟩,?_⟩
  · exact hO21
  · kernel_rfl
def quoRep (g:Grp) (x:Value) (K:List Grp):Prop:=∃ c aT cT gT a10 c10 g10 a9 c9 g9,x=.iface 249 (pt c)∧Go.Sw.Own 9 1 (.slice aT 2 cT) gT 2 W9∧(Rd (inG g10) (some ⟨a10,0,none⟩) (u8s (mB #[38,35,49,48,59]).data.toList)∧Rd (inG g9) (some ⟨a9,0,none⟩) (u8s (mB #[38,35,57,59]).data.toList))∧K=[[(c,.cells (bsr [(9,.slice (some ⟨a9,0,none⟩) 4 c9),(10,.slice (some ⟨a10,0,none⟩) 5 c10)] (.slice aT 2 cT)) 248 (0,0))],gT,g10,g9,g]
theorem buildOnceQ_ (b:Nat) (a:Option Addr) (cap:Nat) (g:Grp) (hr:Rd (inG g) a quoT) (W0:World) (H:List Grp):Tri Tryz.prog 172 #[pt b] W0 ([(b,.cells #[.int .u32 0,.int .i32 1,.int .u32 0,.nilIface,.slice a 4 cap] 213 (0,0))]::g::H) (fun _ H'=>∃ r2 K2,quoRep g r2 K2∧H'=repG b 0 1 r2 (.slice none 0 0)::(K2++H)):=by
 refine D0 (args:=[pt b]) (n:=10) Tryz.func172 rfl rfl (Nat.le_of_ble_eq_true rfl) ?_
 refine A1 (A3 ?_)
 refine A4 (j:=2) [0,0] (k:=E7 Tryz.func190 (buildQ_ b a cap g hr _ _) ?_)
 rintro _ _ ⟨c,aT,cT,gT,a10,c10,g10,a9,c9,g9,rfl,hT,hR,rfl⟩
 refine A4 (j:=5) [0,0] (k:=E2 (ch:=[]) (b:=b) (off:=3) (v:=.iface 249 (pt c)) (j:=4) ([(c,.cells (bsr [(9,.slice (some ⟨a9,0,none⟩) 4 c9),(10,.slice (some ⟨a10,0,none⟩) 5 c10)] (.slice aT 2 cT)) 248 (0,0))]::gT::g10::g9::[(b,.cells #[.int .u32 0,.int .i32 1,.int .u32 0,.iface 249 (pt c),.slice a 4 cap] 213 (0,0))]::g::H) (hoff:=Nat.le_of_ble_eq_true rfl) (hfz:=(fun _ _=>E0)) (k:=?_))
 refine B5 (E':=[⟨0,[],pt b⟩]) [] [0] (k:=A0 ?_)
 refine A3 (A4 (j:=3) [0,0,0] (k:=?_))
 refine E2 (ch:=[]) (b:=b) (off:=4) (v:=.slice none 0 0) (j:=4) ([(c,.cells (bsr [(9,.slice (some ⟨a9,0,none⟩) 4 c9),(10,.slice (some ⟨a10,0,none⟩) 5 c10)] (.slice aT 2 cT)) 248 (0,0))]::gT::g10::g9::[(b,.cells #[.int .u32 0,.int .i32 1,.int .u32 0,.iface 249 (pt c),.slice none 0 0] 213 (0,0))]::g::H) (hoff:=Nat.le_of_ble_eq_true rfl) (hfz:=(fun _ _=>E0)) (k:=B5 (E':=[]) [] [] (k:=?_))
 refine C1 (H':=([(b,.cells #[.int .u32 0,.int .i32 1,.int .u32 0,.iface 249 (pt c),.slice none 0 0] 213 (0,0))]::[(c,.cells (bsr [(9,.slice (some ⟨a9,0,none⟩) 4 c9),(10,.slice (some ⟨a10,0,none⟩) 5 c10)] (.slice aT 2 cT)) 248 (0,0))]::gT::g10::g9::g::H)) (fun w h=>((((((h.front (j:=5) rfl).front (j:=4) rfl).front (j:=4) rfl).front (j:=4) rfl).front (j:=4) rfl).front (j:=5) rfl)) (B9 [] [] (k:=?_))
 exact ⟨_,_,⟨c,aT,cT,gT,a10,c10,g10,a9,c9,g9,rfl,hT,hR,rfl⟩,rfl⟩
theorem quoOnce (b:Nat) (a:Option Addr) (cap:Nat) (g:Grp) (hr:Rd (inG g) a quoT) (W0:World) (H:List Grp):Tri Tryz.prog 171 #[pt b,.func (.func 172) #[pt b] #[]] W0 (repG b 0 0 .nilIface (.slice a 4 cap)::([g]++H)) (fun _ H'=>∃ r2 K2,quoRep g r2 K2∧H'=repG b 1 0 r2 (.slice none 0 0)::(K2++H)) :=
  onceDo_ b .nilIface (.slice a 4 cap) (.slice none 0 0) [g] (quoRep g) (fun W0 H=>buildOnceQ_ b a cap g hr W0 H) W0 H
theorem repReplaceQ_ (b:Nat) (a:Option Addr) (cap:Nat) (g:Grp) (hr:Rd (inG g) a quoT) (x y:ByteArray) (hrep:∀ c aT cT gT a10 c10 g10 a9 c9 g9 W0 H,Go.Sw.Own 9 1 (.slice aT 2 cT) gT 2 W9→(Rd (inG g10) (some ⟨a10,0,none⟩) (u8s (mB #[38,35,49,48,59]).data.toList)∧Rd (inG g9) (some ⟨a9,0,none⟩) (u8s (mB #[38,35,57,59]).data.toList))→Tri Tryz.prog 284 #[pt c,.string x] W0 ([(c,.cells (bsr [(9,.slice (some ⟨a9,0,none⟩) 4 c9),(10,.slice (some ⟨a10,0,none⟩) 5 c10)] (.slice aT 2 cT)) 248 (0,0))]::gT::g10::g9::H) (fun v H'=>v=.string y∧H'=[(c,.cells (bsr [(9,.slice (some ⟨a9,0,none⟩) 4 c9),(10,.slice (some ⟨a10,0,none⟩) 5 c10)] (.slice aT 2 cT)) 248 (0,0))]::gT::g10::g9::H)) (W0:World) (H:List Grp):Tri Tryz.prog 149 #[pt b,.string x] W0 ([(b,.cells #[.int .u32 0,.int .i32 0,.int .u32 0,.nilIface,.slice a 4 cap] 213 (0,0))]::g::H) (fun v H'=>v=.string y∧H'=H):=by
 refine D0 (args:=[pt b,.string x]) (n:=17) Tryz.func149 rfl rfl (Nat.le_of_ble_eq_true rfl) ?_
 refine A1 (C3 (E':=[⟨0,[],pt b⟩,⟨1,[],.string x⟩]) [0] [0,1] (k:=?_))
 refine A0 (A1 ?_)
 refine A3 (A4 (j:=5) [0,0,0,0,0] (k:=?_))
 refine E7 Tryz.func171 (quoOnce b a cap g hr _ _) ?_
 rintro _ _ ⟨_,_,⟨c,aT,cT,gT,a10,c10,g10,a9,c9,g9,rfl,hT,hR,rfl⟩,rfl⟩
 refine B5 (E':=[⟨0,[],pt b⟩,⟨1,[],.string x⟩]) [] [0,1] (k:=A0 ?_)
 refine A1 (A3 ?_)
 refine A4 (j:=3) [0,0,0] (k:=A6 (ch:=[]) (b:=b) (off:=3) (v:=.iface 249 (pt c)) (hA:=At.grp 0 0 rfl rfl) (k:=?_))
 refine A4 (j:=5) [0] (k:=H4 rfl (H':=([(c,.cells (bsr [(9,.slice (some ⟨a9,0,none⟩) 4 c9),(10,.slice (some ⟨a10,0,none⟩) 5 c10)] (.slice aT 2 cT)) 248 (0,0))]::gT::g10::g9::[(b,.cells #[.int .u32 1,.int .i32 0,.int .u32 0,.iface 249 (pt c),.slice none 0 0] 213 (0,0))]::g::H)) (fun w h=>((((h.front (j:=4) rfl).front (j:=4) rfl).front (j:=4) rfl).front (j:=4) rfl)) ?_)
 refine Q8 (t:=249) (rv:=pt c) (f:=284) (vs:=[.string x]) (av:=#[pt c,.string x]) (hm:=(fun _=>by kernel_rfl)) (hc:=hrep c aT cT gT a10 c10 g10 a9 c9 g9 _ _ hT hR) (k:=?_)
 rintro _ _ ⟨rfl,rfl⟩
 refine B5 (E':=[⟨4,[],.string y⟩]) [0] [4] (k:=A0 ?_)
 refine C5 (C1 (H':=([(c,.cells (bsr [(9,.slice (some ⟨a9,0,none⟩) 4 c9),(10,.slice (some ⟨a10,0,none⟩) 5 c10)] (.slice aT 2 cT)) 248 (0,0))]::gT::g10::g9::[(b,.cells #[.int .u32 1,.int .i32 0,.int .u32 0,.iface 249 (pt c),.slice none 0 0] 213 (0,0))]::H)) (fun w h=>h.erase 5) ?_)
 refine C1 (H':=([(c,.cells (bsr [(9,.slice (some ⟨a9,0,none⟩) 4 c9),(10,.slice (some ⟨a10,0,none⟩) 5 c10)] (.slice aT 2 cT)) 248 (0,0))]::gT::g10::g9::H)) (fun w h=>h.erase 4) (C1 (H':=([(c,.cells (bsr [(9,.slice (some ⟨a9,0,none⟩) 4 c9),(10,.slice (some ⟨a10,0,none⟩) 5 c10)] (.slice aT 2 cT)) 248 (0,0))]::gT::g10::H)) (fun w h=>h.erase 3) ?_)
 refine C1 (H':=([(c,.cells (bsr [(9,.slice (some ⟨a9,0,none⟩) 4 c9),(10,.slice (some ⟨a10,0,none⟩) 5 c10)] (.slice aT 2 cT)) 248 (0,0))]::gT::H)) (fun w h=>h.erase 2) (C1 (H':=([(c,.cells (bsr [(9,.slice (some ⟨a9,0,none⟩) 4 c9),(10,.slice (some ⟨a10,0,none⟩) 5 c10)] (.slice aT 2 cT)) 248 (0,0))]::H)) (fun w h=>h.erase 1) ?_)
 refine C1 (H':=H) (fun w h=>h.erase 0) (B9 [.tmp 4] [.string y] (k:=?_))
 exact ⟨rfl,rfl⟩
end Go.Proofs.YtppgfiklmfoaeaaGreatDoor
namespace Go.Esc
def E8 (b:UInt8):Option (List UInt8):=if b=10 then some [38,35,49,48,59] else if b=9 then some [38,35,57,59] else none
theorem quoR_count (l:List UInt8):((C0 E8 l).length:Int)=l.length+(l.count 9:Int) * 3+(l.count 10:Int) * 4:=by
  rw [outR_len]
  induction l with
  | nil=>rfl
  | cons b l ih =>
    simp only [List.map_cons,List.sum_cons,List.length_cons,List.count_cons]
    have hg:gainR E8 b=(if (b==9)=true then 3 else 0)+(if (b==10)=true then 4 else 0):=by
      unfold gainR E8
      by_cases h1:b=10
      · subst h1; rfl
      by_cases h2:b=9
      · subst h2; rfl
      simp [h1,h2]
    rw [hg]
    split <;> split <;> omega
theorem quoR_same (l:List UInt8) (h1:l.count 9=0) (h2:l.count 10=0):C0 E8 l=l:=by
  refine outR_same _ _ fun b hb=>?_
  unfold E8
  rw [List.count_eq_zero] at h1 h2
  have n1:b≠9:=by rintro rfl; exact h1 hb
  have n2:b≠10:=by rintro rfl; exact h2 hb
  rw [if_neg n2,if_neg n1]
end Go.Esc
namespace Go.Proofs.YtppgfiklmfoaeaaGreatDoor
open Go.Sw Go.Esc
theorem tabQ_case (t a10 a9 c10 c9:_) (x:UInt8) :
    (∃ A L C u,(A,L,C,u)∈[(a10,5,c10,[38,35,49,48,59]),(a9,4,c9,[38,35,57,59])]∧E8 x=some u∧L=u.length ∧
      (bsr [(9,.slice (some ⟨a9,0,none⟩) 4 c9),(10,.slice (some ⟨a10,0,none⟩) 5 c10)] t)[x.toNat]? = some (.slice (some ⟨A,0,none⟩) L C)) ∨
    (E8 x=none∧(bsr [(9,.slice (some ⟨a9,0,none⟩) 4 c9),(10,.slice (some ⟨a10,0,none⟩) 5 c10)] t)[x.toNat]? = some (.slice none 0 0)):=by
  have hx:=x.toNat_lt
  unfold bsr
  rw [List.getElem?_toArray,List.getElem?_append_left (by simpa using hx),List.getElem?_map,List.getElem?_range hx]
  simp only [Option.map_some]
  by_cases h1:x=10
  · subst h1; exact .inl ⟨a10,5,c10,_,by simp,rfl,rfl,rfl⟩
  by_cases h2:x=9
  · subst h2; exact .inl ⟨a9,4,c9,_,by simp,rfl,rfl,rfl⟩
  refine .inr ⟨by simp [E8,h1,h2],?_⟩
  have n1:x.toNat≠10:=fun h=>h1 (UInt8.toNat_inj.1 h)
  have n2:x.toNat≠9:=fun h=>h2 (UInt8.toNat_inj.1 h)
  have e:∀ (k m:Nat),m≠k→(m==k)=false:=fun k m h=>beq_eq_false_iff_ne.2 h
  simp only [List.lookup,e _ _ n1,e _ _ n2,Option.getD_none]
end Go.Proofs.YtppgfiklmfoaeaaGreatDoor
namespace Go.Proofs.YtppgfiklmfoaeaaGreatDoor
open Go.Sw Go.Esc
theorem tab_rowQ {a10 c10 a9 c9:Nat} {g10 g9:Grp} (h:Rd (inG g10) (some ⟨a10,0,none⟩) (u8s (mB #[38,35,49,48,59]).data.toList)∧Rd (inG g9) (some ⟨a9,0,none⟩) (u8s (mB #[38,35,57,59]).data.toList)) {A L C:Nat} {u:List UInt8} (hm:(A,L,C,u)∈[(a10,5,c10,([38,35,49,48,59]:List UInt8)),(a9,4,c9,[38,35,57,59])]) (W0:World) (X Y Z:Grp) (H:List Grp) :
    ∃ Q,Rd Q (some ⟨A,0,none⟩) (u8s u)∧∀ y o,Q y o→At W0 (X::Y::Z::([g10,g9]++H)) y o:=by
  obtain ⟨h1,h2⟩:=h
  have at5:∀ g,g∈[g10,g9]→∀ y o,inG g y o→At W0 (X::Y::Z::([g10,g9]++H)) y o:=fun g hg y o h=>At.mem (List.mem_cons_of_mem _ (List.mem_cons_of_mem _ (List.mem_cons_of_mem _ (List.mem_append_left H hg)))) h
  simp only [List.mem_cons,List.not_mem_nil,or_false,Prod.mk.injEq] at hm
  rcases hm with ⟨rfl,rfl,rfl,rfl⟩ | ⟨rfl,rfl,rfl,rfl⟩
  · exact ⟨_,h1,at5 _ (by simp)⟩
  · exact ⟨_,h2,at5 _ (by simp)⟩
def anyRQ (l:List UInt8):Bool:=l.any fun b=>(E8 b).isSome
theorem anyR_snocQ (l:List UInt8) (b:UInt8):anyRQ (l++[b])=(anyRQ l||(E8 b).isSome):=by simp [anyRQ]
theorem P9 (b:UInt8) {u:List UInt8} (h:E8 b=some u):C0 E8 [b]=u:=by simp [C0,h]
theorem O4 (b:UInt8) (h:E8 b=none):C0 E8 [b]=[b]:=by simp [C0,h]
theorem anyR_sameQ (l:List UInt8) (h:anyRQ l=false):C0 E8 l=l:=by
  refine outR_same _ _ fun b hb=>?_
  unfold anyRQ at h
  rw [List.any_eq_false] at h
  have:=h b hb
  cases hr:E8 b with
  | none=>rfl
  | some u=>rw [hr] at this; exact absurd rfl this
theorem X0 (l:List UInt8) {i:Nat} (h:i<l.length):C0 E8 l=C0 E8 (l.take i)++(C0 E8 [l.getD i 0]++C0 E8 (l.drop (i+1))):=by
  rw [← M1,← M1,← List.append_assoc,← J9 l h,List.take_append_drop]
theorem u_posQ {b:UInt8} {u:List UInt8} (h:E8 b=some u):4≤u.length∧u.length≤6:=by
  unfold E8 at h
  (repeat' split at h) <;> first | (injection h with h; subst h; exact ⟨by decide,by decide⟩) | cases h
theorem outR_le6Q (l:List UInt8):l.length≤(C0 E8 l).length∧(C0 E8 l).length≤6 * l.length:=by
  induction l with
  | nil=>exact ⟨Nat.le_refl _,Nat.le_refl _⟩
  | cons b l ih =>
    rw [V7,List.length_append,List.length_cons]
    have:1≤((E8 b).getD [b]).length∧((E8 b).getD [b]).length≤6:=by
      cases h:E8 b with
      | none=>exact ⟨Nat.le_refl _,by show 1≤6; decide⟩
      | some u=>have:=u_posQ h; show 1≤u.length∧u.length≤6; omega
    omega
theorem count_9 (s:ByteArray) (W0:World) (H:List Grp):Tri Tryz.prog 204 #[.string s,.string (mB #[9])] W0 H (fun v H'=>v=.int .i64 (s.data.toList.count 9:Int)∧H'=H):=by
 refine D0 (args:=[.string s,.string (mB #[9])]) (n:=34) Tryz.func204 rfl rfl (Nat.le_of_ble_eq_true rfl) ?_
 refine A1 (G_p [0] [0,1] (k:=?_))
 refine A0 (A1 ?_)
 refine A1 (G_p [0,0,0] [0,1,9] (k:=?_))
 refine A0 (D3 kr ?_)
 refine B4 (A0 ?_)
 refine A1 (A1 ?_)
 refine G_p [0,0,0] [0,1,15] (k:=A0 ?_)
 refine C4 kr (A1 ?_)
 refine A3 (A4 (j:=2) [0,0] (k:=?_))
 refine H3 (ch:=[]) (s:=(mB #[9])) (kd:=.i64) (j:=0) (hb:=(fun _=>by decide)) (k:=P4 (ch:=[]) (f:=223) (vs:=[.string s,.int .u8 9]) (v:=.int .i64 (s.data.toList.count 9:Int)) (e:=Extern.BytealgCount.count) (hf:=Tryz.func223) (hrun:=(fun w=>run_cnt s 9 w)) (k:=?_))
 refine B1 [0] [4] (k:=A0 ?_)
 refine C5 (B2 ?_)
 refine B9 [.tmp 4] [.int .i64 (s.data.toList.count 9:Int)] (k:=?_)
 exact ⟨rfl,rfl⟩
theorem count_10 (s:ByteArray) (W0:World) (H:List Grp):Tri Tryz.prog 204 #[.string s,.string (mB #[10])] W0 H (fun v H'=>v=.int .i64 (s.data.toList.count 10:Int)∧H'=H):=by
 refine D0 (args:=[.string s,.string (mB #[10])]) (n:=34) Tryz.func204 rfl rfl (Nat.le_of_ble_eq_true rfl) ?_
 refine A1 (G_p [0] [0,1] (k:=?_))
 refine A0 (A1 ?_)
 refine A1 (G_p [0,0,0] [0,1,9] (k:=?_))
 refine A0 (D3 kr ?_)
 refine B4 (A0 ?_)
 refine A1 (A1 ?_)
 refine G_p [0,0,0] [0,1,15] (k:=A0 ?_)
 refine C4 kr (A1 ?_)
 refine A3 (A4 (j:=2) [0,0] (k:=?_))
 refine H3 (ch:=[]) (s:=(mB #[10])) (kd:=.i64) (j:=0) (hb:=(fun _=>by decide)) (k:=P4 (ch:=[]) (f:=223) (vs:=[.string s,.int .u8 10]) (v:=.int .i64 (s.data.toList.count 10:Int)) (e:=Extern.BytealgCount.count) (hf:=Tryz.func223) (hrun:=(fun w=>run_cnt s 10 w)) (k:=?_))
 refine B1 [0] [4] (k:=A0 ?_)
 refine C5 (B2 ?_)
 refine B9 [.tmp 4] [.int .i64 (s.data.toList.count 10:Int)] (k:=?_)
 exact ⟨rfl,rfl⟩
theorem tabReplaceQ_ (c c10 c9:Nat) (aT:Option Addr) (cT:Nat) (gT:Grp) (a10 a9:Nat) (g10 g9:Grp) (s:ByteArray) (hs:s.size≤2000000) (hT:Go.Sw.Own 9 1 (.slice aT 2 cT) gT 2 W9) (hR:Rd (inG g10) (some ⟨a10,0,none⟩) (u8s (mB #[38,35,49,48,59]).data.toList)∧Rd (inG g9) (some ⟨a9,0,none⟩) (u8s (mB #[38,35,57,59]).data.toList)) (W0:World) (H:List Grp):Tri Tryz.prog 284 #[pt c,.string s] W0 ([(c,.cells (bsr [(9,.slice (some ⟨a9,0,none⟩) 4 c9),(10,.slice (some ⟨a10,0,none⟩) 5 c10)] (.slice aT 2 cT)) 248 (0,0))]::gT::g10::g9::H) (fun v H'=>v=.string ⟨(C0 E8 s.data.toList).toArray⟩∧H'=([(c,.cells (bsr [(9,.slice (some ⟨a9,0,none⟩) 4 c9),(10,.slice (some ⟨a10,0,none⟩) 5 c10)] (.slice aT 2 cT)) 248 (0,0))]::gT::g10::g9::H)):=by
 have hrT:Rd (inG gT) aT W9:=by
  obtain ⟨a',c',he,_,hr⟩:=hT.shape
  injection he with h1 h2 h3; subst h1; exact hr
 have ho6:=outR_le6Q s.data.toList
 rw [show s.data.toList.length=s.size from Array.length_toList] at ho6
 have hlen:s.data.toList.length=s.size:=Array.length_toList
 have hcnt10:=List.count_le_length (a:=(10:UInt8)) (l:=s.data.toList)
 have hcnt9:=List.count_le_length (a:=(9:UInt8)) (l:=s.data.toList)
 refine D0 (args:=[pt c,.string s]) (n:=122) Tryz.func284 rfl rfl (Nat.le_of_ble_eq_true rfl) ?_
 refine A1 (C3 (E':=[⟨0,[],pt c⟩,⟨1,[],.string s⟩]) [0] [0,1] (k:=?_))
 refine A0 (A1 ?_)
 refine G_p [0,0,0] [0,1,5] (k:=A0 ?_)
 refine A1 (G_p [0] [0,1,5,6] (k:=?_))
 refine A0 (A1 ?_)
 refine A1 (A3 ?_)
 refine A4 (j:=3) [0,0,0] (k:=A6 (ch:=[]) (b:=c) (off:=256) (v:=.slice aT 2 cT) (hA:=At.grp 0 0 rfl rfl) (hv:=kr) (k:=?_))
 refine B1 [0,0,0,0,0] [0,1,5,6,26] (k:=A0 ?_)
 refine Q7 (T:=Int × Bool) (fun ξ:Int × Bool=>[⟨0,[],pt c⟩,⟨1,[],.string s⟩,⟨5,[],.int .i64 ξ.1⟩,⟨6,[],.bool ξ.2⟩]) (fun ξ:Int × Bool=>([(c,.cells (bsr [(9,.slice (some ⟨a9,0,none⟩) 4 c9),(10,.slice (some ⟨a10,0,none⟩) 5 c10)] (.slice aT 2 cT)) 248 (0,0))]::gT::g10::g9::H)) (fun ξ:Int × Bool=>(ξ.1=((C0 E8 s.data.toList).length:Int))∧(ξ.2=false→(C0 E8 s.data.toList)=s.data.toList)) ?_ ?_
 ·
  refine B7 (b:=decide (16≤(s.size:Int))) kr (fun hc1=>?_) (fun hc1=>?_)
  ·
   try simp only [decide_eq_true_eq] at hc1
   refine A1 (A3 ?_)
   refine A4 (j:=3) [0,0,0] (k:=A6 (ch:=[]) (b:=c) (off:=256) (v:=.slice aT 2 cT) (hA:=At.grp 0 0 rfl rfl) (hv:=kr) (k:=?_))
   refine B1 [0,0] [0,1,5,6,30,31,32] (k:=A0 ?_)
   refine B8 (N9 3 ?_)
   refine G1 (A1 ?_)
   refine G_p [0] [0,1,5,6,30,31,32,33] (k:=A0 ?_)
   refine A1 (C4 kr ?_)
   refine B4 (A0 ?_)
   refine A1 (B8 ?_)
   refine A1 (A3 ?_)
   refine A9 (ch:=[]) (a:=aT) (len:=2) (cap:=cT) (kd:=.i64) (j:=0) (e:=9) (sz:=1) (S:=(inG gT)) (cs:=W9) (hrd:=hrT) (hb:=(fun _=>by exact ⟨by decide,by decide,by intro h; cases h⟩)) (k:=F4 (ch:=[]) (a:=aT) (q:=0 * 1) (S:=(inG gT)) (cs:=W9) (v:=.string (mB #[9])) (hrd:=hrT) (hS:=D4 1 rfl) (hv:=(fun _=>rfl)) (k:=?_))
   refine B5 (E':=[⟨0,[],pt c⟩,⟨1,[],.string s⟩,⟨5,[],.int .i64 (s.size:Int)⟩,⟨6,[],.bool false⟩,⟨8,[],.string (mB #[9])⟩,⟨30,[],.slice aT 2 cT⟩,⟨31,[],.int .i64 2⟩,⟨32,[],.int .i64 0⟩]) [0] [0,1,5,6,8,30,31,32] (k:=A0 ?_)
   refine A1 (A3 ?_)
   refine A4 (j:=2) [0,0] (k:=M5 Tryz.func204 (count_9 s _ _) ?_)
   refine B1 [0] [0,1,5,6,8,9,30,31,32] (k:=A0 ?_)
   refine A1 (G_p [0,0] [0,1,5,6,8,9,30,31,32,40] (k:=?_))
   refine A0 (Q7 (T:=Int × Bool) (fun ξ:Int × Bool=>[⟨0,[],pt c⟩,⟨1,[],.string s⟩,⟨5,[],.int .i64 ξ.1⟩,⟨6,[],.bool ξ.2⟩,⟨30,[],.slice aT 2 cT⟩,⟨31,[],.int .i64 2⟩,⟨32,[],.int .i64 0⟩]) (fun ξ:Int × Bool=>([(c,.cells (bsr [(9,.slice (some ⟨a9,0,none⟩) 4 c9),(10,.slice (some ⟨a10,0,none⟩) 5 c10)] (.slice aT 2 cT)) 248 (0,0))]::gT::g10::g9::H)) (fun ξ:Int × Bool=>(ξ.1=(s.size:Int)+(s.data.toList.count 9:Int) * 3)∧(ξ.2=false→false=false∧s.data.toList.count 9=0)) ?_ ?_)
   ·
    refine B7 (b:=(s.data.toList.count 9:Int) != 0) kr (fun hc2=>?_) (fun hc2=>?_)
    ·
     try simp only [decide_eq_true_eq,decide_eq_false_iff_not] at hc2
     refine A1 (I8 (k:=?_))
     refine A4 (j:=4) [0,0,0,0] (k:=H3 (ch:=[]) (s:=(mB #[9])) (kd:=.i64) (j:=0) (hb:=(fun _=>by decide)) (k:=?_))
     refine A4 (j:=7) [0,0] (k:=E6 (ch:=[]) (b:=c) (off:=0) (len:=256) (sz:=1) (e:=22) (kd:=.u8) (j:=9) (hb:=(fun _=>⟨by decide,by decide⟩)) (k:=?_))
     refine A6 (ch:=[]) (b:=c) (off:=9) (v:=.slice (some ⟨a9,0,none⟩) 4 c9) (hA:=At.grp 0 0 rfl rfl) (hv:=kr) (k:=A4 (j:=12) [0,0,0] (k:=?_))
     refine F6 52 ((s.data.toList.count 9:Int) * 3) (by omega) (by omega) kr (A4 (j:=13) [0] (k:=?_))
     refine F6 53 ((s.size:Int)+((s.data.toList.count 9:Int) * 3)) (by omega) (by omega) kr (B1 [0] [0,1,5,30,31,32] (k:=?_))
     refine A0 (G_p [0] [0,1,5,6,30,31,32] (k:=?_))
     refine H0 ((s.size:Int)+((s.data.toList.count 9:Int) * 3),true) [0,1,5,6,30,31,32] kr (fun w h=>h) ⟨(by first | rfl | (simp only [bne_eq_false_iff_eq] at *; omega)),(by intro h; dsimp only at h; first | exact Bool.noConfusion h | (simp only [bne_eq_false_iff_eq] at *; exact ⟨h,by omega⟩))⟩
    ·
     try simp only [decide_eq_true_eq,decide_eq_false_iff_not] at hc2
     refine B4 (H0 ((s.size:Int),false) [0,1,5,6,30,31,32] kr (fun w h=>h) ⟨(by first | rfl | (simp only [bne_eq_false_iff_eq] at *; omega)),(by intro h; dsimp only at h; first | exact Bool.noConfusion h | (simp only [bne_eq_false_iff_eq] at *; exact ⟨h,by omega⟩))⟩)
   ·
    rintro ⟨n1,b1⟩ ⟨hn1,hb1⟩
    refine C6 (A0 ?_)
    refine G_p [0,0] [0,1,5,6,30,31,32] (k:=N_rd ?_)
    refine G1 (A1 ?_)
    refine G_p [0] [0,1,5,6,30,31,32,33] (k:=A0 ?_)
    refine A1 (C4 kr ?_)
    refine B4 (A0 ?_)
    refine A1 (B8 ?_)
    refine A1 (A3 ?_)
    refine A9 (ch:=[]) (a:=aT) (len:=2) (cap:=cT) (kd:=.i64) (j:=1) (e:=9) (sz:=1) (S:=(inG gT)) (cs:=W9) (hrd:=hrT) (hb:=(fun _=>by exact ⟨by decide,by decide,by intro h; cases h⟩)) (k:=F4 (ch:=[]) (a:=aT) (q:=1 * 1) (S:=(inG gT)) (cs:=W9) (v:=.string (mB #[10])) (hrd:=hrT) (hS:=D4 1 rfl) (hv:=(fun _=>rfl)) (k:=?_))
    refine B1 [0] [0,1,5,6,8,30,31,32] (k:=A0 ?_)
    refine A1 (A3 ?_)
    refine A4 (j:=2) [0,0] (k:=M5 Tryz.func204 (count_10 s _ _) ?_)
    refine B1 [0] [0,1,5,6,8,9,30,31,32] (k:=A0 ?_)
    refine A1 (G_p [0,0] [0,1,5,6,8,9,30,31,32,40] (k:=?_))
    refine A0 (Q7 (T:=Int × Bool) (fun ξ:Int × Bool=>[⟨0,[],pt c⟩,⟨1,[],.string s⟩,⟨5,[],.int .i64 ξ.1⟩,⟨6,[],.bool ξ.2⟩,⟨30,[],.slice aT 2 cT⟩,⟨31,[],.int .i64 2⟩,⟨32,[],.int .i64 1⟩]) (fun ξ:Int × Bool=>([(c,.cells (bsr [(9,.slice (some ⟨a9,0,none⟩) 4 c9),(10,.slice (some ⟨a10,0,none⟩) 5 c10)] (.slice aT 2 cT)) 248 (0,0))]::gT::g10::g9::H)) (fun ξ:Int × Bool=>(ξ.1=n1+(s.data.toList.count 10:Int) * 4)∧(ξ.2=false→b1=false∧s.data.toList.count 10=0)) ?_ ?_)
    ·
     refine B7 (b:=(s.data.toList.count 10:Int) != 0) kr (fun hc5=>?_) (fun hc5=>?_)
     ·
      try simp only [decide_eq_true_eq,decide_eq_false_iff_not] at hc5
      refine A1 (I8 (k:=?_))
      refine A4 (j:=4) [0,0,0,0] (k:=H3 (ch:=[]) (s:=(mB #[10])) (kd:=.i64) (j:=0) (hb:=(fun _=>by decide)) (k:=?_))
      refine A4 (j:=7) [0,0] (k:=E6 (ch:=[]) (b:=c) (off:=0) (len:=256) (sz:=1) (e:=22) (kd:=.u8) (j:=10) (hb:=(fun _=>⟨by decide,by decide⟩)) (k:=?_))
      refine A6 (ch:=[]) (b:=c) (off:=10) (v:=.slice (some ⟨a10,0,none⟩) 5 c10) (hA:=At.grp 0 0 rfl rfl) (hv:=kr) (k:=A4 (j:=12) [0,0,0] (k:=?_))
      refine F6 52 ((s.data.toList.count 10:Int) * 4) (by omega) (by omega) kr (A4 (j:=13) [0] (k:=?_))
      refine F6 53 (n1+((s.data.toList.count 10:Int) * 4)) (by omega) (by omega) kr (B5 (E':=[⟨0,[],pt c⟩,⟨1,[],.string s⟩,⟨5,[],.int .i64 (n1+((s.data.toList.count 10:Int) * 4))⟩,⟨30,[],.slice aT 2 cT⟩,⟨31,[],.int .i64 2⟩,⟨32,[],.int .i64 1⟩]) [0] [0,1,5,30,31,32] (k:=?_))
      refine A0 (G_p [0] [0,1,5,6,30,31,32] (k:=?_))
      refine H0 (n1+((s.data.toList.count 10:Int) * 4),true) [0,1,5,6,30,31,32] kr (fun w h=>h) ⟨(by first | rfl | (simp only [bne_eq_false_iff_eq] at *; omega)),(by intro h; dsimp only at h; first | exact Bool.noConfusion h | (simp only [bne_eq_false_iff_eq] at *; exact ⟨h,by omega⟩))⟩
     ·
      try simp only [decide_eq_true_eq,decide_eq_false_iff_not] at hc5
      refine B4 (H0 (n1,b1) [0,1,5,6,30,31,32] kr (fun w h=>h) ⟨(by first | rfl | (simp only [bne_eq_false_iff_eq] at *; omega)),(by intro h; dsimp only at h; first | exact Bool.noConfusion h | (simp only [bne_eq_false_iff_eq] at *; exact ⟨h,by omega⟩))⟩)
    ·
     rintro ⟨n2,b2⟩ ⟨hn2,hb2⟩
     refine C6 (A0 ?_)
     refine G_p [0,0] [0,1,5,6,30,31,32] (k:=N_rd ?_)
     refine G1 (A1 ?_)
     refine G_p [0] [0,1,5,6,30,31,32,33] (k:=A0 ?_)
     refine A1 (D3 kr ?_)
     refine H7 (B0 ?_)
     refine B0 (C7 ?_)
     refine H0 (n2,b2) [0,1,5,6] kr (fun w h=>h) ⟨(by rw [quoR_count,show s.data.toList.length=s.size from Array.length_toList]; omega),(by intro h; obtain ⟨h1,h2⟩:=hb2 h; obtain ⟨_,h4⟩:=hb1 h1; exact quoR_same _ h4 h2)⟩
  ·
   try simp only [decide_eq_false_iff_not] at hc1
   refine A1 (G_p [0] [0,1,5,6,10] (k:=?_))
   refine A0 (B8 ?_)
   refine L4 (EI:=(fun ξ:Nat × Int × Bool=>[⟨0,[],pt c⟩,⟨1,[],.string s⟩,⟨5,[],.int .i64 ξ.2.1⟩,⟨6,[],.bool ξ.2.2⟩,⟨10,[],.int .i64 (ξ.1:Int)⟩])) (HI:=(fun ξ:Nat × Int × Bool=>([(c,.cells (bsr [(9,.slice (some ⟨a9,0,none⟩) 4 c9),(10,.slice (some ⟨a10,0,none⟩) 5 c10)] (.slice aT 2 cT)) 248 (0,0))]::gT::g10::g9::H))) (Φ:=(fun ξ:Nat × Int × Bool=>(ξ.1≤s.size)∧(ξ.2.1=((C0 E8 (s.data.toList.take ξ.1)).length:Int)+s.size - ξ.1)∧(ξ.2.2=anyRQ (s.data.toList.take ξ.1)))) (μ:=(fun ξ:Nat × Int × Bool=>s.size - ξ.1)) (s0:=(0,(s.size:Int),false)) [0,1,5,6,10] kr rfl ⟨(by omega),(by dsimp only; simp [outR_nil]),rfl⟩ ?_
   rintro ⟨i,ns,ac⟩ ⟨hi,hns,hac⟩
   dsimp only at hi hns hac
   have hto:=outR_le6Q (s.data.toList.take i)
   rw [List.length_take,hlen,Nat.min_eq_left hi] at hto
   refine A1 (A1 ?_)
   refine G_p [0,0,0,0] [0,1,5,6,10,58] (k:=A0 ?_)
   refine B7 (b:=decide ((i:Int)<(s.size:Int))) kr (fun hc8=>?_) (fun hc8=>?_)
   ·
    try simp only [decide_eq_true_eq] at hc8
    refine B4 (A0 ?_)
    refine A1 (B8 ?_)
    refine A1 (A3 ?_)
    refine A4 (j:=2) [0,0] (k:=H3 (ch:=[]) (s:=s) (kd:=.i64) (j:=(i:Int)) (hb:=(fun _=>by omega)) (k:=?_))
    have hb9:=J3 s (i:Int)
    refine B1 [0] [0,1,5,6,10,11] (k:=A0 ?_)
    refine A1 (A3 ?_)
    refine A4 (j:=4) [0,0,0,0] (k:=E6 (ch:=[]) (b:=c) (off:=0) (len:=256) (sz:=1) (e:=22) (kd:=.u8) (j:=D7 s (i:Int)) (hb:=(fun _=>by have hbx:=J3 s (i:Int); exact ⟨by omega,by omega⟩)) (k:=?_))
    rcases tabQ_case (.slice aT 2 cT) a10 a9 c10 c9 (s.data.toList.getD i 0) with ⟨A,L,C,u,hmem,hu,hL,hcell⟩ | ⟨hu,hcell⟩
    ·
     have hu4:=u_posQ hu
     have hsp:=congrArg List.length (X0 s.data.toList (show i<s.data.toList.length by omega))
     rw [P9 _ hu] at hsp
     simp only [List.length_append] at hsp
     refine A6 (ch:=[]) (b:=c) (off:=0+Int.toNat (D7 s (i:Int)) * 1) (v:=.slice (some ⟨A,0,none⟩) L C) (hA:=At.grp 0 0 rfl rfl) (hv:=(by rw [R1]; exact hcell)) (k:=B1 [0] [0,1,5,6,10,11,70] (k:=?_))
     refine A0 (C4 kr ?_)
     refine A1 (A3 ?_)
     refine A4 (j:=5) [0,0,0,0,0] (k:=E6 (ch:=[]) (b:=c) (off:=0) (len:=256) (sz:=1) (e:=22) (kd:=.u8) (j:=D7 s (i:Int)) (hb:=(fun _=>by have hbx:=J3 s (i:Int); exact ⟨by omega,by omega⟩)) (k:=?_))
     refine A6 (ch:=[]) (b:=c) (off:=0+Int.toNat (D7 s (i:Int)) * 1) (v:=.slice (some ⟨A,0,none⟩) L C) (hA:=At.grp 0 0 rfl rfl) (hv:=(by rw [R1]; exact hcell)) (k:=A4 (j:=9) [0,0] (k:=?_))
     refine F6 79 (((L:Nat):Int) - 1) (by omega) (by omega) kr (A4 (j:=10) [0] (k:=?_))
     refine F6 80 (ns+(((L:Nat):Int) - 1)) (by omega) (by omega) kr (B1 [0] [0,1,5,10] (k:=?_))
     refine A0 (G_p [0] [0,1,5,6,10] (k:=?_))
     refine C6 (A0 ?_)
     refine A3 (A4 (j:=2) [0,0] (k:=?_))
     refine F6 60 ((i:Int)+1) (by omega) (by omega) kr (B5 (E':=[⟨0,[],pt c⟩,⟨1,[],.string s⟩,⟨5,[],.int .i64 (ns+(((L:Nat):Int) - 1))⟩,⟨6,[],.bool true⟩,⟨10,[],.int .i64 ((i:Int)+1)⟩]) [0] [0,1,5,6,10] (k:=?_))
     refine E9 (s':=(i+1,ns+(((L:Nat):Int) - 1),true)) [0,1,5,6,10] kr rfl ⟨(by omega),(by dsimp only; rw [J9 _ (show i<s.data.toList.length by omega),M1,List.length_append]; first | (rw [P9 _ hu]; omega) | (rw [O4 _ hu]; simp only [List.length_cons,List.length_nil]; omega)),(by dsimp only; rw [J9 _ (show i<s.data.toList.length by omega),anyR_snocQ,hu]; simp [])⟩ (by omega)
    ·
     have hsp:=congrArg List.length (X0 s.data.toList (show i<s.data.toList.length by omega))
     rw [O4 _ hu] at hsp
     simp only [List.length_append,List.length_cons,List.length_nil] at hsp
     refine A6 (ch:=[]) (b:=c) (off:=0+Int.toNat (D7 s (i:Int)) * 1) (v:=.slice none 0 0) (hA:=At.grp 0 0 rfl rfl) (hv:=(by rw [R1]; exact hcell)) (k:=B1 [0] [0,1,5,6,10,11,70] (k:=?_))
     refine A0 (D3 kr ?_)
     refine B4 (C6 ?_)
     refine A0 (A3 ?_)
     refine A4 (j:=2) [0,0] (k:=F6 60 ((i:Int)+1) (by omega) (by omega) kr ?_)
     refine B1 [0] [0,1,5,6,10] (k:=E9 (s':=(i+1,ns,ac)) [0,1,5,6,10] kr rfl ⟨(by omega),(by dsimp only; rw [J9 _ (show i<s.data.toList.length by omega),M1,List.length_append]; first | (rw [P9 _ hu]; omega) | (rw [O4 _ hu]; simp only [List.length_cons,List.length_nil]; omega)),(by dsimp only; rw [J9 _ (show i<s.data.toList.length by omega),anyR_snocQ,hu]; simp [hac])⟩ (by omega))
   ·
    try simp only [decide_eq_false_iff_not] at hc8
    refine H7 (B0 ?_)
    refine B0 (C7 ?_)
    refine H0 (ns,ac) [0,1,5,6] kr (fun w h=>h) ⟨(by rw [show i=s.data.toList.length by rw [show s.data.toList.length=s.size from Array.length_toList]; omega] at hns; rw [List.take_length] at hns; omega),(by intro h; rw [show i=s.data.toList.length by rw [show s.data.toList.length=s.size from Array.length_toList]; omega] at hac; rw [List.take_length] at hac; exact anyR_sameQ _ (by rw [← hac]; exact h))⟩
 ·
  rintro ⟨ns,ac⟩ ⟨hN,hA⟩
  dsimp only at hN hA
  refine W4 (E':=[⟨0,[],pt c⟩,⟨1,[],.string s⟩,⟨5,[],.int .i64 ((C0 E8 s.data.toList).length:Int)⟩,⟨6,[],.bool ac⟩]) (by dsimp only; rw [hN]) (A0 ?_)
  refine A1 (A1 ?_)
  refine G_p [0,0] [0,1,5,82] (k:=A0 ?_)
  refine B7 (b:=!ac) kr (fun hc14=>?_) (fun hc14=>?_)
  ·
   try simp only [decide_eq_true_eq,decide_eq_false_iff_not] at hc14
   refine A1 (C3 (E':=[⟨4,[],.string s⟩]) [0,0] [4] (k:=?_))
   refine A0 (C5 ?_)
   refine B2 (B9 [.tmp 4] [.string s] (k:=?_))
   exact ⟨congrArg Value.string (by rw [hA (by first | assumption | simp_all)]),rfl⟩
  ·
   try simp only [decide_eq_true_eq,decide_eq_false_iff_not] at hc14
   refine B4 (A0 ?_)
   refine A1 (A3 ?_)
   refine A4 (j:=1) [0] (k:=GL_makeS (ch:=[]) (t:=22) (e:=5) (inf:=Tryz.t5) (l:=(C0 E8 s.data.toList).length) (c:=(P8 [] (C0 E8 s.data.toList).length).toList) (hz:=rfl) (hb:=(by show (1:Int) * _≤_; omega)) (hl:=(by omega)) (hm:=(by show (C0 E8 s.data.toList).length * 1≤16777216; omega)) (hc:=(by rw [Array.toArray_toList]; exact madeZ _)) (k:=(fun B=>?_)))
   refine B1 [0] [0,1,12] (k:=A0 ?_)
   refine A1 (G_p [0] [0,1,12,13] (k:=?_))
   refine A0 (A1 ?_)
   refine A1 (G_p [0] [0,1,12,13,14] (k:=?_))
   refine A0 (B8 ?_)
   refine G_heap (H':=([(B,.cells (P8 [] ((C0 E8 s.data.toList).length)) 5 (0,0))]::[(c,.cells (bsr [(9,.slice (some ⟨a9,0,none⟩) 4 c9),(10,.slice (some ⟨a10,0,none⟩) 5 c10)] (.slice aT 2 cT)) 248 (0,0))]::gT::g10::g9::H)) (fun w h=>by rw [Array.toArray_toList] at h; exact h) (L4 (EI:=(fun ξ:Nat × Nat=>[⟨0,[],pt c⟩,⟨1,[],.string s⟩,⟨12,[],.slice (some ⟨B,0,none⟩) ((C0 E8 s.data.toList).length) ((C0 E8 s.data.toList).length)⟩,⟨13,[],.int .i64 ((C0 E8 (s.data.toList.take ξ.1)).length:Int)⟩,⟨14,[],.int .i64 (ξ.1:Int)⟩])) (HI:=(fun ξ:Nat × Nat=>([(B,.cells (P8 (C0 E8 (s.data.toList.take ξ.1)) (ξ.2)) 5 (0,0))]::[(c,.cells (bsr [(9,.slice (some ⟨a9,0,none⟩) 4 c9),(10,.slice (some ⟨a10,0,none⟩) 5 c10)] (.slice aT 2 cT)) 248 (0,0))]::gT::g10::g9::H))) (Φ:=(fun ξ:Nat × Nat=>(ξ.1≤s.size)∧(ξ.2+(C0 E8 (s.data.toList.take ξ.1)).length=(C0 E8 s.data.toList).length))) (μ:=(fun ξ:Nat × Nat=>s.size - ξ.1)) (s0:=(0,(C0 E8 s.data.toList).length)) [0,1,12,13,14] kr rfl ⟨(by omega),(by simp [outR_nil])⟩ ?_)
   rintro ⟨i,k⟩ ⟨hi,hk⟩
   dsimp only at hi hk
   have hto:=outR_le6Q (s.data.toList.take i)
   rw [List.length_take,hlen,Nat.min_eq_left hi] at hto
   have hto2:=outR_le6Q (s.data.toList.drop (i+1))
   refine A1 (A1 ?_)
   refine G_p [0,0,0,0] [0,1,12,13,14,89] (k:=A0 ?_)
   refine B7 (b:=decide ((i:Int)<(s.size:Int))) kr (fun hc15=>?_) (fun hc15=>?_)
   ·
    try simp only [decide_eq_true_eq] at hc15
    refine B4 (A0 ?_)
    refine A1 (B8 ?_)
    refine A1 (A3 ?_)
    refine A4 (j:=2) [0,0] (k:=H3 (ch:=[]) (s:=s) (kd:=.i64) (j:=(i:Int)) (hb:=(fun _=>by omega)) (k:=?_))
    have hb16:=J3 s (i:Int)
    refine B1 [0] [0,1,12,13,14,15] (k:=A0 ?_)
    refine A1 (A3 ?_)
    refine A4 (j:=4) [0,0,0,0] (k:=E6 (ch:=[]) (b:=c) (off:=0) (len:=256) (sz:=1) (e:=22) (kd:=.u8) (j:=D7 s (i:Int)) (hb:=(fun _=>by have hbx:=J3 s (i:Int); exact ⟨by omega,by omega⟩)) (k:=?_))
    rcases tabQ_case (.slice aT 2 cT) a10 a9 c10 c9 (s.data.toList.getD i 0) with ⟨A,L,C,u,hmem,hu,hL,hcell⟩ | ⟨hu,hcell⟩
    ·
     have hu4:=u_posQ hu
     have hsp:=congrArg List.length (X0 s.data.toList (show i<s.data.toList.length by omega))
     rw [P9 _ hu] at hsp
     simp only [List.length_append] at hsp
     refine A6 (ch:=[]) (b:=c) (off:=0+Int.toNat (D7 s (i:Int)) * 1) (v:=.slice (some ⟨A,0,none⟩) L C) (hA:=At.grp 1 0 rfl rfl) (hv:=(by rw [R1]; exact hcell)) (k:=B1 [0] [0,1,12,13,14,15,101] (k:=?_))
     refine A0 (C4 kr ?_)
     refine I4 ([(c,.cells (bsr [(9,.slice (some ⟨a9,0,none⟩) 4 c9),(10,.slice (some ⟨a10,0,none⟩) 5 c10)] (.slice aT 2 cT)) 248 (0,0))]::gT::g10::g9::H) kr (G6 (fuel:=10) [(0,0),(1,0),(2,0)] (fun w h=>(h.erase 0)) (k:=?_))
     refine F7 (E':=[⟨105,[],.slice (cutA (some ⟨B,0,none⟩) ((C0 E8 s.data.toList).length) (Int.toNat ((C0 E8 (s.data.toList.take i)).length:Int)) 1) ((Int.toNat (((C0 E8 s.data.toList).length:Nat):Int)) - (Int.toNat ((C0 E8 (s.data.toList.take i)).length:Int))) ((C0 E8 s.data.toList).length - (Int.toNat ((C0 E8 (s.data.toList.take i)).length:Int)))⟩,⟨104,[],.int .i64 ((C0 E8 (s.data.toList.take i)).length:Int)⟩,⟨103,[],.slice (some ⟨B,0,none⟩) ((C0 E8 s.data.toList).length) ((C0 E8 s.data.toList).length)⟩,⟨102,[],.int .i64 ((C0 E8 (s.data.toList.take i)).length:Int)⟩,⟨0,[],pt c⟩,⟨1,[],.string s⟩,⟨12,[],.slice (some ⟨B,0,none⟩) ((C0 E8 s.data.toList).length) ((C0 E8 s.data.toList).length)⟩,⟨13,[],.int .i64 ((C0 E8 (s.data.toList.take i)).length:Int)⟩,⟨14,[],.int .i64 (i:Int)⟩,⟨15,[],.int .u8 (D7 s (i:Int))⟩,⟨101,[],.bool true⟩]) 3 kr (fun w h=>(h.erase 0)) ?_ ?_
     ·
      exact GL_sliceL (ch:=[]) (a:=(some ⟨B,0,none⟩)) (len:=(C0 E8 s.data.toList).length) (cap:=(C0 E8 s.data.toList).length) (e:=5) (sz:=1) (vl:=(some (.int .i64 ((C0 E8 (s.data.toList.take i)).length:Int)))) (vh:=none) (l:=((C0 E8 (s.data.toList.take i)).length:Int)) (h:=(((C0 E8 s.data.toList).length:Nat):Int)) (hb:=(fun _=>by omega)) (k:=G9)
     refine GH_env (E':=[⟨105,[],.slice (some ⟨B,(C0 E8 (s.data.toList.take i)).length,none⟩) ((C0 E8 s.data.toList).length - (C0 E8 (s.data.toList.take i)).length) ((C0 E8 s.data.toList).length - (C0 E8 (s.data.toList.take i)).length)⟩,⟨104,[],.int .i64 ((C0 E8 (s.data.toList.take i)).length:Int)⟩,⟨103,[],.slice (some ⟨B,0,none⟩) ((C0 E8 s.data.toList).length) ((C0 E8 s.data.toList).length)⟩,⟨102,[],.int .i64 ((C0 E8 (s.data.toList.take i)).length:Int)⟩,⟨0,[],pt c⟩,⟨1,[],.string s⟩,⟨12,[],.slice (some ⟨B,0,none⟩) ((C0 E8 s.data.toList).length) ((C0 E8 s.data.toList).length)⟩,⟨13,[],.int .i64 ((C0 E8 (s.data.toList.take i)).length:Int)⟩,⟨14,[],.int .i64 (i:Int)⟩,⟨15,[],.int .u8 (D7 s (i:Int))⟩,⟨101,[],.bool true⟩]) (by rw [Int.toNat_natCast,Int.toNat_natCast,cut_some (by omega)]) (G6 (fuel:=7) [(4,0),(5,0)] (fun w h=>(h.erase 0)) (k:=?_))
     refine L1 (ad:=⟨c,0,none⟩) 6 (hL:=(fun w h=>(h.erase 0))) (k:=G6 (fuel:=5) [(7,0)] (fun w h=>(h.erase 0)) (k:=?_))
     refine F7 8 (hL:=(fun w h=>(h.erase 0))) (hy:=E6 (i:=8) (ch:=[]) (b:=c) (off:=0) (len:=256) (sz:=1) (e:=22) (kd:=.u8) (j:=D7 s (i:Int)) (hb:=(fun _=>by have hbx:=J3 s (i:Int); exact ⟨by omega,by omega⟩)) (k:=G9 kr rfl)) (k:=F7 9 kr (fun w h=>(h.erase 0)) (A6 (i:=9) (ch:=[]) (b:=c) (off:=0+Int.toNat (D7 s (i:Int)) * 1) (v:=.slice (some ⟨A,0,none⟩) L C) rfl rfl kr kr kr kr kr (At.grp 0 0 rfl rfl) (by rw [R1]; exact hcell) (G9 kr rfl)) ?_)
     refine E4 10 (k:=?_)
     obtain ⟨Q,hrd,hQ⟩:=tab_rowQ hR hmem W0 [(B,.cells (P8 (C0 E8 (s.data.toList.take i)) (k)) 5 (0,0))] [(c,.cells (bsr [(9,.slice (some ⟨a9,0,none⟩) 4 c9),(10,.slice (some ⟨a10,0,none⟩) 5 c10)] (.slice aT 2 cT)) 248 (0,0))] gT H
     refine GL_copy (i:=10) (ch:=[]) (dT:=22) (sT:=22) (el:=5) (b:=B) (o1:=(C0 E8 (s.data.toList.take i)).length) (n1:=((C0 E8 s.data.toList).length - (C0 E8 (s.data.toList.take i)).length)) (c1:=((C0 E8 s.data.toList).length - (C0 E8 (s.data.toList.take i)).length)) (a:=⟨A,0,none⟩) (n2:=L) (c2:=C) (c:=P8 (C0 E8 (s.data.toList.take i)) k) (c':=P8 (C0 E8 (s.data.toList.take i)++u) (k - u.length)) (j:=0) (m:=0) (H':=([(B,.cells (P8 (C0 E8 (s.data.toList.take i)++u) (k - u.length)) 5 (0,0))]::[(c,.cells (bsr [(9,.slice (some ⟨a9,0,none⟩) 4 c9),(10,.slice (some ⟨a10,0,none⟩) 5 c10)] (.slice aT 2 cT)) 248 (0,0))]::gT::g10::g9::H)) (u8s u) rfl rfl kr kr kr kr kr kr kr rfl rfl (by rw [show (u8s u).length=u.length from List.length_map _,hL]; exact (Nat.min_eq_left (by omega)).symm) (rd_cell hrd hQ) (by rw [S3,show (u8s u).length=u.length from List.length_map _]; omega) (u8s_one u) (rowZ_copy _ _ _ (by omega)) kr ?_
     have hul:(u8s u).length=u.length:=List.length_map _
     refine B6 kr (fun w h=>(h.erase 0)) (G6 (fuel:=1) [(11,0)] (fun w h=>(h.erase 0)) (k:=?_))
     refine GH_wi 113 (((C0 E8 (s.data.toList.take i)).length:Int)+((u8s u).length:Int)) (by omega) (by omega) kr (G6 (fuel:=0) [(12,0)] (fun w h=>(h.erase 0)) (k:=?_))
     refine G3 (E':=[⟨0,[],pt c⟩,⟨1,[],.string s⟩,⟨12,[],.slice (some ⟨B,0,none⟩) ((C0 E8 s.data.toList).length) ((C0 E8 s.data.toList).length)⟩,⟨13,[],.int .i64 (((C0 E8 (s.data.toList.take i)).length:Int)+((u8s u).length:Int))⟩,⟨14,[],.int .i64 (i:Int)⟩]) [0,1,12,13,14] (k:=C6 ?_)
     refine A0 (A3 ?_)
     refine A4 (j:=2) [0,0] (k:=F6 91 ((i:Int)+1) (by omega) (by omega) kr ?_)
     refine B1 [0] [0,1,12,13,14] (k:=?_)
     have hj2:((C0 E8 (s.data.toList.take i)).length:Int)+((u8s u).length:Int)=((C0 E8 (s.data.toList.take (i+1))).length:Int):=by rw [J9 _ (show i<s.data.toList.length by omega),M1,List.length_append]; first | (rw [P9 _ hu,show (u8s u).length=u.length from List.length_map _]; omega) | (rw [O4 _ hu]; simp only [List.length_cons,List.length_nil]; omega)
     refine W4 (E':=[⟨0,[],pt c⟩,⟨1,[],.string s⟩,⟨12,[],.slice (some ⟨B,0,none⟩) ((C0 E8 s.data.toList).length) ((C0 E8 s.data.toList).length)⟩,⟨13,[],.int .i64 (((C0 E8 (s.data.toList.take i)).length:Int)+((u8s u).length:Int))⟩,⟨14,[],.int .i64 ((i:Int)+1)⟩]) kr (W4 (E':=[⟨0,[],pt c⟩,⟨1,[],.string s⟩,⟨12,[],.slice (some ⟨B,0,none⟩) ((C0 E8 s.data.toList).length) ((C0 E8 s.data.toList).length)⟩,⟨13,[],.int .i64 ((C0 E8 (s.data.toList.take (i+1))).length:Int)⟩,⟨14,[],.int .i64 ((i:Int)+1)⟩]) (by rw [hj2]) ?_)
     have hl2:(C0 E8 (s.data.toList.take i)++u)=C0 E8 (s.data.toList.take (i+1)):=by rw [J9 _ (show i<s.data.toList.length by omega),M1]; first | rw [P9 _ hu] | rw [O4 _ hu]
     refine N_heq (H':=([(B,.cells (P8 (C0 E8 (s.data.toList.take (i+1))) (k - u.length)) 5 (0,0))]::[(c,.cells (bsr [(9,.slice (some ⟨a9,0,none⟩) 4 c9),(10,.slice (some ⟨a10,0,none⟩) 5 c10)] (.slice aT 2 cT)) 248 (0,0))]::gT::g10::g9::H)) (by rw [hl2]) (E9 (s':=(i+1,k - u.length)) [0,1,12,13,14] kr rfl ⟨(by omega),(by dsimp only; rw [← hl2,List.length_append]; first | omega | (simp only [List.length_cons,List.length_nil]; omega))⟩ (by omega))
    ·
     have hsp:=congrArg List.length (X0 s.data.toList (show i<s.data.toList.length by omega))
     rw [O4 _ hu] at hsp
     simp only [List.length_append,List.length_cons,List.length_nil] at hsp
     refine A6 (ch:=[]) (b:=c) (off:=0+Int.toNat (D7 s (i:Int)) * 1) (v:=.slice none 0 0) (hA:=At.grp 1 0 rfl rfl) (hv:=(by rw [R1]; exact hcell)) (k:=B1 [0] [0,1,12,13,14,15,101] (k:=?_))
     refine A0 (D3 kr ?_)
     refine A1 (A3 ?_)
     refine A4 (j:=3) [0,0,0] (k:=A9 (ch:=[]) (a:=(some ⟨B,0,none⟩)) (len:=(C0 E8 s.data.toList).length) (cap:=(C0 E8 s.data.toList).length) (kd:=.i64) (j:=((C0 E8 (s.data.toList.take i)).length:Int)) (e:=5) (sz:=1) (S:=inG [(B,.cells (P8 (C0 E8 (s.data.toList.take i)) (k)) 5 (0,0))]) (cs:=(P8 (C0 E8 (s.data.toList.take i)) k).toList) (hrd:=row_rd _ _) (hb:=(fun _=>⟨by omega,by omega,by intro h; have:=congrArg List.length h; rw [Array.length_toList,S3] at this; simp only [List.length_nil] at this; omega⟩)) (k:=?_))
     refine F0 (E':=[⟨117,[],.pointer (some ⟨B,0+Int.toNat ((C0 E8 (s.data.toList.take i)).length:Int) * 1,none⟩)⟩,⟨116,[],.int .u8 (D7 s (i:Int))⟩,⟨115,[],.int .i64 ((C0 E8 (s.data.toList.take i)).length:Int)⟩,⟨114,[],.slice (some ⟨B,0,none⟩) ((C0 E8 s.data.toList).length) ((C0 E8 s.data.toList).length)⟩,⟨0,[],pt c⟩,⟨1,[],.string s⟩,⟨12,[],.slice (some ⟨B,0,none⟩) ((C0 E8 s.data.toList).length) ((C0 E8 s.data.toList).length)⟩,⟨13,[],.int .i64 ((C0 E8 (s.data.toList.take i)).length:Int)⟩,⟨14,[],.int .i64 (i:Int)⟩,⟨15,[],.int .u8 (D7 s (i:Int))⟩,⟨101,[],.bool false⟩]) (by have hz:([⟨117,[],.pointer (some (eltA (some ⟨B,0,none⟩) (Int.toNat ((C0 E8 (s.data.toList.take i)).length:Int) * 1)))⟩,⟨116,[],.int .u8 (D7 s (i:Int))⟩,⟨115,[],.int .i64 ((C0 E8 (s.data.toList.take i)).length:Int)⟩,⟨114,[],.slice (some ⟨B,0,none⟩) ((C0 E8 s.data.toList).length) ((C0 E8 s.data.toList).length)⟩,⟨0,[],pt c⟩,⟨1,[],.string s⟩,⟨12,[],.slice (some ⟨B,0,none⟩) ((C0 E8 s.data.toList).length) ((C0 E8 s.data.toList).length)⟩,⟨13,[],.int .i64 ((C0 E8 (s.data.toList.take i)).length:Int)⟩,⟨14,[],.int .i64 (i:Int)⟩,⟨15,[],.int .u8 (D7 s (i:Int))⟩,⟨101,[],.bool false⟩]:List Sl)=[⟨117,[],.pointer (some ⟨B,0+Int.toNat ((C0 E8 (s.data.toList.take i)).length:Int) * 1,none⟩)⟩,⟨116,[],.int .u8 (D7 s (i:Int))⟩,⟨115,[],.int .i64 ((C0 E8 (s.data.toList.take i)).length:Int)⟩,⟨114,[],.slice (some ⟨B,0,none⟩) ((C0 E8 s.data.toList).length) ((C0 E8 s.data.toList).length)⟩,⟨0,[],pt c⟩,⟨1,[],.string s⟩,⟨12,[],.slice (some ⟨B,0,none⟩) ((C0 E8 s.data.toList).length) ((C0 E8 s.data.toList).length)⟩,⟨13,[],.int .i64 ((C0 E8 (s.data.toList.take i)).length:Int)⟩,⟨14,[],.int .i64 (i:Int)⟩,⟨15,[],.int .u8 (D7 s (i:Int))⟩,⟨101,[],.bool false⟩]:=(by rw [show Go.Sw.eltA (some ⟨B,0,none⟩) (Int.toNat ((C0 E8 (s.data.toList.take i)).length:Int) * 1)=⟨B,0+Int.toNat ((C0 E8 (s.data.toList.take i)).length:Int) * 1,none⟩ from N0 _ _ _]); exact Eq.trans kr hz) (O0 (ch:=[]) (b:=B) (off:=0+Int.toNat ((C0 E8 (s.data.toList.take i)).length:Int) * 1) (v:=.int .u8 (D7 s (i:Int))) (c:=(P8 (C0 E8 (s.data.toList.take i)) (k))) (c':=(P8 (C0 E8 (s.data.toList.take i)++[s.data.toList.getD i 0]) (k - 1))) (j:=0) (m:=0) (H':=([(B,.cells (P8 (C0 E8 (s.data.toList.take i)++[s.data.toList.getD i 0]) (k - 1)) 5 (0,0))]::[(c,.cells (bsr [(9,.slice (some ⟨a9,0,none⟩) 4 c9),(10,.slice (some ⟨a10,0,none⟩) 5 c10)] (.slice aT 2 cT)) 248 (0,0))]::gT::g10::g9::H)) (hoff:=(by rw [S3]; show 0+_ * 1+1≤_; rw [Int.toNat_natCast]; omega)) (hfz:=(fun _ _=>E0)) (hc':=(by obtain ⟨k',rfl⟩:∃ k',k=k'+1:=⟨k - 1,by omega⟩; rw [Nat.add_sub_cancel]; show setRow _ _ [.int .u8 (D7 s (i:Int))]=_; rw [byteAt_getD]; exact rowZ_set _ _ _ (by rw [Int.toNat_natCast]; omega))) (hH':=kr) (k:=?_))
     refine B1 [] [0,1,12,13,14] (k:=A0 ?_)
     refine A3 (A4 (j:=2) [0,0] (k:=?_))
     refine F6 119 (((C0 E8 (s.data.toList.take i)).length:Int)+1) (by omega) (by omega) kr (B1 [0] [0,1,12,13,14] (k:=?_))
     refine C6 (A0 ?_)
     refine A3 (A4 (j:=2) [0,0] (k:=?_))
     refine F6 91 ((i:Int)+1) (by omega) (by omega) kr (B5 (E':=[⟨0,[],pt c⟩,⟨1,[],.string s⟩,⟨12,[],.slice (some ⟨B,0,none⟩) ((C0 E8 s.data.toList).length) ((C0 E8 s.data.toList).length)⟩,⟨13,[],.int .i64 (((C0 E8 (s.data.toList.take i)).length:Int)+1)⟩,⟨14,[],.int .i64 ((i:Int)+1)⟩]) [0] [0,1,12,13,14] (k:=?_))
     have hj2:((C0 E8 (s.data.toList.take i)).length:Int)+1=((C0 E8 (s.data.toList.take (i+1))).length:Int):=by rw [J9 _ (show i<s.data.toList.length by omega),M1,List.length_append]; first | (rw [P9 _ hu,show (u8s u).length=u.length from List.length_map _]; omega) | (rw [O4 _ hu]; simp only [List.length_cons,List.length_nil]; omega)
     refine W4 (E':=[⟨0,[],pt c⟩,⟨1,[],.string s⟩,⟨12,[],.slice (some ⟨B,0,none⟩) ((C0 E8 s.data.toList).length) ((C0 E8 s.data.toList).length)⟩,⟨13,[],.int .i64 ((C0 E8 (s.data.toList.take (i+1))).length:Int)⟩,⟨14,[],.int .i64 ((i:Int)+1)⟩]) (by rw [hj2]) ?_
     have hl2:(C0 E8 (s.data.toList.take i)++[s.data.toList.getD i 0])=C0 E8 (s.data.toList.take (i+1)):=by rw [J9 _ (show i<s.data.toList.length by omega),M1]; first | rw [P9 _ hu] | rw [O4 _ hu]
     refine N_heq (H':=([(B,.cells (P8 (C0 E8 (s.data.toList.take (i+1))) (k - 1)) 5 (0,0))]::[(c,.cells (bsr [(9,.slice (some ⟨a9,0,none⟩) 4 c9),(10,.slice (some ⟨a10,0,none⟩) 5 c10)] (.slice aT 2 cT)) 248 (0,0))]::gT::g10::g9::H)) (by rw [hl2]) (E9 (s':=(i+1,k - 1)) [0,1,12,13,14] kr rfl ⟨(by omega),(by dsimp only; rw [← hl2,List.length_append]; first | omega | (simp only [List.length_cons,List.length_nil]; omega))⟩ (by omega))
   ·
    try simp only [decide_eq_false_iff_not] at hc15
    refine H7 (B0 ?_)
    refine B0 (C7 ?_)
    refine A0 (A1 ?_)
    refine A3 (A4 (j:=1) [0] (k:=?_))
    refine L9 (ch:=[]) (a:=⟨B,0,none⟩) (cap:=(C0 E8 s.data.toList).length) (e:=5) (S:=(inG [(B,.cells (P8 (C0 E8 (s.data.toList.take i)) (k)) 5 (0,0))])) (C0 E8 s.data.toList) (hrd:=(by have e1:s.data.toList.take i=s.data.toList:=List.take_of_length_le (by omega); have e2:k=0:=(by rw [e1] at hk; omega); rw [e1,e2]; exact rowZ_rd _ rfl)) (hS:=D4 0 rfl) (k:=B1 [0] [4] (k:=?_))
    refine A0 (C5 ?_)
    refine C1 (H':=([(c,.cells (bsr [(9,.slice (some ⟨a9,0,none⟩) 4 c9),(10,.slice (some ⟨a10,0,none⟩) 5 c10)] (.slice aT 2 cT)) 248 (0,0))]::gT::g10::g9::H)) (fun w h=>(h.erase 0)) (B9 [.tmp 4] [.string ⟨(C0 E8 s.data.toList).toArray⟩] (k:=?_))
    exact ⟨rfl,rfl⟩
end Go.Proofs.YtppgfiklmfoaeaaGreatDoor
namespace Go.Sw
open Go.Esc
def mapL (f:Nat→Int):List Value:=(List.range 256).map fun k=>Value.int .u8 (f k)
def H6 (h:List Value) (f:Nat→Int):Array Value:=(h++mapL f).toArray
theorem mapL_len (f:Nat→Int):(mapL f).length=256:=by simp [mapL]
theorem mapL_at {f:Nat→Int} {k:Nat} (hk:k<256):(mapL f)[k]? = some (.int .u8 (f k)):=by
  unfold mapL
  rw [List.getElem?_map,List.getElem?_range hk]; rfl
theorem mapA_at {f:Nat→Int} {k:Nat} {x:Int} (hk:k<256) (hx:f k=x):(mapL f).toArray[k]? = some (.int .u8 x):=by
  rw [List.getElem?_toArray,mapL_at hk,hx]
theorem L6 {h:List Value} {f:Nat→Int} {off:Nat} {v:Value} (hv:h[off]? = some v):(H6 h f)[off]? = some v:=by
  unfold H6
  have h1:off<h.length:=(List.getElem?_eq_some_iff.1 hv).1
  rw [List.getElem?_toArray,List.getElem?_append_left h1,hv]
theorem grpC_at {h:List Value} {f:Nat→Int} {k off:Nat} {x:Int} (hh:h.length=6) (ho:off=6+k) (hk:k<256) (hx:f k=x):(H6 h f)[off]? = some (.int .u8 x):=by
  subst ho
  unfold H6
  rw [List.getElem?_toArray,List.getElem?_append_right (by omega),hh,Nat.add_sub_cancel_left,mapL_at hk,hx]
theorem S7 {h:List Value} {f:Nat→Int} (hh:h.length=6):(H6 h f).size=262:=by
  unfold H6; rw [List.size_toArray,List.length_append,mapL_len,hh]
theorem grpC_map {h:List Value} {f:Nat→Int} (hh:h.length=6):((H6 h f).toList.drop 6).take (mapL f).length=mapL f:=by
  unfold H6
  rw [List.toList_toArray,List.drop_append_of_le_length (by omega),List.drop_eq_nil_of_le (by omega),List.nil_append,List.take_of_length_le (Nat.le_refl _)]
def updF (f:Nat→Int) (k:Nat) (v:Int):Nat→Int:=fun j=>if j=k then v else f j
theorem setRow_one (c:Array Value) (off:Nat) (v:Value):setRow c off [v]=c.setIfInBounds off v:=rfl
theorem grpC_sethd {h:List Value} {f:Nat→Int} {off:Nat} {v:Value} {h':List Value} (ho:off<h.length) (hh:h.set off v=h'):setRow (H6 h f) off [v]=H6 h' f:=by
  subst hh
  rw [setRow_one]
  unfold H6
  apply Array.ext'
  rw [Array.toList_setIfInBounds,List.toList_toArray,List.toList_toArray,List.set_append_left _ _ ho]
theorem grpC_set {h:List Value} {f f':Nat→Int} {off k:Nat} {v:Int} (hh:h.length=6) (ho:off=6+k) (hk:k<256) (hf:∀ j,j<256→f' j=if j=k then v else f j):setRow (H6 h f) off [.int .u8 v]=H6 h f':=by
  subst ho
  rw [setRow_one]
  unfold H6
  apply Array.ext'
  rw [Array.toList_setIfInBounds,List.toList_toArray,List.toList_toArray,List.set_append_right _ _ (by omega),hh,Nat.add_sub_cancel_left]
  congr 1
  apply List.ext_getElem?
  intro i
  rw [List.getElem?_set]
  by_cases hi:i<256
  · rw [mapL_at hi,mapL_at hi,hf i hi]
    by_cases e:i=k
    · subst e; rw [if_pos rfl,if_pos (by rw [mapL_len]; exact hi),if_pos rfl]
    · rw [if_neg (fun h=>e h.symm),if_neg e]
  · have n1:∀ g:Nat→Int,(mapL g)[i]? = none:=fun g=>List.getElem?_eq_none (by rw [mapL_len]; omega)
    rw [n1,n1,if_neg (by omega)]
def m1 (k:Nat):Int:=if k=10∨k=13 then 1 else 0
def m2 (k:Nat):Int:=if k=10 then 0 else if k=13 then 1 else 2
def cnt (k:Nat):Int:=(if 10<k then 1 else 0)+(if 13<k then 1 else 0)
theorem cnt_succ (k:Nat):cnt (k+1)=cnt k+m1 k:=by unfold cnt m1; (repeat' split) <;> omega
theorem cnt_bd (k:Nat):0≤cnt k∧cnt k≤2:=by unfold cnt; (repeat' split) <;> omega
theorem m1_bd (k:Nat):0≤m1 k∧m1 k≤1:=by unfold m1; split <;> omega
theorem cnt_m2 {k:Nat} (h:m1 k≠0):cnt k=m2 k:=by unfold m1 at h; unfold cnt m2; (repeat' split at h) <;> (repeat' split) <;> omega
theorem m2_no {k:Nat} (h:m1 k=0):m2 k=2:=by unfold m1 at h; unfold m2; (repeat' split at h) <;> (repeat' split) <;> omega
def J1 (k j:Nat):Int:=if j<k then m2 j else m1 j
theorem finK_0 (j:Nat):J1 0 j=m1 j:=by unfold J1; rw [if_neg (Nat.not_lt_zero _)]
theorem finK_succ {k:Nat} {v:Int} (h:v=m2 k) (j:Nat):J1 (k+1) j=if j=k then v else J1 k j:=by
  subst h; unfold J1; (repeat' split) <;> first | rfl | omega | (subst_vars; rfl)
theorem finK_end {j:Nat} (h:j<256):J1 256 j=m2 j:=by unfold J1; rw [if_pos h]
theorem GL_assertI {d:Bool} {P:Program} {ops:Array Oper} {i:Nat} {Q:F2} {n:Fr} {E:Env} {W0:World} {H:List Grp} {o:Oper} {ch:List (Nat × Bool)} {x:Operand} {xt t:TypeId} {u v:Value} {b:Bool}
    (ho:ops[i]? = some o) (hop:o.op=.typeAssert x xt t b) (hx:evO E ch x=some u) (hrun:∀ w,(Instr.typeAssert u xt t b).run P w=.ok v w)
    (hch:E5 ops E o.guard=some ch) (hd:G2 n ch o.dst=true) (hk:J8 E ch=true)
    (kk:GL d P ops (i+1) Q n (Env.put E o.dst ch v) W0 H):GL d P ops i Q n E W0 H:=by
  refine I7 ho hch hd hk (fun r hr _ w _=>?_) kk
  unfold execOp
  simp only [hop]
  rw [hr _ _ hx]
  simp only [Sem.run_bind,hrun,Result.andThen_ok]
  exact ⟨rfl,rfl⟩
theorem GH_nilF {P:Program} {ops:Array Oper} {L:List Grp} {fuel:Nat} {listed:Array Bool} {Q:F2} {n:Fr} {E:Env} {W0:World} {H:List Grp} {o:Oper} {x:Operand} {fn:Fn} {fa fc:Array Value} (i:Nat)
    (ho:ops[i]? = some o:=by exact rfl) (hop:o.op=.nilCheck x:=by exact rfl) (hgd:o.guard=none:=by exact rfl) (hx:evO E [] x=some (.func fn fa fc):=by kernel_rfl) (hrun:∀ w,(execOp (fun _=>.func fn fa fc) o).run P w=.ok (.value (.func fn fa fc)) w) (hd:G2 n [] o.dst=true:=by kernel_rfl)
    (hs:Region.noSelect ops=true:=by kernel_rfl) (hf:Region.free .any ops listed i=true:=by kernel_rfl)
    (hr:(Region.ready .any ops listed).contains i=true:=by kernel_rfl) (hL:∀ w,Sat W0 H w→Sat W0 L w)
    (k:GH P ops L fuel (listed.setIfInBounds i true) Q n (Env.put E o.dst [] (.func fn fa fc)) W0 H):GH P ops L (fuel+1) listed Q n E W0 H:=by
  intro a w ha hsat
  obtain ⟨β,hβ,hat⟩:=ha.at_
  have hv:a.eval x=.func fn fa fc:=K6 hat rfl hx
  have hw:Region.wanted o (yielded ops a.tmps)=true:=by unfold Region.wanted; rw [hgd]
  have hput:Ag n (Env.put E o.dst [] (.func fn fa fc)) (a.put o.dst (.func fn fa fc)):=by
    have:=ha.put hβ hat hd (.func fn fa fc)
    simpa [chT] using this
  refine wpAnyH_take (v:=.func fn fa fc) ho hs hf hr (fun c a w h=>absurd h.1 (by intro h; cases h)) (.inl ⟨hw,fun w' _=>?_⟩) (hL w hsat) (k _ w hput hsat)
  have h:=hrun w'
  unfold execOp at h ⊢
  simp only [hop] at h ⊢
  rw [hv]
  exact h
end Go.Sw
namespace Go.Proofs.YtppgfiklmfoaeaaGreatDoor
open Go.Sw Go.Esc
theorem addE_ (b:Nat) (x:ByteArray) (y nx:Value) (val:ByteArray) (p:Int) (r:Value) (W0:World) (H:List Grp):Tri Tryz.prog 229 #[pt b,.string eB,.string val,.int .i64 p,r] W0 ([(b,.cells #[.string x,.int .i64 0,y,nx,.slice none 0 0] 266 (0,0))]::H) (fun _ H'=>H'=[(b,.cells #[.string val,.int .i64 p,y,nx,.slice none 0 0] 266 (0,0))]::H):=by
 refine D0 (args:=[pt b,.string eB,.string val,.int .i64 p,r]) (n:=241) Tryz.func229 rfl rfl (Nat.le_of_ble_eq_true rfl) ?_
 refine A1 (A1 ?_)
 refine G_p [0,0] [0,1,2,3,4,16] (k:=A0 ?_)
 refine B7 (b:=eB.toList==eB.toList) kr (fun hc1=>?_) (fun hc1=>?_)
 ·
  skip
  refine A1 (A1 ?_)
  refine A3 (A4 (j:=3) [0,0,0] (k:=?_))
  refine A6 (ch:=[]) (b:=b) (off:=1) (v:=.int .i64 0) (hA:=At.grp 0 0 rfl rfl) (k:=B1 [0] [0,2,3,21] (k:=?_))
  refine A0 (C4 kr ?_)
  refine A1 (A3 ?_)
  refine A4 (j:=4) [0,0,0,0] (k:=E2 (ch:=[]) (b:=b) (off:=0) (v:=.string val) (j:=0) ([(b,.cells #[.string val,.int .i64 0,y,nx,.slice none 0 0] 266 (0,0))]::H) (hoff:=Nat.le_of_ble_eq_true rfl) (hfz:=(fun _ _=>E0)) (k:=?_))
  refine B5 (E':=[⟨0,[],pt b⟩,⟨3,[],.int .i64 p⟩]) [] [0,3] (k:=A0 ?_)
  refine A3 (A4 (j:=4) [0,0,0,0] (k:=?_))
  refine E2 (ch:=[]) (b:=b) (off:=1) (v:=.int .i64 p) (j:=0) ([(b,.cells #[.string val,.int .i64 p,y,nx,.slice none 0 0] 266 (0,0))]::H) (hoff:=Nat.le_of_ble_eq_true rfl) (hfz:=(fun _ _=>E0)) (k:=B5 (E':=[]) [] [] (k:=?_))
  refine A0 (C5 ?_)
  refine B2 (B9 [] [] (k:=?_))
  exact rfl
 ·
  exact Bool.noConfusion ((hc1).symm.trans (show _=true from by kernel_rfl))
theorem addK_ (b:Nat) (r:Value) (W0:World) (H:List Grp):Tri Tryz.prog 229 #[pt b,.string (mB #[10]),.string (mB #[10]),.int .i64 4,r] W0 ([(b,.cells #[.string eB,.int .i64 0,.string eB,.pointer none,.slice none 0 0] 266 (0,0))]::H) (fun _ H'=>∃ n,H'=[(b,.cells #[.string eB,.int .i64 0,.string (mB #[10]),pt n,.slice none 0 0] 266 (0,0))]::[(n,.cells #[.string (mB #[10]),.int .i64 4,.string eB,.pointer none,.slice none 0 0] 266 (0,0))]::H):=by
 refine D0 (args:=[pt b,.string (mB #[10]),.string (mB #[10]),.int .i64 4,r]) (n:=241) Tryz.func229 rfl rfl (Nat.le_of_ble_eq_true rfl) ?_
 refine A1 (A1 ?_)
 refine G_p [0,0] [0,1,2,3,4,16] (k:=A0 ?_)
 refine B7 (b:=(mB #[10]).toList==eB.toList) kr (fun hc1=>?_) (fun hc1=>?_)
 ·
  exact Bool.noConfusion ((hc1).symm.trans (show _=false from by kernel_rfl))
 ·
  skip
  refine B4 (A0 ?_)
  refine A1 (A3 ?_)
  refine A4 (j:=3) [0,0,0] (k:=A6 (ch:=[]) (b:=b) (off:=2) (v:=.string eB) (hA:=At.grp 0 0 rfl rfl) (k:=?_))
  refine B1 [0] [0,1,2,3,4,34] (k:=A0 ?_)
  refine B7 (b:=!(eB.toList==eB.toList)) kr (fun hc2=>?_) (fun hc2=>?_)
  ·
   exact Bool.noConfusion ((hc2).symm.trans (show _=false from by kernel_rfl))
  ·
   skip
   refine A1 (A3 ?_)
   refine A4 (j:=3) [0,0,0] (k:=A6 (ch:=[]) (b:=b) (off:=4) (v:=.slice none 0 0) (hA:=At.grp 0 0 rfl rfl) (k:=?_))
   refine B1 [0] [0,1,2,3,4,189] (k:=A0 ?_)
   refine D3 kr (A1 ?_)
   refine A3 (A4 (j:=4) [0,0,0,0] (k:=?_))
   refine E2 (ch:=[]) (b:=b) (off:=2) (v:=.string (mB #[10])) (j:=0) ([(b,.cells #[.string eB,.int .i64 0,.string (mB #[10]),.pointer none,.slice none 0 0] 266 (0,0))]::H) (hoff:=Nat.le_of_ble_eq_true rfl) (hfz:=(fun _ _=>E0)) (k:=B1 [] [0,2,3,4] (k:=?_))
   refine A0 (A1 ?_)
   refine A3 (A4 (j:=1) [0] (k:=?_))
   refine H5 (ch:=[]) (z:=.agg #[.string eB,.int .i64 0,.string eB,.pointer none,.slice none 0 0]) (k:=(fun b3=>?_))
   refine A4 (j:=4) [0,0] (k:=E2 (ch:=[]) (b:=b) (off:=3) (v:=pt b3) (j:=1) ([(b3,.cells #[.string eB,.int .i64 0,.string eB,.pointer none,.slice none 0 0] 266 (0,0))]::[(b,.cells #[.string eB,.int .i64 0,.string (mB #[10]),pt b3,.slice none 0 0] 266 (0,0))]::H) (hoff:=Nat.le_of_ble_eq_true rfl) (hfz:=(fun _ _=>E0)) (k:=?_))
   refine B1 [] [0,2,3,4] (k:=A0 ?_)
   refine A3 (A4 (j:=3) [0,0,0] (k:=?_))
   refine A6 (ch:=[]) (b:=b) (off:=3) (v:=pt b3) (hA:=At.grp 1 0 rfl rfl) (k:=A4 (j:=7) [0,0,0] (k:=?_))
   refine E7 Tryz.func229 (addE_ b3 eB (.string eB) (.pointer none) (mB #[10]) 4 (r) _ _) ?_
   rintro _ _ rfl
   refine B5 (E':=[]) [] [] (k:=C1 (H':=([(b,.cells #[.string eB,.int .i64 0,.string (mB #[10]),pt b3,.slice none 0 0] 266 (0,0))]::[(b3,.cells #[.string (mB #[10]),.int .i64 4,.string eB,.pointer none,.slice none 0 0] 266 (0,0))]::H)) (fun w h=>(h.front (j:=1) rfl)) ?_)
   refine B9 [] [] (k:=?_)
   exact ⟨_,rfl⟩
theorem addR2_ (b t:Nat) (W0:World) (H:List Grp):Tri Tryz.prog 229 #[pt b,.string (mB #[13,10]),.string (mB #[10]),.int .i64 4,pt b] W0 ([(b,.cells (H6 [.string eB,.int .i64 0,.string eB,.pointer none,.slice (some ⟨t,0,none⟩) 2 2,.int .i64 2] (J1 256)) 268 (0,0))]::[(t,.cells #[.pointer none,.pointer none] 263 (0,0))]::H) (fun _ H'=>∃ n1 n2,H'=[(b,.cells (H6 [.string eB,.int .i64 0,.string eB,.pointer none,.slice (some ⟨t,0,none⟩) 2 2,.int .i64 2] (J1 256)) 268 (0,0))]::[(t,.cells #[.pointer none,pt n1] 263 (0,0))]::[(n1,.cells #[.string eB,.int .i64 0,.string (mB #[10]),pt n2,.slice none 0 0] 266 (0,0))]::[(n2,.cells #[.string (mB #[10]),.int .i64 4,.string eB,.pointer none,.slice none 0 0] 266 (0,0))]::H):=by
 refine D0 (args:=[pt b,.string (mB #[13,10]),.string (mB #[10]),.int .i64 4,pt b]) (n:=241) Tryz.func229 rfl rfl (Nat.le_of_ble_eq_true rfl) ?_
 refine A1 (A1 ?_)
 refine G_p [0,0] [0,1,2,3,4,16] (k:=A0 ?_)
 refine B7 (b:=(mB #[13,10]).toList==eB.toList) kr (fun hc1=>?_) (fun hc1=>?_)
 ·
  exact Bool.noConfusion ((hc1).symm.trans (show _=false from by kernel_rfl))
 ·
  skip
  refine B4 (A0 ?_)
  refine A1 (A3 ?_)
  refine A4 (j:=3) [0,0,0] (k:=A6 (ch:=[]) (b:=b) (off:=2) (v:=.string eB) (hA:=At.grp 0 0 rfl rfl) (hv:=L6 rfl) (k:=?_))
  refine B1 [0] [0,1,2,3,4,34] (k:=A0 ?_)
  refine B7 (b:=!(eB.toList==eB.toList)) kr (fun hc2=>?_) (fun hc2=>?_)
  ·
   exact Bool.noConfusion ((hc2).symm.trans (show _=false from by kernel_rfl))
  ·
   skip
   refine A1 (A3 ?_)
   refine A4 (j:=3) [0,0,0] (k:=A6 (ch:=[]) (b:=b) (off:=4) (v:=.slice (some ⟨t,0,none⟩) 2 2) (hA:=At.grp 0 0 rfl rfl) (hv:=L6 rfl) (k:=?_))
   refine B1 [0] [0,1,2,3,4,189] (k:=A0 ?_)
   refine C4 kr (A1 ?_)
   refine I8 (k:=A4 (j:=2) [0,0] (k:=?_))
   refine H3 (ch:=[]) (s:=(mB #[13,10])) (kd:=.i64) (j:=0) (hb:=(fun _=>by decide)) (k:=A4 (j:=5) [0,0] (k:=?_))
   refine E6 (ch:=[]) (b:=b) (off:=6) (len:=256) (sz:=1) (e:=5) (kd:=.u8) (j:=13) (hb:=(fun _=>⟨by decide,by decide⟩)) (k:=A6 (ch:=[]) (b:=b) (off:=19) (v:=.int .u8 1) (hA:=At.grp 0 0 rfl rfl) (hv:=grpC_at (k:=13) rfl rfl (by decide) rfl) (k:=?_))
   refine B1 [0] [0,1,2,3,4,14] (k:=A0 ?_)
   refine A1 (A1 ?_)
   refine A3 (A4 (j:=3) [0,0,0] (k:=?_))
   refine A6 (ch:=[]) (b:=b) (off:=4) (v:=.slice (some ⟨t,0,none⟩) 2 2) (hA:=At.grp 0 0 rfl rfl) (hv:=L6 rfl) (k:=A4 (j:=5) [0] (k:=?_))
   refine A9 (ch:=[]) (a:=(some ⟨t,0,none⟩)) (len:=2) (cap:=2) (kd:=.u8) (j:=1) (e:=263) (sz:=1) (S:=(inG [(t,.cells #[.pointer none,.pointer none] 263 (0,0))])) (cs:=[.pointer none,.pointer none]) (hrd:=Rd.lit) (hb:=(fun _=>by exact ⟨by omega,by omega,by first | exact List.cons_ne_nil _ _ | (intro h; simp [strs] at h; simp [h] at *; omega)⟩)) (k:=F0 (E':=[⟨202,[],.pointer (some ⟨t,1,none⟩)⟩,⟨201,[],.int .u8 1⟩,⟨200,[],.slice (some ⟨t,0,none⟩) 2 2⟩,⟨199,[],.pointer (some ⟨b,4,none⟩)⟩,⟨198,[],pt b⟩,⟨197,[],pt b⟩,⟨0,[],pt b⟩,⟨1,[],.string (mB #[13,10])⟩,⟨2,[],.string (mB #[10])⟩,⟨3,[],.int .i64 4⟩,⟨4,[],pt b⟩,⟨14,[],.int .u8 1⟩]) kr ?_)
   refine A6 (ch:=[]) (b:=t) (off:=1) (v:=.pointer none) (hA:=At.grp 1 0 rfl rfl) (k:=B1 [0] [0,1,2,3,4,14,204] (k:=?_))
   refine A0 (C4 kr ?_)
   refine A3 (A4 (j:=3) [0,0,0] (k:=?_))
   refine A6 (ch:=[]) (b:=b) (off:=4) (v:=.slice (some ⟨t,0,none⟩) 2 2) (hA:=At.grp 0 0 rfl rfl) (hv:=L6 rfl) (k:=A4 (j:=5) [0] (k:=?_))
   refine H5 (ch:=[]) (z:=.agg #[.string eB,.int .i64 0,.string eB,.pointer none,.slice none 0 0]) (k:=(fun b3=>?_))
   refine A9 (ch:=[]) (a:=(some ⟨t,0,none⟩)) (len:=2) (cap:=2) (kd:=.u8) (j:=1) (e:=263) (sz:=1) (S:=(inG [(t,.cells #[.pointer none,.pointer none] 263 (0,0))])) (cs:=[.pointer none,.pointer none]) (hrd:=Rd.lit) (hb:=(fun _=>by exact ⟨by omega,by omega,by first | exact List.cons_ne_nil _ _ | (intro h; simp [strs] at h; simp [h] at *; omega)⟩)) (k:=F0 (E':=[⟨211,[],.pointer (some ⟨t,1,none⟩)⟩,⟨210,[],pt b3⟩,⟨209,[],.int .u8 1⟩,⟨208,[],.slice (some ⟨t,0,none⟩) 2 2⟩,⟨207,[],.pointer (some ⟨b,4,none⟩)⟩,⟨206,[],pt b⟩,⟨205,[],pt b⟩,⟨0,[],pt b⟩,⟨1,[],.string (mB #[13,10])⟩,⟨2,[],.string (mB #[10])⟩,⟨3,[],.int .i64 4⟩,⟨4,[],pt b⟩,⟨14,[],.int .u8 1⟩,⟨204,[],.bool true⟩]) kr ?_)
   refine E2 (ch:=[]) (b:=t) (off:=1) (v:=pt b3) (j:=2) ([(b3,.cells #[.string eB,.int .i64 0,.string eB,.pointer none,.slice none 0 0] 266 (0,0))]::[(b,.cells (H6 [.string eB,.int .i64 0,.string eB,.pointer none,.slice (some ⟨t,0,none⟩) 2 2,.int .i64 2] (J1 256)) 268 (0,0))]::[(t,.cells #[.pointer none,pt b3] 263 (0,0))]::H) (hoff:=Nat.le_of_ble_eq_true rfl) (hfz:=(fun _ _=>E0)) (k:=B5 (E':=[⟨0,[],pt b⟩,⟨1,[],.string (mB #[13,10])⟩,⟨2,[],.string (mB #[10])⟩,⟨3,[],.int .i64 4⟩,⟨4,[],pt b⟩,⟨14,[],.int .u8 1⟩]) [] [0,1,2,3,4,14] (k:=?_))
   refine A0 (I4 ([(b,.cells (H6 [.string eB,.int .i64 0,.string eB,.pointer none,.slice (some ⟨t,0,none⟩) 2 2,.int .i64 2] (J1 256)) 268 (0,0))]::[(t,.cells #[.pointer none,pt b3] 263 (0,0))]::H) kr ?_)
   refine G6 (fuel:=12) [(0,0)] (fun w h=>(h.erase 0)) (k:=L1 (ad:=⟨b,0,none⟩) 1 (hL:=(fun w h=>(h.erase 0))) (k:=?_))
   refine G6 (fuel:=10) [(2,0)] (fun w h=>(h.erase 0)) (k:=F7 3 kr (fun w h=>(h.erase 0)) (A6 (i:=3) (ch:=[]) (b:=b) (off:=4) (v:=.slice (some ⟨t,0,none⟩) 2 2) rfl rfl kr kr kr kr kr (At.grp 0 0 rfl rfl) (L6 rfl) (G9 kr rfl)) ?_)
   refine G6 (fuel:=8) [(4,0)] (fun w h=>(h.erase 0)) (k:=F7 (E':=[⟨217,[],.pointer (some ⟨t,1,none⟩)⟩,⟨216,[],.int .u8 1⟩,⟨215,[],.slice (some ⟨t,0,none⟩) 2 2⟩,⟨214,[],.pointer (some ⟨b,4,none⟩)⟩,⟨213,[],pt b⟩,⟨212,[],pt b⟩,⟨0,[],pt b⟩,⟨1,[],.string (mB #[13,10])⟩,⟨2,[],.string (mB #[10])⟩,⟨3,[],.int .i64 4⟩,⟨4,[],pt b⟩,⟨14,[],.int .u8 1⟩]) 5 kr (fun w h=>(h.erase 0)) ?_ ?_)
   ·
    refine A9 (ch:=[]) (a:=(some ⟨t,0,none⟩)) (len:=2) (cap:=2) (kd:=.u8) (j:=1) (e:=263) (sz:=1) (S:=(inG [(t,.cells #[.pointer none,pt b3] 263 (0,0))])) (cs:=[.pointer none,pt b3]) (hrd:=Rd.lit) (hb:=(fun _=>by exact ⟨by decide,by decide,by intro h; cases h⟩)) (k:=F0 (E':=[⟨217,[],.pointer (some ⟨t,1,none⟩)⟩,⟨216,[],.int .u8 1⟩,⟨215,[],.slice (some ⟨t,0,none⟩) 2 2⟩,⟨214,[],.pointer (some ⟨b,4,none⟩)⟩,⟨213,[],pt b⟩,⟨212,[],pt b⟩,⟨0,[],pt b⟩,⟨1,[],.string (mB #[13,10])⟩,⟨2,[],.string (mB #[10])⟩,⟨3,[],.int .i64 4⟩,⟨4,[],pt b⟩,⟨14,[],.int .u8 1⟩]) kr ?_)
    exact G9
   refine F7 6 (hL:=(fun w h=>(h.erase 0))) (hy:=A6 (i:=6) (ch:=[]) (b:=t) (off:=1) (v:=pt b3) (hA:=At.grp 1 0 rfl rfl) (k:=G9 kr rfl)) (k:=G6 (fuel:=5) [(7,0)] (fun w h=>(h.erase 0)) (k:=?_))
   refine F7 (E':=[⟨220,[],.string ((mB #[13,10]).extract 1 (Int.toNat ((mB #[13,10]).size:Int)))⟩,⟨219,[],.string (mB #[13,10])⟩,⟨218,[],pt b3⟩,⟨217,[],.pointer (some ⟨t,1,none⟩)⟩,⟨216,[],.int .u8 1⟩,⟨215,[],.slice (some ⟨t,0,none⟩) 2 2⟩,⟨214,[],.pointer (some ⟨b,4,none⟩)⟩,⟨213,[],pt b⟩,⟨212,[],pt b⟩,⟨0,[],pt b⟩,⟨1,[],.string (mB #[13,10])⟩,⟨2,[],.string (mB #[10])⟩,⟨3,[],.int .i64 4⟩,⟨4,[],pt b⟩,⟨14,[],.int .u8 1⟩]) 8 kr (fun w h=>(h.erase 0)) ?_ ?_
   ·
    exact H8 (ch:=[]) (s:=(mB #[13,10])) (vl:=(some (.int .i64 1))) (vh:=none) (l:=1) (h:=((mB #[13,10]).size:Int)) (hb:=(by intro _; exact ⟨by decide,by decide,by decide⟩)) (k:=G9)
   refine GH_env (E':=[⟨220,[],.string (mB #[10])⟩,⟨219,[],.string (mB #[13,10])⟩,⟨218,[],pt b3⟩,⟨217,[],.pointer (some ⟨t,1,none⟩)⟩,⟨216,[],.int .u8 1⟩,⟨215,[],.slice (some ⟨t,0,none⟩) 2 2⟩,⟨214,[],.pointer (some ⟨b,4,none⟩)⟩,⟨213,[],pt b⟩,⟨212,[],pt b⟩,⟨0,[],pt b⟩,⟨1,[],.string (mB #[13,10])⟩,⟨2,[],.string (mB #[10])⟩,⟨3,[],.int .i64 4⟩,⟨4,[],pt b⟩,⟨14,[],.int .u8 1⟩]) (by rfl) (G6 (fuel:=1) [(9,0),(10,0),(11,0)] (fun w h=>(h.erase 0)) (k:=?_))
   refine E4 12 (k:=E7 Tryz.func229 (addK_ b3 (pt b) _ _) ?_)
   rintro _ _ ⟨n4,rfl⟩
   refine B6 kr (fun w h=>((h.erase 1).erase 0)) (G3 (E':=[]) [] (k:=?_))
   refine C1 (H':=([(b,.cells (H6 [.string eB,.int .i64 0,.string eB,.pointer none,.slice (some ⟨t,0,none⟩) 2 2,.int .i64 2] (J1 256)) 268 (0,0))]::[(t,.cells #[.pointer none,pt b3] 263 (0,0))]::[(b3,.cells #[.string eB,.int .i64 0,.string (mB #[10]),pt n4,.slice none 0 0] 266 (0,0))]::[(n4,.cells #[.string (mB #[10]),.int .i64 4,.string eB,.pointer none,.slice none 0 0] 266 (0,0))]::H)) (fun w h=>((((h.front (j:=1) rfl).front (j:=1) rfl).front (j:=3) rfl).front (j:=3) rfl)) (B9 [] [] (k:=?_))
   exact ⟨_,_,rfl⟩
theorem addR1_ (b t:Nat) (n1 n2:Nat) (W0:World) (H:List Grp):Tri Tryz.prog 229 #[pt b,.string (mB #[13]),.string (mB #[10]),.int .i64 2,pt b] W0 ([(b,.cells (H6 [.string eB,.int .i64 0,.string eB,.pointer none,.slice (some ⟨t,0,none⟩) 2 2,.int .i64 2] (J1 256)) 268 (0,0))]::[(t,.cells #[.pointer none,pt n1] 263 (0,0))]::[(n1,.cells #[.string eB,.int .i64 0,.string (mB #[10]),pt n2,.slice none 0 0] 266 (0,0))]::H) (fun _ H'=>H'=[(b,.cells (H6 [.string eB,.int .i64 0,.string eB,.pointer none,.slice (some ⟨t,0,none⟩) 2 2,.int .i64 2] (J1 256)) 268 (0,0))]::[(t,.cells #[.pointer none,pt n1] 263 (0,0))]::[(n1,.cells #[.string (mB #[10]),.int .i64 2,.string (mB #[10]),pt n2,.slice none 0 0] 266 (0,0))]::H):=by
 refine D0 (args:=[pt b,.string (mB #[13]),.string (mB #[10]),.int .i64 2,pt b]) (n:=241) Tryz.func229 rfl rfl (Nat.le_of_ble_eq_true rfl) ?_
 refine A1 (A1 ?_)
 refine G_p [0,0] [0,1,2,3,4,16] (k:=A0 ?_)
 refine B7 (b:=(mB #[13]).toList==eB.toList) kr (fun hc1=>?_) (fun hc1=>?_)
 ·
  exact Bool.noConfusion ((hc1).symm.trans (show _=false from by kernel_rfl))
 ·
  skip
  refine B4 (A0 ?_)
  refine A1 (A3 ?_)
  refine A4 (j:=3) [0,0,0] (k:=A6 (ch:=[]) (b:=b) (off:=2) (v:=.string eB) (hA:=At.grp 0 0 rfl rfl) (hv:=L6 rfl) (k:=?_))
  refine B1 [0] [0,1,2,3,4,34] (k:=A0 ?_)
  refine B7 (b:=!(eB.toList==eB.toList)) kr (fun hc2=>?_) (fun hc2=>?_)
  ·
   exact Bool.noConfusion ((hc2).symm.trans (show _=false from by kernel_rfl))
  ·
   skip
   refine A1 (A3 ?_)
   refine A4 (j:=3) [0,0,0] (k:=A6 (ch:=[]) (b:=b) (off:=4) (v:=.slice (some ⟨t,0,none⟩) 2 2) (hA:=At.grp 0 0 rfl rfl) (hv:=L6 rfl) (k:=?_))
   refine B1 [0] [0,1,2,3,4,189] (k:=A0 ?_)
   refine C4 kr (A1 ?_)
   refine I8 (k:=A4 (j:=2) [0,0] (k:=?_))
   refine H3 (ch:=[]) (s:=(mB #[13])) (kd:=.i64) (j:=0) (hb:=(fun _=>by decide)) (k:=A4 (j:=5) [0,0] (k:=?_))
   refine E6 (ch:=[]) (b:=b) (off:=6) (len:=256) (sz:=1) (e:=5) (kd:=.u8) (j:=13) (hb:=(fun _=>⟨by decide,by decide⟩)) (k:=A6 (ch:=[]) (b:=b) (off:=19) (v:=.int .u8 1) (hA:=At.grp 0 0 rfl rfl) (hv:=grpC_at (k:=13) rfl rfl (by decide) rfl) (k:=?_))
   refine B1 [0] [0,1,2,3,4,14] (k:=A0 ?_)
   refine A1 (A1 ?_)
   refine A3 (A4 (j:=3) [0,0,0] (k:=?_))
   refine A6 (ch:=[]) (b:=b) (off:=4) (v:=.slice (some ⟨t,0,none⟩) 2 2) (hA:=At.grp 0 0 rfl rfl) (hv:=L6 rfl) (k:=A4 (j:=5) [0] (k:=?_))
   refine A9 (ch:=[]) (a:=(some ⟨t,0,none⟩)) (len:=2) (cap:=2) (kd:=.u8) (j:=1) (e:=263) (sz:=1) (S:=(inG [(t,.cells #[.pointer none,pt n1] 263 (0,0))])) (cs:=[.pointer none,pt n1]) (hrd:=Rd.lit) (hb:=(fun _=>by exact ⟨by omega,by omega,by first | exact List.cons_ne_nil _ _ | (intro h; simp [strs] at h; simp [h] at *; omega)⟩)) (k:=F0 (E':=[⟨202,[],.pointer (some ⟨t,1,none⟩)⟩,⟨201,[],.int .u8 1⟩,⟨200,[],.slice (some ⟨t,0,none⟩) 2 2⟩,⟨199,[],.pointer (some ⟨b,4,none⟩)⟩,⟨198,[],pt b⟩,⟨197,[],pt b⟩,⟨0,[],pt b⟩,⟨1,[],.string (mB #[13])⟩,⟨2,[],.string (mB #[10])⟩,⟨3,[],.int .i64 2⟩,⟨4,[],pt b⟩,⟨14,[],.int .u8 1⟩]) kr ?_)
   refine A6 (ch:=[]) (b:=t) (off:=1) (v:=pt n1) (hA:=At.grp 1 0 rfl rfl) (k:=B1 [0] [0,1,2,3,4,14,204] (k:=?_))
   refine A0 (D3 kr ?_)
   refine B4 (A0 ?_)
   refine I4 ([(b,.cells (H6 [.string eB,.int .i64 0,.string eB,.pointer none,.slice (some ⟨t,0,none⟩) 2 2,.int .i64 2] (J1 256)) 268 (0,0))]::[(t,.cells #[.pointer none,pt n1] 263 (0,0))]::H) kr (G6 (fuel:=12) [(0,0)] (fun w h=>(h.erase 2)) (k:=?_))
   refine L1 (ad:=⟨b,0,none⟩) 1 (hL:=(fun w h=>(h.erase 2))) (k:=G6 (fuel:=10) [(2,0)] (fun w h=>(h.erase 2)) (k:=?_))
   refine F7 3 kr (fun w h=>(h.erase 2)) (A6 (i:=3) (ch:=[]) (b:=b) (off:=4) (v:=.slice (some ⟨t,0,none⟩) 2 2) rfl rfl kr kr kr kr kr (At.grp 0 0 rfl rfl) (L6 rfl) (G9 kr rfl)) (G6 (fuel:=8) [(4,0)] (fun w h=>(h.erase 2)) (k:=?_))
   refine F7 (E':=[⟨217,[],.pointer (some ⟨t,1,none⟩)⟩,⟨216,[],.int .u8 1⟩,⟨215,[],.slice (some ⟨t,0,none⟩) 2 2⟩,⟨214,[],.pointer (some ⟨b,4,none⟩)⟩,⟨213,[],pt b⟩,⟨212,[],pt b⟩,⟨0,[],pt b⟩,⟨1,[],.string (mB #[13])⟩,⟨2,[],.string (mB #[10])⟩,⟨3,[],.int .i64 2⟩,⟨4,[],pt b⟩,⟨14,[],.int .u8 1⟩,⟨204,[],.bool false⟩]) 5 kr (fun w h=>(h.erase 2)) ?_ ?_
   ·
    refine A9 (ch:=[]) (a:=(some ⟨t,0,none⟩)) (len:=2) (cap:=2) (kd:=.u8) (j:=1) (e:=263) (sz:=1) (S:=(inG [(t,.cells #[.pointer none,pt n1] 263 (0,0))])) (cs:=[.pointer none,pt n1]) (hrd:=Rd.lit) (hb:=(fun _=>by exact ⟨by decide,by decide,by intro h; cases h⟩)) (k:=F0 (E':=[⟨217,[],.pointer (some ⟨t,1,none⟩)⟩,⟨216,[],.int .u8 1⟩,⟨215,[],.slice (some ⟨t,0,none⟩) 2 2⟩,⟨214,[],.pointer (some ⟨b,4,none⟩)⟩,⟨213,[],pt b⟩,⟨212,[],pt b⟩,⟨0,[],pt b⟩,⟨1,[],.string (mB #[13])⟩,⟨2,[],.string (mB #[10])⟩,⟨3,[],.int .i64 2⟩,⟨4,[],pt b⟩,⟨14,[],.int .u8 1⟩,⟨204,[],.bool false⟩]) kr ?_)
    exact G9
   refine F7 6 (hL:=(fun w h=>(h.erase 2))) (hy:=A6 (i:=6) (ch:=[]) (b:=t) (off:=1) (v:=pt n1) (hA:=At.grp 1 0 rfl rfl) (k:=G9 kr rfl)) (k:=G6 (fuel:=5) [(7,0)] (fun w h=>(h.erase 2)) (k:=?_))
   refine F7 (E':=[⟨220,[],.string ((mB #[13]).extract 1 (Int.toNat ((mB #[13]).size:Int)))⟩,⟨219,[],.string (mB #[13])⟩,⟨218,[],pt n1⟩,⟨217,[],.pointer (some ⟨t,1,none⟩)⟩,⟨216,[],.int .u8 1⟩,⟨215,[],.slice (some ⟨t,0,none⟩) 2 2⟩,⟨214,[],.pointer (some ⟨b,4,none⟩)⟩,⟨213,[],pt b⟩,⟨212,[],pt b⟩,⟨0,[],pt b⟩,⟨1,[],.string (mB #[13])⟩,⟨2,[],.string (mB #[10])⟩,⟨3,[],.int .i64 2⟩,⟨4,[],pt b⟩,⟨14,[],.int .u8 1⟩,⟨204,[],.bool false⟩]) 8 kr (fun w h=>(h.erase 2)) ?_ ?_
   ·
    exact H8 (ch:=[]) (s:=(mB #[13])) (vl:=(some (.int .i64 1))) (vh:=none) (l:=1) (h:=((mB #[13]).size:Int)) (hb:=(by intro _; exact ⟨by decide,by decide,by decide⟩)) (k:=G9)
   refine GH_env (E':=[⟨220,[],.string eB⟩,⟨219,[],.string (mB #[13])⟩,⟨218,[],pt n1⟩,⟨217,[],.pointer (some ⟨t,1,none⟩)⟩,⟨216,[],.int .u8 1⟩,⟨215,[],.slice (some ⟨t,0,none⟩) 2 2⟩,⟨214,[],.pointer (some ⟨b,4,none⟩)⟩,⟨213,[],pt b⟩,⟨212,[],pt b⟩,⟨0,[],pt b⟩,⟨1,[],.string (mB #[13])⟩,⟨2,[],.string (mB #[10])⟩,⟨3,[],.int .i64 2⟩,⟨4,[],pt b⟩,⟨14,[],.int .u8 1⟩,⟨204,[],.bool false⟩]) (by rfl) (G6 (fuel:=1) [(9,0),(10,0),(11,0)] (fun w h=>(h.erase 2)) (k:=?_))
   refine E4 12 (k:=H4 rfl (H':=([(n1,.cells #[.string eB,.int .i64 0,.string (mB #[10]),pt n2,.slice none 0 0] 266 (0,0))]::[(b,.cells (H6 [.string eB,.int .i64 0,.string eB,.pointer none,.slice (some ⟨t,0,none⟩) 2 2,.int .i64 2] (J1 256)) 268 (0,0))]::[(t,.cells #[.pointer none,pt n1] 263 (0,0))]::H)) (fun w h=>(h.front (j:=2) rfl)) ?_)
   refine E7 Tryz.func229 (addE_ n1 eB (.string (mB #[10])) (pt n2) (mB #[10]) 2 (pt b) _ _) ?_
   rintro _ _ rfl
   refine B6 kr (fun w h=>(h.erase 0)) (G3 (E':=[]) [] (k:=?_))
   refine C1 (H':=([(b,.cells (H6 [.string eB,.int .i64 0,.string eB,.pointer none,.slice (some ⟨t,0,none⟩) 2 2,.int .i64 2] (J1 256)) 268 (0,0))]::[(t,.cells #[.pointer none,pt n1] 263 (0,0))]::[(n1,.cells #[.string (mB #[10]),.int .i64 2,.string (mB #[10]),pt n2,.slice none 0 0] 266 (0,0))]::H)) (fun w h=>((h.front (j:=2) rfl).front (j:=2) rfl)) (B9 [] [] (k:=?_))
   exact rfl
def crT:List Value:=[.string (mB #[13,10]),.string (mB #[10]),.string (mB #[13]),.string (mB #[10])]
theorem mkGen_ (a:Option Addr) (cap:Nat) (g:Grp) (hr:Rd (inG g) a crT) (W0:World) (H:List Grp):Tri Tryz.prog 212 #[.slice a 4 cap] W0 (g::H) (fun v H'=>∃ b t n1 n2,v=pt b∧H'=[(b,.cells (H6 [.string eB,.int .i64 0,.string eB,.pointer none,.slice (some ⟨t,0,none⟩) 2 2,.int .i64 2] (J1 256)) 268 (0,0))]::[(t,.cells #[.pointer none,pt n1] 263 (0,0))]::[(n1,.cells #[.string (mB #[10]),.int .i64 2,.string (mB #[10]),pt n2,.slice none 0 0] 266 (0,0))]::[(n2,.cells #[.string (mB #[10]),.int .i64 4,.string eB,.pointer none,.slice none 0 0] 266 (0,0))]::g::H):=by
 refine D0 (args:=[.slice a 4 cap]) (n:=117) Tryz.func212 rfl rfl (Nat.le_of_ble_eq_true rfl) ?_
 refine A1 (C3 (E':=[⟨0,[],.slice a 4 cap⟩]) [0] [0] (k:=?_))
 refine A0 (A1 ?_)
 refine A3 (H5 (ch:=[]) (z:=.agg (H6 [.string eB,.int .i64 0,.string eB,.pointer none,.slice none 0 0,.int .i64 0] (fun _=>0))) (k:=(fun b1=>?_)))
 refine B1 [0] [0,3] (k:=A0 ?_)
 refine A1 (A1 ?_)
 refine G_p [0] [0,3,4] (k:=A0 ?_)
 refine B8 (N9 3 ?_)
 refine G1 (A1 ?_)
 refine A1 (G_p [0,0,0,0] [0,3,4,17] (k:=?_))
 refine A0 (C4 kr ?_)
 refine B4 (A0 ?_)
 refine A1 (B8 ?_)
 refine A1 (A3 ?_)
 refine A4 (j:=2) [0,0] (k:=A9 (ch:=[]) (a:=a) (len:=4) (cap:=cap) (kd:=.i64) (j:=0) (e:=9) (sz:=1) (S:=(inG g)) (cs:=crT) (hrd:=hr) (hb:=(fun _=>by exact ⟨by decide,by decide,by intro h; cases h⟩)) (k:=?_))
 refine F4 (ch:=[]) (a:=a) (q:=0 * 1) (S:=(inG g)) (cs:=crT) (v:=.string (mB #[13,10])) (hrd:=hr) (hS:=D4 1 rfl) (hv:=(fun _=>rfl)) (k:=B1 [0] [0,3,4,5] (k:=?_))
 refine A0 (A1 ?_)
 refine G_p [0] [0,3,4,5,6] (k:=A0 ?_)
 refine B8 (N9 3 ?_)
 refine G1 (A1 ?_)
 refine A1 (C3 (E':=[⟨0,[],.slice a 4 cap⟩,⟨3,[],pt b1⟩,⟨4,[],.int .i64 0⟩,⟨5,[],.string (mB #[13,10])⟩,⟨6,[],.int .i64 0⟩,⟨27,[],.bool true⟩]) [0,0,0,0] [0,3,4,5,6,27] (k:=?_))
 refine A0 (C4 kr ?_)
 refine B4 (A0 ?_)
 refine A1 (B8 ?_)
 refine I4 (g::H) kr (G6 (fuel:=5) [(0,0),(1,0),(2,0)] (fun w h=>(h.erase 0)) (k:=?_))
 refine F7 3 (hL:=(fun w h=>(h.erase 0))) (hy:=H3 (i:=3) (ch:=[]) (s:=(mB #[13,10])) (kd:=.i64) (j:=0) (hb:=(fun _=>by decide)) (k:=G9 kr rfl)) (k:=L1 (ad:=⟨b1,0,none⟩) 4 (hL:=(fun w h=>(h.erase 0))) (k:=?_))
 refine G6 (fuel:=2) [(5,0)] (fun w h=>(h.erase 0)) (k:=F7 6 (hL:=(fun w h=>(h.erase 0))) (hy:=E6 (i:=6) (ch:=[]) (b:=b1) (off:=6) (len:=256) (sz:=1) (e:=5) (kd:=.u8) (j:=13) (hb:=(fun _=>⟨by decide,by decide⟩)) (k:=G9 kr rfl)) (k:=?_))
 refine E4 7 (k:=O0 (ch:=[]) (b:=b1) (off:=19) (v:=.int .u8 1) (c:=(H6 [.string eB,.int .i64 0,.string eB,.pointer none,.slice none 0 0,.int .i64 0] (fun _=>0))) (c':=(H6 [.string eB,.int .i64 0,.string eB,.pointer none,.slice none 0 0,.int .i64 0] (updF (fun _=>0) 13 1))) (j:=0) (m:=0) (H':=([(b1,.cells (H6 [.string eB,.int .i64 0,.string eB,.pointer none,.slice none 0 0,.int .i64 0] (updF (fun _=>0) 13 1)) 268 (0,0))]::g::H)) (hoff:=(by rw [S7 rfl]; show 19+1≤262; omega)) (hfz:=(fun _ _=>E0)) (hc':=grpC_set rfl rfl (by decide) (fun _ _=>rfl)) (k:=?_))
 refine B6 kr (fun w h=>(h.erase 0)) (G3 (E':=[⟨0,[],.slice a 4 cap⟩,⟨3,[],pt b1⟩,⟨4,[],.int .i64 0⟩,⟨5,[],.string (mB #[13,10])⟩,⟨6,[],.int .i64 0⟩]) [0,3,4,5,6] (k:=?_))
 refine C6 (A0 ?_)
 refine G_p [0,0,0] [0,3,4,5,6] (k:=N_rd ?_)
 refine G1 (A1 ?_)
 refine A1 (G_p [0,0,0,0] [0,3,4,5,6,27] (k:=?_))
 refine A0 (C4 kr ?_)
 refine B4 (A0 ?_)
 refine A1 (B8 ?_)
 refine I4 (g::H) kr (G6 (fuel:=5) [(0,0),(1,0),(2,0)] (fun w h=>(h.erase 0)) (k:=?_))
 refine F7 3 (hL:=(fun w h=>(h.erase 0))) (hy:=H3 (i:=3) (ch:=[]) (s:=(mB #[13,10])) (kd:=.i64) (j:=1) (hb:=(fun _=>by decide)) (k:=G9 kr rfl)) (k:=L1 (ad:=⟨b1,0,none⟩) 4 (hL:=(fun w h=>(h.erase 0))) (k:=?_))
 refine G6 (fuel:=2) [(5,0)] (fun w h=>(h.erase 0)) (k:=F7 6 (hL:=(fun w h=>(h.erase 0))) (hy:=E6 (i:=6) (ch:=[]) (b:=b1) (off:=6) (len:=256) (sz:=1) (e:=5) (kd:=.u8) (j:=10) (hb:=(fun _=>⟨by decide,by decide⟩)) (k:=G9 kr rfl)) (k:=?_))
 refine E4 7 (k:=O0 (ch:=[]) (b:=b1) (off:=16) (v:=.int .u8 1) (c:=(H6 [.string eB,.int .i64 0,.string eB,.pointer none,.slice none 0 0,.int .i64 0] (updF (fun _=>0) 13 1))) (c':=(H6 [.string eB,.int .i64 0,.string eB,.pointer none,.slice none 0 0,.int .i64 0] (updF (updF (fun _=>0) 13 1) 10 1))) (j:=0) (m:=0) (H':=([(b1,.cells (H6 [.string eB,.int .i64 0,.string eB,.pointer none,.slice none 0 0,.int .i64 0] (updF (updF (fun _=>0) 13 1) 10 1)) 268 (0,0))]::g::H)) (hoff:=(by rw [S7 rfl]; show 16+1≤262; omega)) (hfz:=(fun _ _=>E0)) (hc':=grpC_set rfl rfl (by decide) (fun _ _=>rfl)) (k:=?_))
 refine B6 kr (fun w h=>(h.erase 0)) (G3 (E':=[⟨0,[],.slice a 4 cap⟩,⟨3,[],pt b1⟩,⟨4,[],.int .i64 0⟩,⟨5,[],.string (mB #[13,10])⟩,⟨6,[],.int .i64 1⟩]) [0,3,4,5,6] (k:=?_))
 refine C6 (A0 ?_)
 refine G_p [0,0,0] [0,3,4,5,6] (k:=N_rd ?_)
 refine G1 (A1 ?_)
 refine A1 (G_p [0,0,0,0] [0,3,4,5,6,27] (k:=?_))
 refine A0 (D3 kr ?_)
 refine H7 (B0 ?_)
 refine B0 (C7 ?_)
 refine C6 (A0 ?_)
 refine G_p [0,0,0] [0,3,4] (k:=N_rd ?_)
 refine G1 (A1 ?_)
 refine A1 (G_p [0,0,0,0] [0,3,4,17] (k:=?_))
 refine A0 (C4 kr ?_)
 refine B4 (A0 ?_)
 refine A1 (B8 ?_)
 refine A1 (A3 ?_)
 refine A4 (j:=2) [0,0] (k:=A9 (ch:=[]) (a:=a) (len:=4) (cap:=cap) (kd:=.i64) (j:=2) (e:=9) (sz:=1) (S:=(inG g)) (cs:=crT) (hrd:=hr) (hb:=(fun _=>by exact ⟨by decide,by decide,by intro h; cases h⟩)) (k:=?_))
 refine F4 (ch:=[]) (a:=a) (q:=2 * 1) (S:=(inG g)) (cs:=crT) (v:=.string (mB #[13])) (hrd:=hr) (hS:=D4 1 rfl) (hv:=(fun _=>rfl)) (k:=B1 [0] [0,3,4,5] (k:=?_))
 refine A0 (A1 ?_)
 refine C3 (E':=[⟨0,[],.slice a 4 cap⟩,⟨3,[],pt b1⟩,⟨4,[],.int .i64 2⟩,⟨5,[],.string (mB #[13])⟩,⟨6,[],.int .i64 0⟩]) [0] [0,3,4,5,6] (k:=A0 ?_)
 refine B8 (N9 2 ?_)
 refine G1 (A1 ?_)
 refine A1 (G_p [0,0,0,0] [0,3,4,5,6,27] (k:=?_))
 refine A0 (C4 kr ?_)
 refine B4 (A0 ?_)
 refine A1 (B8 ?_)
 refine I4 (g::H) kr (G6 (fuel:=5) [(0,0),(1,0),(2,0)] (fun w h=>(h.erase 0)) (k:=?_))
 refine F7 3 (hL:=(fun w h=>(h.erase 0))) (hy:=H3 (i:=3) (ch:=[]) (s:=(mB #[13])) (kd:=.i64) (j:=0) (hb:=(fun _=>by decide)) (k:=G9 kr rfl)) (k:=L1 (ad:=⟨b1,0,none⟩) 4 (hL:=(fun w h=>(h.erase 0))) (k:=?_))
 refine G6 (fuel:=2) [(5,0)] (fun w h=>(h.erase 0)) (k:=F7 6 (hL:=(fun w h=>(h.erase 0))) (hy:=E6 (i:=6) (ch:=[]) (b:=b1) (off:=6) (len:=256) (sz:=1) (e:=5) (kd:=.u8) (j:=13) (hb:=(fun _=>⟨by decide,by decide⟩)) (k:=G9 kr rfl)) (k:=?_))
 refine E4 7 (k:=O0 (ch:=[]) (b:=b1) (off:=19) (v:=.int .u8 1) (c:=(H6 [.string eB,.int .i64 0,.string eB,.pointer none,.slice none 0 0,.int .i64 0] (updF (updF (fun _=>0) 13 1) 10 1))) (c':=(H6 [.string eB,.int .i64 0,.string eB,.pointer none,.slice none 0 0,.int .i64 0] (updF (updF (updF (fun _=>0) 13 1) 10 1) 13 1))) (j:=0) (m:=0) (H':=([(b1,.cells (H6 [.string eB,.int .i64 0,.string eB,.pointer none,.slice none 0 0,.int .i64 0] (updF (updF (updF (fun _=>0) 13 1) 10 1) 13 1)) 268 (0,0))]::g::H)) (hoff:=(by rw [S7 rfl]; show 19+1≤262; omega)) (hfz:=(fun _ _=>E0)) (hc':=grpC_set rfl rfl (by decide) (fun _ _=>rfl)) (k:=?_))
 refine B6 kr (fun w h=>(h.erase 0)) (G3 (E':=[⟨0,[],.slice a 4 cap⟩,⟨3,[],pt b1⟩,⟨4,[],.int .i64 2⟩,⟨5,[],.string (mB #[13])⟩,⟨6,[],.int .i64 0⟩]) [0,3,4,5,6] (k:=?_))
 refine C6 (A0 ?_)
 refine G_p [0,0,0] [0,3,4,5,6] (k:=N_rd ?_)
 refine G1 (A1 ?_)
 refine A1 (G_p [0,0,0,0] [0,3,4,5,6,27] (k:=?_))
 refine A0 (D3 kr ?_)
 refine H7 (B0 ?_)
 refine B0 (C7 ?_)
 refine C6 (A0 ?_)
 refine G_p [0,0,0] [0,3,4] (k:=N_rd ?_)
 refine G1 (A1 ?_)
 refine A1 (G_p [0,0,0,0] [0,3,4,17] (k:=?_))
 refine A0 (D3 kr ?_)
 refine H7 (B0 ?_)
 refine B0 (C7 ?_)
 refine A0 (A1 ?_)
 refine A1 (A3 ?_)
 refine A4 (j:=3) [0,0,0] (k:=I5 (ch:=[]) (b:=b1) (off:=6) (l:=mapL (updF (updF (updF (fun _=>0) 13 1) 10 1) 13 1)) (hA:=At.grp 0 0 rfl rfl) (hv':=grpC_map rfl) (k:=?_))
 refine B1 [0] [0,3,40,41] (k:=A0 ?_)
 refine B8 (G_env (E':=[⟨0,[],.slice a 4 cap⟩,⟨3,[],pt b1⟩,⟨40,[],(.agg (mapL (updF (updF (updF (fun _=>0) 13 1) 10 1) 13 1)).toArray)⟩,⟨41,[],.int .i64 0⟩]) kr ?_)
 have hm1:(updF (updF (updF (fun _=>0) 13 1) 10 1) 13 1)=m1:=by funext j; unfold updF m1; (repeat' split) <;> first | rfl | omega
 refine G_env (E':=[⟨0,[],.slice a 4 cap⟩,⟨3,[],pt b1⟩,⟨40,[],(.agg (mapL m1).toArray)⟩,⟨41,[],.int .i64 0⟩]) (by rw [← hm1]) (G_heap (H':=([(b1,.cells (H6 [.string eB,.int .i64 0,.string eB,.pointer none,.slice none 0 0,.int .i64 0] m1) 268 (0,0))]::g::H)) (fun w h=>by rw [← hm1]; exact h) ?_)
 refine L4 (EI:=(fun ξ:Nat=>[⟨0,[],.slice a 4 cap⟩,⟨3,[],pt b1⟩,⟨40,[],(.agg (mapL m1).toArray)⟩,⟨41,[],.int .i64 ((ξ:Nat):Int)⟩])) (HI:=(fun ξ:Nat=>([(b1,.cells (H6 [.string eB,.int .i64 0,.string eB,.pointer none,.slice none 0 0,.int .i64 (cnt ξ)] m1) 268 (0,0))]::g::H))) (Φ:=(fun ξ:Nat=>(ξ≤256))) (μ:=(fun ξ:Nat=>256 - ξ)) (s0:=(0)) [0,3,40,41] kr kr (by omega) ?_
 rintro k hk
 have hmb:=m1_bd k
 have hcb:=cnt_bd k
 refine A1 (G_p [0] [0,3,40,41,42] (k:=?_))
 refine A0 (A1 ?_)
 refine B7 (b:=decide (((k:Nat):Int)<256)) kr (fun hc2=>?_) (fun hc2=>?_)
 ·
  have hkl:=hc2; simp only [decide_eq_true_eq] at hkl
  refine B4 (A0 ?_)
  refine A1 (B8 ?_)
  refine A1 (A3 ?_)
  refine GL_indexV (i:=0) (ch:=[]) (vs:=(mapL m1).toArray) (kd:=.i64) (j:=((k:Nat):Int)) (len:=256) (e:=5) (v:=.int .u8 (m1 k)) rfl rfl kr kr kr kr kr kr kr kr (fun _=>⟨by omega,by omega,by rw [Int.toNat_natCast]; exact mapA_at (by omega) rfl⟩) (B1 [0] [0,3,8,40,41] (k:=?_))
  refine A0 (A3 ?_)
  refine A4 (j:=3) [0,0,0] (k:=A6 (ch:=[]) (b:=b1) (off:=5) (v:=.int .i64 (cnt k)) (hA:=At.grp 0 0 rfl rfl) (hv:=L6 rfl) (k:=?_))
  refine A4 (j:=6) [0,0] (k:=F6 49 (m1 k) (by omega) (by omega) kr ?_)
  refine A4 (j:=7) [0] (k:=F6 50 ((cnt k)+(m1 k)) (by omega) (by omega) kr ?_)
  refine A4 (j:=9) [0,0] (k:=O0 (ch:=[]) (b:=b1) (off:=5) (v:=.int .i64 ((cnt k)+(m1 k))) (c:=(H6 [.string eB,.int .i64 0,.string eB,.pointer none,.slice none 0 0,.int .i64 (cnt k)] m1)) (c':=(H6 [.string eB,.int .i64 0,.string eB,.pointer none,.slice none 0 0,.int .i64 ((cnt k)+(m1 k))] m1)) (j:=0) (m:=0) (H':=([(b1,.cells (H6 [.string eB,.int .i64 0,.string eB,.pointer none,.slice none 0 0,.int .i64 ((cnt k)+(m1 k))] m1) 268 (0,0))]::g::H)) (hoff:=(by rw [S7 rfl]; show 5+1≤262; omega)) (hfz:=(fun _ _=>E0)) (hc':=grpC_sethd (Nat.le_of_ble_eq_true rfl) rfl) (k:=?_))
  refine B1 [] [0,3,40,41] (k:=C6 ?_)
  refine A0 (A3 ?_)
  refine A4 (j:=1) [0] (k:=F6 53 (((k:Nat):Int)+1) (by omega) (by omega) kr ?_)
  refine B1 [0] [0,3,40,41] (k:=?_)
  have hcs:(cnt k)+(m1 k)=cnt (k+1):=(cnt_succ k).symm
  refine N_heq (H':=([(b1,.cells (H6 [.string eB,.int .i64 0,.string eB,.pointer none,.slice none 0 0,.int .i64 (cnt (k+1))] m1) 268 (0,0))]::g::H)) (by rw [hcs]) (E9 (s':=(k+1)) [0,3,40,41] kr rfl (by omega) (by omega))
 ·
  have hkl:=hc2; simp only [decide_eq_false_iff_not] at hkl
  refine H7 (B0 ?_)
  refine B0 (C7 ?_)
  refine A0 (A1 ?_)
  refine G_p [0] [0,3,9] (k:=A0 ?_)
  refine A1 (A1 ?_)
  refine A3 (A4 (j:=3) [0,0,0] (k:=?_))
  refine I5 (ch:=[]) (b:=b1) (off:=6) (l:=mapL m1) (hA:=At.grp 0 0 rfl rfl) (hv':=grpC_map rfl) (k:=B1 [0] [0,3,9,57,58] (k:=?_))
  refine A0 (B8 ?_)
  refine G_heap (H':=([(b1,.cells (H6 [.string eB,.int .i64 0,.string eB,.pointer none,.slice none 0 0,.int .i64 2] (J1 0)) 268 (0,0))]::g::H)) (fun w h=>by rw [show J1 0=m1 from funext finK_0]; rw [show k=256 by omega] at h; exact h) (L4 (EI:=(fun ξ:Nat=>[⟨0,[],.slice a 4 cap⟩,⟨3,[],pt b1⟩,⟨9,[],.int .u8 (cnt ξ)⟩,⟨57,[],(.agg (mapL m1).toArray)⟩,⟨58,[],.int .i64 ((ξ:Nat):Int)⟩])) (HI:=(fun ξ:Nat=>([(b1,.cells (H6 [.string eB,.int .i64 0,.string eB,.pointer none,.slice none 0 0,.int .i64 2] (J1 ξ)) 268 (0,0))]::g::H))) (Φ:=(fun ξ:Nat=>(ξ≤256))) (μ:=(fun ξ:Nat=>256 - ξ)) (s0:=(0)) [0,3,9,57,58] kr kr (by omega) ?_)
  rintro q hq
  have hmq:=m1_bd q
  have hcq:=cnt_bd q
  refine A1 (G_p [0] [0,3,9,57,58,59] (k:=?_))
  refine A0 (A1 ?_)
  refine B7 (b:=decide (((q:Nat):Int)<256)) kr (fun hc6=>?_) (fun hc6=>?_)
  ·
   have hql:=hc6; simp only [decide_eq_true_eq] at hql
   refine B4 (A0 ?_)
   refine A1 (B8 ?_)
   refine A1 (A3 ?_)
   refine A4 (j:=1) [0] (k:=GL_indexV (i:=1) (ch:=[]) (vs:=(mapL m1).toArray) (kd:=.i64) (j:=((q:Nat):Int)) (len:=256) (e:=5) (v:=.int .u8 (m1 q)) rfl rfl kr kr kr kr kr kr kr kr (fun _=>⟨by omega,by omega,by rw [Int.toNat_natCast]; exact mapA_at (by omega) rfl⟩) ?_)
   refine B1 [0,0] [0,3,9,10,11,57,58] (k:=A0 ?_)
   refine A1 (G_p [0,0] [0,3,9,10,57,58,63] (k:=?_))
   refine A0 (B7 (b:=(m1 q)==0) kr (fun hc7=>?_) (fun hc7=>?_))
   ·
    have hz:m1 q=0:=by simpa using hc7
    refine I4 (g::H) kr (G6 (fuel:=8) [(0,0),(1,0),(2,0)] (fun w h=>(h.erase 0)) (k:=?_))
    refine L1 (ad:=⟨b1,0,none⟩) 3 (hL:=(fun w h=>(h.erase 0))) (k:=G6 (fuel:=6) [(4,0)] (fun w h=>(h.erase 0)) (k:=?_))
    refine L1 (ad:=⟨b1,0,none⟩) 7 (hL:=(fun w h=>(h.erase 0))) (k:=G6 (fuel:=4) [(8,0)] (fun w h=>(h.erase 0)) (k:=?_))
    refine E4 5 (k:=A6 (ch:=[]) (b:=b1) (off:=5) (v:=.int .i64 2) (hA:=At.grp 0 0 rfl rfl) (hv:=L6 rfl) (k:=?_))
    refine B6 kr (fun w h=>(h.erase 0)) (G6 (fuel:=2) [(6,0)] (fun w h=>(h.erase 0)) (k:=?_))
    refine F7 9 (hL:=(fun w h=>(h.erase 0))) (hy:=E6 (i:=9) (ch:=[]) (b:=b1) (off:=6) (len:=256) (sz:=1) (e:=5) (kd:=.i64) (j:=((q:Nat):Int)) (hb:=(fun _=>by exact ⟨by omega,by omega⟩)) (k:=G9 kr rfl)) (k:=E4 10 (k:=?_))
    refine O0 (ch:=[]) (b:=b1) (off:=6+Int.toNat ((q:Nat):Int) * 1) (v:=.int .u8 2) (c:=(H6 [.string eB,.int .i64 0,.string eB,.pointer none,.slice none 0 0,.int .i64 2] (J1 q))) (c':=(H6 [.string eB,.int .i64 0,.string eB,.pointer none,.slice none 0 0,.int .i64 2] (J1 (q+1)))) (j:=0) (m:=0) (H':=([(b1,.cells (H6 [.string eB,.int .i64 0,.string eB,.pointer none,.slice none 0 0,.int .i64 2] (J1 (q+1))) 268 (0,0))]::g::H)) (hoff:=(by rw [S7 rfl]; show 6+Int.toNat ((q:Nat):Int) * 1+1≤262; omega)) (hfz:=(fun _ _=>E0)) (hc':=grpC_set (k:=q) rfl (by rw [Int.toNat_natCast]; omega) (by omega) (fun j _=>finK_succ (m2_no hz).symm j)) (k:=B6 kr (fun w h=>(h.erase 0)) ?_)
    refine G3 (E':=[⟨0,[],.slice a 4 cap⟩,⟨3,[],pt b1⟩,⟨9,[],.int .u8 (cnt q)⟩,⟨57,[],(.agg (mapL m1).toArray)⟩,⟨58,[],.int .i64 ((q:Nat):Int)⟩]) [0,3,9,57,58] (k:=C6 ?_)
    refine A0 (A3 ?_)
    refine A4 (j:=1) [0] (k:=F6 82 (((q:Nat):Int)+1) (by omega) (by omega) kr ?_)
    refine B1 [0] [0,3,9,57,58] (k:=?_)
    have hc9:(cnt q)=cnt (q+1):=by rw [cnt_succ,hz]; omega
    refine W4 (E':=[⟨0,[],.slice a 4 cap⟩,⟨3,[],pt b1⟩,⟨9,[],.int .u8 (cnt q)⟩,⟨57,[],(.agg (mapL m1).toArray)⟩,⟨58,[],.int .i64 (((q:Nat):Int)+1)⟩]) kr (W4 (E':=[⟨0,[],.slice a 4 cap⟩,⟨3,[],pt b1⟩,⟨9,[],.int .u8 (cnt (q+1))⟩,⟨57,[],(.agg (mapL m1).toArray)⟩,⟨58,[],.int .i64 (((q:Nat):Int)+1)⟩]) (by rw [hc9]) ?_)
    refine E9 (s':=(q+1)) [0,3,9,57,58] kr kr (by omega) (by omega)
   ·
    have hz:m1 q≠0:=by simpa using hc7
    refine A1 (A3 ?_)
    refine A4 (j:=5) [0,0,0,0,0] (k:=E6 (ch:=[]) (b:=b1) (off:=6) (len:=256) (sz:=1) (e:=5) (kd:=.i64) (j:=((q:Nat):Int)) (hb:=(fun _=>by exact ⟨by omega,by omega⟩)) (k:=?_))
    refine O0 (ch:=[]) (b:=b1) (off:=6+Int.toNat ((q:Nat):Int) * 1) (v:=.int .u8 (cnt q)) (c:=(H6 [.string eB,.int .i64 0,.string eB,.pointer none,.slice none 0 0,.int .i64 2] (J1 q))) (c':=(H6 [.string eB,.int .i64 0,.string eB,.pointer none,.slice none 0 0,.int .i64 2] (J1 (q+1)))) (j:=0) (m:=0) (H':=([(b1,.cells (H6 [.string eB,.int .i64 0,.string eB,.pointer none,.slice none 0 0,.int .i64 2] (J1 (q+1))) 268 (0,0))]::g::H)) (hoff:=(by rw [S7 rfl]; show 6+Int.toNat ((q:Nat):Int) * 1+1≤262; omega)) (hfz:=(fun _ _=>E0)) (hc':=grpC_set (k:=q) rfl (by rw [Int.toNat_natCast]; omega) (by omega) (fun j _=>finK_succ (cnt_m2 hz) j)) (k:=B1 [] [0,3,9,57,58] (k:=?_))
    refine A0 (G_p [0,0,0] [0,3,9,57,58] (k:=?_))
    refine C6 (A0 ?_)
    refine A3 (A4 (j:=1) [0] (k:=?_))
    refine F6 82 (((q:Nat):Int)+1) (by omega) (by omega) kr (B5 (E':=[⟨0,[],.slice a 4 cap⟩,⟨3,[],pt b1⟩,⟨9,[],.int .u8 (IntKind.wrap .u8 ((cnt q)+1))⟩,⟨57,[],(.agg (mapL m1).toArray)⟩,⟨58,[],.int .i64 (((q:Nat):Int)+1)⟩]) [0] [0,3,9,57,58] (k:=?_))
    have hc9:IntKind.wrap .u8 ((cnt q)+1)=cnt (q+1):=by rw [cnt_succ,show m1 q=1 by omega]; rw [show IntKind.wrap .u8 (cnt q+1)=(cnt q+1) % 256 from by first | rfl | simp [IntKind.wrap,IntKind.bits,IntKind.signed]]; omega
    refine W4 (E':=[⟨0,[],.slice a 4 cap⟩,⟨3,[],pt b1⟩,⟨9,[],.int .u8 (cnt (q+1))⟩,⟨57,[],(.agg (mapL m1).toArray)⟩,⟨58,[],.int .i64 (((q:Nat):Int)+1)⟩]) (by rw [hc9]) (E9 (s':=(q+1)) [0,3,9,57,58] kr kr (by omega) (by omega))
  ·
   have hql:=hc6; simp only [decide_eq_false_iff_not] at hql
   have hq6:q=256:=by omega
   refine H7 (B0 ?_)
   refine B0 (C7 ?_)
   refine A0 (A1 ?_)
   refine A3 (A4 (j:=4) [0,0,0,0] (k:=?_))
   refine A6 (ch:=[]) (b:=b1) (off:=5) (v:=.int .i64 2) (hA:=At.grp 0 0 rfl rfl) (hv:=L6 rfl) (k:=GL_makeS (ch:=[]) (t:=264) (e:=263) (inf:=Tryz.t263) (l:=2) (c:=[.pointer none,.pointer none]) (z:=.pointer none) (hz:=kr) (hb:=of_decide_eq_true kr) (hl:=of_decide_eq_true kr) (hm:=of_decide_eq_true kr) (hc:=kr) (k:=(fun b10=>?_)))
   refine A4 (j:=9) [0,0,0] (k:=O0 (ch:=[]) (b:=b1) (off:=4) (v:=.slice (some ⟨b10,0,none⟩) 2 2) (c:=(H6 [.string eB,.int .i64 0,.string eB,.pointer none,.slice none 0 0,.int .i64 2] (J1 q))) (c':=(H6 [.string eB,.int .i64 0,.string eB,.pointer none,.slice (some ⟨b10,0,none⟩) 2 2,.int .i64 2] (J1 q))) (j:=1) (m:=0) (H':=([(b10,.cells #[.pointer none,.pointer none] 263 (0,0))]::[(b1,.cells (H6 [.string eB,.int .i64 0,.string eB,.pointer none,.slice (some ⟨b10,0,none⟩) 2 2,.int .i64 2] (J1 q)) 268 (0,0))]::g::H)) (hoff:=(by rw [S7 rfl]; show 4+1≤262; omega)) (hfz:=(fun _ _=>E0)) (hc':=grpC_sethd (Nat.le_of_ble_eq_true rfl) rfl) (k:=?_))
   refine B1 [] [0,3] (k:=A0 ?_)
   refine A1 (A1 ?_)
   refine G_p [0] [0,3,12] (k:=A0 ?_)
   refine B8 (G_heap (H':=([(b10,.cells #[.pointer none,.pointer none] 263 (0,0))]::[(b1,.cells (H6 [.string eB,.int .i64 0,.string eB,.pointer none,.slice (some ⟨b10,0,none⟩) 2 2,.int .i64 2] (J1 256)) 268 (0,0))]::g::H)) (fun w h=>by rw [hq6] at h; exact h) ?_)
   refine N9 3 (G1 ?_)
   refine A1 (A1 ?_)
   refine G_p [0,0,0,0] [0,3,12,95] (k:=A0 ?_)
   refine C4 kr (B4 ?_)
   refine A0 (A1 ?_)
   refine B8 (I4 (g::H) kr ?_)
   refine G6 (fuel:=17) [(0,0)] (fun w h=>((h.erase 1).erase 0)) (k:=L1 (ad:=⟨b1,0,none⟩) 1 (hL:=(fun w h=>((h.erase 1).erase 0))) (k:=?_))
   refine G6 (fuel:=13) [(2,0),(3,0),(4,0)] (fun w h=>((h.erase 1).erase 0)) (k:=F7 5 (hL:=(fun w h=>((h.erase 1).erase 0))) (hy:=A9 (i:=5) (ch:=[]) (a:=a) (len:=4) (cap:=cap) (kd:=.i64) (j:=0) (e:=9) (sz:=1) (S:=(inG g)) (cs:=crT) (hrd:=hr) (hb:=(fun _=>by exact ⟨by decide,by decide,by intro h; cases h⟩)) (k:=G9 kr rfl)) (k:=?_))
   refine F7 6 kr (fun w h=>((h.erase 1).erase 0)) (F4 (i:=6) (ch:=[]) (a:=a) (q:=0 * 1) (S:=(inG g)) (cs:=crT) (v:=.string (mB #[13,10])) rfl rfl kr kr kr kr kr hr (D4 0 rfl) (fun _=>rfl) (G9 kr rfl)) (G6 (fuel:=8) [(7,0),(8,0),(9,0)] (fun w h=>((h.erase 1).erase 0)) (k:=?_))
   refine F7 10 (hL:=(fun w h=>((h.erase 1).erase 0))) (hy:=A9 (i:=10) (ch:=[]) (a:=a) (len:=4) (cap:=cap) (kd:=.i64) (j:=1) (e:=9) (sz:=1) (S:=(inG g)) (cs:=crT) (hrd:=hr) (hb:=(fun _=>by exact ⟨by decide,by decide,by intro h; cases h⟩)) (k:=G9 kr rfl)) (k:=F7 11 kr (fun w h=>((h.erase 1).erase 0)) (F4 (i:=11) (ch:=[]) (a:=a) (q:=1 * 1) (S:=(inG g)) (cs:=crT) (v:=.string (mB #[10])) rfl rfl kr kr kr kr kr hr (D4 0 rfl) (fun _=>rfl) (G9 kr rfl)) ?_)
   refine G6 (fuel:=5) [(12,0)] (fun w h=>((h.erase 1).erase 0)) (k:=W7 (v:=.int .i64 4) 13 (hL:=(fun w h=>((h.erase 1).erase 0))) (k:=?_))
   refine G6 (fuel:=1) [(14,0),(15,0),(16,0)] (fun w h=>((h.erase 1).erase 0)) (k:=E4 17 (k:=?_))
   refine H4 rfl (H':=([(b1,.cells (H6 [.string eB,.int .i64 0,.string eB,.pointer none,.slice (some ⟨b10,0,none⟩) 2 2,.int .i64 2] (J1 256)) 268 (0,0))]::[(b10,.cells #[.pointer none,.pointer none] 263 (0,0))]::g::H)) (fun w h=>(h.front (j:=1) rfl)) (E7 Tryz.func229 (addR2_ b1 b10 _ _) ?_)
   rintro _ _ ⟨n11,n12,rfl⟩
   refine B6 kr (fun w h=>((((h.erase 3).erase 2).erase 1).erase 0)) (G3 (E':=[⟨0,[],.slice a 4 cap⟩,⟨3,[],pt b1⟩,⟨12,[],.int .i64 0⟩]) [0,3,12] (k:=?_))
   refine C6 (A0 ?_)
   refine G_p [0,0,0] [0,3,12] (k:=N_rd ?_)
   refine G1 (A1 ?_)
   refine A1 (G_p [0,0,0,0] [0,3,12,95] (k:=?_))
   refine A0 (C4 kr ?_)
   refine B4 (A0 ?_)
   refine A1 (B8 ?_)
   refine I4 (g::H) kr (G6 (fuel:=17) [(0,0)] (fun w h=>((((h.erase 3).erase 2).erase 1).erase 0)) (k:=?_))
   refine L1 (ad:=⟨b1,0,none⟩) 1 (hL:=(fun w h=>((((h.erase 3).erase 2).erase 1).erase 0))) (k:=G6 (fuel:=13) [(2,0),(3,0),(4,0)] (fun w h=>((((h.erase 3).erase 2).erase 1).erase 0)) (k:=?_))
   refine F7 5 (hL:=(fun w h=>((((h.erase 3).erase 2).erase 1).erase 0))) (hy:=A9 (i:=5) (ch:=[]) (a:=a) (len:=4) (cap:=cap) (kd:=.i64) (j:=2) (e:=9) (sz:=1) (S:=(inG g)) (cs:=crT) (hrd:=hr) (hb:=(fun _=>by exact ⟨by decide,by decide,by intro h; cases h⟩)) (k:=G9 kr rfl)) (k:=F7 6 kr (fun w h=>((((h.erase 3).erase 2).erase 1).erase 0)) (F4 (i:=6) (ch:=[]) (a:=a) (q:=2 * 1) (S:=(inG g)) (cs:=crT) (v:=.string (mB #[13])) rfl rfl kr kr kr kr kr hr (D4 0 rfl) (fun _=>rfl) (G9 kr rfl)) ?_)
   refine G6 (fuel:=8) [(7,0),(8,0),(9,0)] (fun w h=>((((h.erase 3).erase 2).erase 1).erase 0)) (k:=F7 10 (hL:=(fun w h=>((((h.erase 3).erase 2).erase 1).erase 0))) (hy:=A9 (i:=10) (ch:=[]) (a:=a) (len:=4) (cap:=cap) (kd:=.i64) (j:=3) (e:=9) (sz:=1) (S:=(inG g)) (cs:=crT) (hrd:=hr) (hb:=(fun _=>by exact ⟨by decide,by decide,by intro h; cases h⟩)) (k:=G9 kr rfl)) (k:=?_))
   refine F7 11 kr (fun w h=>((((h.erase 3).erase 2).erase 1).erase 0)) (F4 (i:=11) (ch:=[]) (a:=a) (q:=3 * 1) (S:=(inG g)) (cs:=crT) (v:=.string (mB #[10])) rfl rfl kr kr kr kr kr hr (D4 0 rfl) (fun _=>rfl) (G9 kr rfl)) (G6 (fuel:=5) [(12,0)] (fun w h=>((((h.erase 3).erase 2).erase 1).erase 0)) (k:=?_))
   refine W7 (v:=.int .i64 4) 13 (hL:=(fun w h=>((((h.erase 3).erase 2).erase 1).erase 0))) (k:=G6 (fuel:=1) [(14,0),(15,0),(16,0)] (fun w h=>((((h.erase 3).erase 2).erase 1).erase 0)) (k:=?_))
   refine E4 17 (k:=E7 Tryz.func229 (addR1_ b1 b10 n11 n12 _ _) ?_)
   rintro _ _ rfl
   refine B6 kr (fun w h=>((((h.erase 3).erase 2).erase 1).erase 0)) (G3 (E':=[⟨0,[],.slice a 4 cap⟩,⟨3,[],pt b1⟩,⟨12,[],.int .i64 2⟩]) [0,3,12] (k:=?_))
   refine C6 (A0 ?_)
   refine G_p [0,0,0] [0,3,12] (k:=N_rd ?_)
   refine G1 (A1 ?_)
   refine A1 (G_p [0,0,0,0] [0,3,12,95] (k:=?_))
   refine A0 (D3 kr ?_)
   refine H7 (B0 ?_)
   refine B0 (C7 ?_)
   refine A0 (A1 ?_)
   refine C3 (E':=[⟨2,[],pt b1⟩]) [0,0] [2] (k:=A0 ?_)
   refine C5 (B9 [.tmp 2] [pt b1] (k:=?_))
   exact ⟨_,_,_,_,rfl,rfl⟩
end Go.Proofs.YtppgfiklmfoaeaaGreatDoor
namespace Go.Xml
open Go.Esc Go.Json
theorem drop_getD {l:List UInt8} {i:Nat} (h:i<l.length):l.drop i=l.getD i 0::l.drop (i+1):=by
  rw [List.drop_eq_getElem_cons h]; congr 1; simp [List.getD,h]
theorem take_dropS {l:List UInt8} {last i:Nat} (hl:last≤i) (h:i<l.length):(l.drop last).take (i+1 - last)=(l.drop last).take (i - last)++[l.getD i 0]:=by
  have h1:i - last<(l.drop last).length:=by rw [List.length_drop]; omega
  rw [show i+1 - last=i - last+1 by omega,List.take_succ_eq_append_getElem h1]
  congr 2
  rw [List.getElem_drop]; simp [List.getD,h,show last+(i - last)=i by omega]
theorem lin_step {l out:List UInt8} {last i:Nat} (h:A7 l=out++((l.drop last).take (i - last)++A7 (l.drop i))) (hl:last≤i) (hi:i<l.length) (hb:l.getD i 0≠13):A7 l=out++((l.drop last).take (i+1 - last)++A7 (l.drop (i+1))):=by
  rw [h,drop_getD hi,lines_no hb,take_dropS hl hi,List.append_assoc]; rfl
theorem lin_one {l out:List UInt8} {last i:Nat} (h:A7 l=out++((l.drop last).take (i - last)++A7 (l.drop i))) (hi:i<l.length) (hb:l.getD i 0=13) (hn:¬ (i+1<l.length∧l.getD (i+1) 0=10)):A7 l=((out++(l.drop last).take (i - last))++[10])++((l.drop (i+1)).take (i+1 - (i+1))++A7 (l.drop (i+1))):=by
  have h1:A7 (l.drop i)=10::A7 (l.drop (i+1)):=by
    rw [drop_getD hi,hb,lines_13]
    intro u hu
    have h2:i+1<l.length:=by
      have:=congrArg List.length hu
      rw [List.length_drop,List.length_cons] at this; omega
    refine hn ⟨h2,?_⟩
    rw [drop_getD h2] at hu
    injection hu
  rw [h,h1,Nat.sub_self,List.take_zero,List.nil_append]
  simp only [List.append_assoc]; rfl
theorem lin_two {l out:List UInt8} {last i:Nat} (h:A7 l=out++((l.drop last).take (i - last)++A7 (l.drop i))) (hi:i+1<l.length) (hb:l.getD i 0=13) (hn:l.getD (i+1) 0=10):A7 l=((out++(l.drop last).take (i - last))++[10])++((l.drop (i+2)).take (i+2 - (i+2))++A7 (l.drop (i+2))):=by
  have h1:A7 (l.drop i)=10::A7 (l.drop (i+2)):=by
    rw [drop_getD (by omega),hb,drop_getD hi,hn,lines_cr]
  rw [h,h1,Nat.sub_self,List.take_zero,List.nil_append]
  simp only [List.append_assoc]; rfl
theorem lin_at {l out:List UInt8} {last i:Nat} (h:A7 l=out++((l.drop last).take (i - last)++A7 (l.drop i))) (hl:last≤i) (hi:i=l.length):A7 l=out++((l.drop last).take (i+1 - last)++A7 (l.drop (i+1))):=by
  have e1:(l.drop last).take (i+1 - last)=l.drop last:=List.take_of_length_le (by rw [List.length_drop]; omega)
  have e2:(l.drop last).take (i - last)=l.drop last:=List.take_of_length_le (by rw [List.length_drop]; omega)
  rw [h,e1,e2,List.drop_eq_nil_of_le (show l.length≤i by omega),List.drop_eq_nil_of_le (show l.length≤i+1 by omega)]
theorem lin_fin {l out:List UInt8} {last i:Nat} (h:A7 l=out++((l.drop last).take (i - last)++A7 (l.drop i))) (hi:l.length≤i):A7 l=out++l.drop last:=by
  have e1:(l.drop last).take (i - last)=l.drop last:=List.take_of_length_le (by rw [List.length_drop]; omega)
  rw [h,e1,List.drop_eq_nil_of_le hi,show A7 []=[] from rfl,List.append_nil]
end Go.Xml
namespace Go.Proofs.YtppgfiklmfoaeaaGreatDoor
open Go.Sw Go.Sha Go.Esc Go.Json Go.Xml
theorem byte3 (b:UInt8):b=13∨b=10∨(b≠13∧m2 b.toNat=2):=by
  by_cases h1:b=13
  · exact .inl h1
  by_cases h2:b=10
  · exact .inr (.inl h2)
  refine .inr (.inr ⟨h1,?_⟩)
  have e1:b.toNat≠10:=fun h=>h2 (UInt8.toNat_inj.1 h)
  have e2:b.toNat≠13:=fun h=>h1 (UInt8.toNat_inj.1 h)
  unfold m2
  rw [if_neg e1,if_neg e2]
theorem ba_of {a:ByteArray} {l:List UInt8} (h:a.data.toList=l):a=bk l:=ByteArray.ext (Array.ext' h)
theorem ext_mid (l:List UInt8) (a b:Nat):((bk l).extract a b).data.toList=(l.drop a).take (b - a):=ext_list (bk l) a b
theorem app_list (a b:ByteArray):(a++b).data.toList=a.data.toList++b.data.toList:=by rw [ByteArray.data_append,Array.toList_append]
theorem lookup_ (b t n1 n2:Nat) (l:List UInt8) (hl:l.length≤1000000000000) (h13:l=[]∨l.getD 0 0=13) (W0:World) (H:List Grp):Tri Tryz.prog 281 #[pt b,.string (bk l),.bool false] W0 ([(b,.cells (H6 [.string eB,.int .i64 0,.string eB,.pointer none,.slice (some ⟨t,0,none⟩) 2 2,.int .i64 2] (J1 256)) 268 (0,0))]::[(t,.cells #[.pointer none,pt n1] 263 (0,0))]::[(n1,.cells #[.string (mB #[10]),.int .i64 2,.string (mB #[10]),pt n2,.slice none 0 0] 266 (0,0))]::[(n2,.cells #[.string (mB #[10]),.int .i64 4,.string eB,.pointer none,.slice none 0 0] 266 (0,0))]::H) (fun v H'=>((l=[]∧v=.tuple #[.string eB,.int .i64 0,.bool false])∨(l≠[]∧¬ (1<l.length∧l.getD 1 0=10)∧v=.tuple #[.string (mB #[10]),.int .i64 1,.bool true])∨(1<l.length∧l.getD 1 0=10∧v=.tuple #[.string (mB #[10]),.int .i64 2,.bool true]))∧H'=([(b,.cells (H6 [.string eB,.int .i64 0,.string eB,.pointer none,.slice (some ⟨t,0,none⟩) 2 2,.int .i64 2] (J1 256)) 268 (0,0))]::[(t,.cells #[.pointer none,pt n1] 263 (0,0))]::[(n1,.cells #[.string (mB #[10]),.int .i64 2,.string (mB #[10]),pt n2,.slice none 0 0] 266 (0,0))]::[(n2,.cells #[.string (mB #[10]),.int .i64 4,.string eB,.pointer none,.slice none 0 0] 266 (0,0))]::H)):=by
 have hbz:=D9 l
 refine D0 (args:=[pt b,.string (bk l),.bool false]) (n:=107) Tryz.func281 rfl rfl (Nat.le_of_ble_eq_true rfl) ?_
 refine A1 (G_p [0,0,0] [0,1,2,6,7,8] (k:=?_))
 refine A0 (A1 ?_)
 refine G_p [0] [0,1,2,6,7,8,9] (k:=A0 ?_)
 refine A1 (G_p [0,0,0,0] [0,1,2,6,7,8,9,10] (k:=?_))
 refine A0 (A1 ?_)
 refine G_p [0] [0,1,2,6,7,8,9,10,11] (k:=A0 ?_)
 refine A1 (B8 ?_)
 refine N9 4 (G1 ?_)
 refine A1 (A1 ?_)
 refine G_p [0,0] [0,1,2,6,7,8,9,10,11,17] (k:=A0 ?_)
 refine C4 kr (B4 ?_)
 refine A0 (B8 ?_)
 refine A1 (A1 ?_)
 refine A3 (A4 (j:=3) [0,0,0] (k:=?_))
 refine A6 (ch:=[]) (b:=b) (off:=1) (v:=.int .i64 0) (hA:=At.grp 0 0 rfl rfl) (hv:=L6 rfl) (k:=B5 (E':=[⟨0,[],pt b⟩,⟨1,[],.string (bk l)⟩,⟨2,[],.bool false⟩,⟨6,[],.string eB⟩,⟨7,[],.int .i64 0⟩,⟨8,[],.bool false⟩,⟨9,[],.int .i64 0⟩,⟨10,[],pt b⟩,⟨11,[],.int .i64 0⟩,⟨34,[],.bool false⟩]) [0,0,0,1,1,1,1,1,1,1,1,1,3] [0,1,2,6,7,8,9,10,11,34] (k:=?_))
 refine A0 (D3 kr ?_)
 refine B4 (A0 ?_)
 refine A1 (A1 ?_)
 refine G_p [0,0] [0,1,2,6,7,8,9,10,11,45] (k:=A0 ?_)
 refine B7 (b:=(bk l).toList==eB.toList) kr (fun hc1=>?_) (fun hc1=>?_)
 ·
  have h1:l=[]:=(eqB _ _).1 hc1
  refine H7 (B0 ?_)
  refine P3 rfl (B0 ?_)
  refine C7 (A0 ?_)
  refine C5 (B9 [.tmp 6,.tmp 7,.tmp 8] [.string eB,.int .i64 0,.bool false] (k:=?_))
  exact ⟨.inl ⟨h1,rfl⟩,rfl⟩
 ·
  have h1:l≠[]:=(eqBf _ _).1 hc1
  replace h13:=h13.resolve_left h1
  have hlp:=List.length_pos_iff.2 h1
  refine B4 (A0 ?_)
  refine A1 (A3 ?_)
  refine A4 (j:=3) [0,0,0] (k:=A6 (ch:=[]) (b:=b) (off:=4) (v:=.slice (some ⟨t,0,none⟩) 2 2) (hA:=At.grp 0 0 rfl rfl) (hv:=L6 rfl) (k:=?_))
  refine B1 [0] [0,1,2,6,7,8,9,10,11,50] (k:=A0 ?_)
  refine C4 kr (A1 ?_)
  refine I8 (k:=A4 (j:=2) [0,0] (k:=?_))
  refine H3 (ch:=[]) (s:=(bk l)) (kd:=.i64) (j:=0) (hb:=(by intro _; exact ⟨by omega,by omega⟩)) (k:=?_)
  have hb2:=J3 (bk l) 0
  refine A4 (j:=5) [0,0] (k:=E6 (ch:=[]) (b:=b) (off:=6) (len:=256) (sz:=1) (e:=5) (kd:=.u8) (j:=D7 (bk l) 0) (hb:=(fun _=>by rw [byteJ0,h13]; exact ⟨by decide,by decide⟩)) (k:=?_))
  refine A6 (ch:=[]) (b:=b) (off:=6+Int.toNat (D7 (bk l) 0) * 1) (v:=.int .u8 1) (hA:=At.grp 0 0 rfl rfl) (hv:=grpC_at (k:=13) rfl (by rw [byteJ0,h13]; rfl) (by decide) rfl) (k:=B1 [0] [0,1,2,6,7,8,9,10,11,12] (k:=?_))
  refine A0 (A1 ?_)
  refine A1 (A3 ?_)
  refine A4 (j:=5) [0,0,0,0,0] (k:=A6 (ch:=[]) (b:=b) (off:=5) (v:=.int .i64 2) (hA:=At.grp 0 0 rfl rfl) (hv:=L6 rfl) (k:=?_))
  refine B1 [0] [0,1,2,6,7,8,9,10,11,12,64] (k:=A0 ?_)
  refine D3 kr (B4 ?_)
  refine A0 (A1 ?_)
  refine A3 (A4 (j:=3) [0,0,0] (k:=?_))
  refine A6 (ch:=[]) (b:=b) (off:=4) (v:=.slice (some ⟨t,0,none⟩) 2 2) (hA:=At.grp 0 0 rfl rfl) (hv:=L6 rfl) (k:=A4 (j:=5) [0] (k:=?_))
  refine A9 (ch:=[]) (a:=(some ⟨t,0,none⟩)) (len:=2) (cap:=2) (kd:=.u8) (j:=1) (e:=263) (sz:=1) (S:=(inG [(t,.cells #[.pointer none,pt n1] 263 (0,0))])) (cs:=[.pointer none,pt n1]) (hrd:=Rd.lit) (hb:=(fun _=>by exact ⟨by decide,by decide,by intro h; cases h⟩)) (k:=F0 (E':=[⟨70,[],.pointer (some ⟨t,1,none⟩)⟩,⟨69,[],.int .u8 1⟩,⟨68,[],.slice (some ⟨t,0,none⟩) 2 2⟩,⟨67,[],.pointer (some ⟨b,4,none⟩)⟩,⟨66,[],pt b⟩,⟨65,[],pt b⟩,⟨0,[],pt b⟩,⟨1,[],.string (bk l)⟩,⟨2,[],.bool false⟩,⟨6,[],.string eB⟩,⟨7,[],.int .i64 0⟩,⟨8,[],.bool false⟩,⟨9,[],.int .i64 0⟩,⟨10,[],pt b⟩,⟨11,[],.int .i64 0⟩,⟨12,[],.int .u8 1⟩,⟨64,[],.bool false⟩]) kr ?_)
  refine A6 (ch:=[]) (b:=t) (off:=1) (v:=pt n1) (hA:=At.grp 1 0 rfl rfl) (k:=B1 [0] [0,1,2,6,7,8,9,10,11] (k:=?_))
  refine A0 (A1 ?_)
  refine A3 (A4 (j:=1) [0] (k:=?_))
  refine H8 (ch:=[]) (s:=(bk l)) (vl:=(some (.int .i64 1))) (vh:=none) (l:=1) (h:=((bk l).size:Int)) (hb:=(by intro _; exact ⟨by omega,by omega,by omega⟩)) (k:=F0 (E':=[⟨73,[],.string (bk (l.drop 1))⟩,⟨72,[],.string (bk l)⟩,⟨0,[],pt b⟩,⟨1,[],.string (bk l)⟩,⟨2,[],.bool false⟩,⟨6,[],.string eB⟩,⟨7,[],.int .i64 0⟩,⟨8,[],.bool false⟩,⟨9,[],.int .i64 0⟩,⟨10,[],pt n1⟩,⟨11,[],.int .i64 0⟩]) (by have hz:([⟨73,[],.string ((bk l).extract 1 (bk l).size)⟩,⟨72,[],.string (bk l)⟩,⟨0,[],pt b⟩,⟨1,[],.string (bk l)⟩,⟨2,[],.bool false⟩,⟨6,[],.string eB⟩,⟨7,[],.int .i64 0⟩,⟨8,[],.bool false⟩,⟨9,[],.int .i64 0⟩,⟨10,[],pt n1⟩,⟨11,[],.int .i64 0⟩]:List Sl)=[⟨73,[],.string (bk (l.drop 1))⟩,⟨72,[],.string (bk l)⟩,⟨0,[],pt b⟩,⟨1,[],.string (bk l)⟩,⟨2,[],.bool false⟩,⟨6,[],.string eB⟩,⟨7,[],.int .i64 0⟩,⟨8,[],.bool false⟩,⟨9,[],.int .i64 0⟩,⟨10,[],pt n1⟩,⟨11,[],.int .i64 0⟩]:=(by rw [ext_bk]); exact Eq.trans kr hz) ?_)
  refine B5 (E':=[⟨0,[],pt b⟩,⟨1,[],.string (bk (l.drop 1))⟩,⟨2,[],.bool false⟩,⟨6,[],.string eB⟩,⟨7,[],.int .i64 0⟩,⟨8,[],.bool false⟩,⟨9,[],.int .i64 0⟩,⟨10,[],pt n1⟩,⟨11,[],.int .i64 0⟩]) [0] [0,1,2,6,7,8,9,10,11] (k:=A0 ?_)
  refine G_p [0,0,0] [0,1,2,6,7,8,9,10,11] (k:=C6 ?_)
  refine N_rd (G1 ?_)
  refine A1 (A1 ?_)
  refine G_p [0,0] [0,1,2,6,7,8,9,10,11,17] (k:=A0 ?_)
  refine C4 kr (B4 ?_)
  refine A0 (B8 ?_)
  refine A1 (A1 ?_)
  refine A3 (A4 (j:=3) [0,0,0] (k:=?_))
  refine A6 (ch:=[]) (b:=n1) (off:=1) (v:=.int .i64 2) (hA:=At.grp 2 0 rfl rfl) (k:=B1 [0,0,0,0,0,1,1,1,1,1,3,0,2] [0,1,2,6,7,8,9,10,11,34] (k:=?_))
  refine A0 (C4 kr ?_)
  refine A1 (A3 ?_)
  refine A4 (j:=3) [0,0,0] (k:=A6 (ch:=[]) (b:=n1) (off:=1) (v:=.int .i64 2) (hA:=At.grp 2 0 rfl rfl) (k:=?_))
  refine B1 [0] [0,1,2,9,10,11] (k:=A0 ?_)
  refine A1 (A3 ?_)
  refine A4 (j:=3) [0,0,0] (k:=A6 (ch:=[]) (b:=n1) (off:=0) (v:=.string (mB #[10])) (hA:=At.grp 2 0 rfl rfl) (k:=?_))
  refine B1 [0] [0,1,2,6,9,10,11] (k:=A0 ?_)
  refine A1 (C3 (E':=[⟨0,[],pt b⟩,⟨1,[],.string (bk (l.drop 1))⟩,⟨2,[],.bool false⟩,⟨6,[],.string (mB #[10])⟩,⟨7,[],.int .i64 1⟩,⟨9,[],.int .i64 2⟩,⟨10,[],pt n1⟩,⟨11,[],.int .i64 1⟩]) [0,0] [0,1,2,6,7,9,10,11] (k:=?_))
  refine A0 (G_p [0] [0,1,2,6,7,8,9,10,11] (k:=?_))
  refine A0 (A1 ?_)
  refine A1 (G_p [0,0] [0,1,2,6,7,8,9,10,11,45] (k:=?_))
  refine A0 (B7 (b:=(bk (l.drop 1)).toList==eB.toList) kr (fun hc3=>?_) (fun hc3=>?_))
  ·
   have h2:l.drop 1=[]:=(eqB _ _).1 hc3
   have h2l:l.length≤1:=by have:=congrArg List.length h2; rw [List.length_drop,List.length_nil] at this; omega
   refine H7 (B0 ?_)
   refine P3 rfl (B0 ?_)
   refine C7 (A0 ?_)
   refine C5 (B9 [.tmp 6,.tmp 7,.tmp 8] [.string (mB #[10]),.int .i64 1,.bool true] (k:=?_))
   exact ⟨.inr (.inl ⟨h1,fun h=>absurd h.1 (by omega),rfl⟩),rfl⟩
  ·
   have h2:l.drop 1≠[]:=(eqBf _ _).1 hc3
   have h2l:1<l.length:=by have:=List.length_pos_iff.2 h2; rw [List.length_drop] at this; omega
   refine B4 (A0 ?_)
   refine A1 (A3 ?_)
   refine A4 (j:=3) [0,0,0] (k:=A6 (ch:=[]) (b:=n1) (off:=4) (v:=.slice none 0 0) (hA:=At.grp 2 0 rfl rfl) (k:=?_))
   refine B1 [0] [0,1,2,6,7,8,9,10,11,50] (k:=A0 ?_)
   refine D3 kr (A1 ?_)
   refine A3 (A4 (j:=3) [0,0,0] (k:=?_))
   refine A6 (ch:=[]) (b:=n1) (off:=2) (v:=.string (mB #[10])) (hA:=At.grp 2 0 rfl rfl) (k:=G5 (E':=[⟨80,[],.bool (!((mB #[10]).toList==eB.toList))⟩,⟨0,[],pt b⟩,⟨1,[],.string (bk (l.drop 1))⟩,⟨2,[],.bool false⟩,⟨6,[],.string (mB #[10])⟩,⟨7,[],.int .i64 1⟩,⟨8,[],.bool true⟩,⟨9,[],.int .i64 2⟩,⟨10,[],pt n1⟩,⟨11,[],.int .i64 1⟩]) (j:=5) [0] (k:=?_))
   refine F0 (E':=[⟨80,[],.bool true⟩,⟨0,[],pt b⟩,⟨1,[],.string (bk (l.drop 1))⟩,⟨2,[],.bool false⟩,⟨6,[],.string (mB #[10])⟩,⟨7,[],.int .i64 1⟩,⟨8,[],.bool true⟩,⟨9,[],.int .i64 2⟩,⟨10,[],pt n1⟩,⟨11,[],.int .i64 1⟩]) (by rw [show (!((mB #[10]).toList==eB.toList))=true from by kernel_rfl]) (A4 (j:=10) [0,0,0,0,0] (k:=?_))
   refine A6 (ch:=[(81,true)]) (b:=n1) (off:=2) (v:=.string (mB #[10])) (hA:=At.grp 2 0 rfl rfl) (k:=J7 (ch:=[(81,true)]) (f:=77) (fst:=#[]) (caps:=#[]) (vs:=[.string (bk (l.drop 1)),.string (mB #[10])]) (v:=.bool (I0 (bk (l.drop 1)) (mB #[10]))) (hf:=Tryz.func77) (hc:=(fun hc=>jhas_ (bk (l.drop 1)) (mB #[10]) _ _)) (k:=?_))
   refine B1 [2] [0,1,2,6,7,8,9,10,11,88] (k:=A0 ?_)
   refine B7 (b:=I0 (bk (l.drop 1)) (mB #[10])) kr (fun hc4=>?_) (fun hc4=>?_)
   ·
    have h10:(l.drop 1).take 1=[10]:=(N4 _ _).1 hc4
    have hg:l.getD 1 0=10:=by rw [Go.Xml.drop_getD h2l] at h10; injection h10
    refine A1 (A3 ?_)
    refine A4 (j:=4) [0,0,0,0] (k:=A6 (ch:=[]) (b:=n1) (off:=2) (v:=.string (mB #[10])) (hA:=At.grp 2 0 rfl rfl) (k:=?_))
    refine B1 [0,0,0] [0,1,2,6,7,8,9,10,11] (k:=A0 ?_)
    refine A1 (A3 ?_)
    refine A4 (j:=4) [0,0,0,0] (k:=A6 (ch:=[]) (b:=n1) (off:=2) (v:=.string (mB #[10])) (hA:=At.grp 2 0 rfl rfl) (k:=?_))
    refine A4 (j:=6) [0] (k:=H8 (ch:=[]) (s:=(bk (l.drop 1))) (vl:=(some (.int .i64 1))) (vh:=none) (l:=1) (h:=((bk (l.drop 1)).size:Int)) (hb:=(by intro _; rw [D9,List.length_drop]; exact ⟨by omega,by omega,by omega⟩)) (k:=?_))
    refine F0 (E':=[⟨102,[],.string (bk ((l.drop 1).drop 1))⟩,⟨101,[],.int .i64 1⟩,⟨100,[],.string (mB #[10])⟩,⟨99,[],.pointer (some ⟨n1,2,none⟩)⟩,⟨98,[],pt n1⟩,⟨97,[],pt n1⟩,⟨96,[],.string (bk (l.drop 1))⟩,⟨0,[],pt b⟩,⟨1,[],.string (bk (l.drop 1))⟩,⟨2,[],.bool false⟩,⟨6,[],.string (mB #[10])⟩,⟨7,[],.int .i64 1⟩,⟨8,[],.bool true⟩,⟨9,[],.int .i64 2⟩,⟨10,[],pt n1⟩,⟨11,[],.int .i64 2⟩]) (by have hz:([⟨102,[],.string ((bk (l.drop 1)).extract 1 (bk (l.drop 1)).size)⟩,⟨101,[],.int .i64 1⟩,⟨100,[],.string (mB #[10])⟩,⟨99,[],.pointer (some ⟨n1,2,none⟩)⟩,⟨98,[],pt n1⟩,⟨97,[],pt n1⟩,⟨96,[],.string (bk (l.drop 1))⟩,⟨0,[],pt b⟩,⟨1,[],.string (bk (l.drop 1))⟩,⟨2,[],.bool false⟩,⟨6,[],.string (mB #[10])⟩,⟨7,[],.int .i64 1⟩,⟨8,[],.bool true⟩,⟨9,[],.int .i64 2⟩,⟨10,[],pt n1⟩,⟨11,[],.int .i64 2⟩]:List Sl)=[⟨102,[],.string (bk ((l.drop 1).drop 1))⟩,⟨101,[],.int .i64 1⟩,⟨100,[],.string (mB #[10])⟩,⟨99,[],.pointer (some ⟨n1,2,none⟩)⟩,⟨98,[],pt n1⟩,⟨97,[],pt n1⟩,⟨96,[],.string (bk (l.drop 1))⟩,⟨0,[],pt b⟩,⟨1,[],.string (bk (l.drop 1))⟩,⟨2,[],.bool false⟩,⟨6,[],.string (mB #[10])⟩,⟨7,[],.int .i64 1⟩,⟨8,[],.bool true⟩,⟨9,[],.int .i64 2⟩,⟨10,[],pt n1⟩,⟨11,[],.int .i64 2⟩]:=(by rw [ext_bk]); exact Eq.trans kr hz) (B5 (E':=[⟨0,[],pt b⟩,⟨1,[],.string (bk ((l.drop 1).drop 1))⟩,⟨2,[],.bool false⟩,⟨6,[],.string (mB #[10])⟩,⟨7,[],.int .i64 1⟩,⟨8,[],.bool true⟩,⟨9,[],.int .i64 2⟩,⟨10,[],pt n1⟩,⟨11,[],.int .i64 2⟩]) [0] [0,1,2,6,7,8,9,10,11] (k:=?_))
    refine A0 (A3 ?_)
    refine A4 (j:=3) [0,0,0] (k:=A6 (ch:=[]) (b:=n1) (off:=3) (v:=pt n2) (hA:=At.grp 2 0 rfl rfl) (k:=?_))
    refine B1 [0] [0,1,2,6,7,8,9,10,11] (k:=C6 ?_)
    refine N_rd (G1 ?_)
    refine A1 (A1 ?_)
    refine G_p [0,0] [0,1,2,6,7,8,9,10,11,17] (k:=A0 ?_)
    refine C4 kr (B4 ?_)
    refine A0 (B8 ?_)
    refine A1 (A1 ?_)
    refine A3 (A4 (j:=3) [0,0,0] (k:=?_))
    refine A6 (ch:=[]) (b:=n2) (off:=1) (v:=.int .i64 4) (hA:=At.grp 3 0 rfl rfl) (k:=B1 [0,0,0,0,0,1,1,1,1,1,3,0,2] [0,1,2,6,7,8,9,10,11,34] (k:=?_))
    refine A0 (C4 kr ?_)
    refine A1 (A3 ?_)
    refine A4 (j:=3) [0,0,0] (k:=A6 (ch:=[]) (b:=n2) (off:=1) (v:=.int .i64 4) (hA:=At.grp 3 0 rfl rfl) (k:=?_))
    refine B1 [0] [0,1,2,9,10,11] (k:=A0 ?_)
    refine A1 (A3 ?_)
    refine A4 (j:=3) [0,0,0] (k:=A6 (ch:=[]) (b:=n2) (off:=0) (v:=.string (mB #[10])) (hA:=At.grp 3 0 rfl rfl) (k:=?_))
    refine B1 [0] [0,1,2,6,9,10,11] (k:=A0 ?_)
    refine A1 (C3 (E':=[⟨0,[],pt b⟩,⟨1,[],.string (bk ((l.drop 1).drop 1))⟩,⟨2,[],.bool false⟩,⟨6,[],.string (mB #[10])⟩,⟨7,[],.int .i64 2⟩,⟨9,[],.int .i64 4⟩,⟨10,[],pt n2⟩,⟨11,[],.int .i64 2⟩]) [0,0] [0,1,2,6,7,9,10,11] (k:=?_))
    refine A0 (G_p [0] [0,1,2,6,7,8,9,10,11] (k:=?_))
    refine A0 (A1 ?_)
    refine A1 (G_p [0,0] [0,1,2,6,7,8,9,10,11,45] (k:=?_))
    refine A0 (B7 (b:=(bk ((l.drop 1).drop 1)).toList==eB.toList) kr (fun hc5=>?_) (fun hc5=>?_))
    ·
     skip
     refine H7 (B0 ?_)
     refine P3 rfl (B0 ?_)
     refine C7 (A0 ?_)
     refine C5 (B9 [.tmp 6,.tmp 7,.tmp 8] [.string (mB #[10]),.int .i64 2,.bool true] (k:=?_))
     exact ⟨.inr (.inr ⟨h2l,hg,rfl⟩),rfl⟩
    ·
     skip
     refine B4 (A0 ?_)
     refine A1 (A3 ?_)
     refine A4 (j:=3) [0,0,0] (k:=A6 (ch:=[]) (b:=n2) (off:=4) (v:=.slice none 0 0) (hA:=At.grp 3 0 rfl rfl) (k:=?_))
     refine B1 [0] [0,1,2,6,7,8,9,10,11,50] (k:=A0 ?_)
     refine D3 kr (A1 ?_)
     refine A3 (A4 (j:=3) [0,0,0] (k:=?_))
     refine A6 (ch:=[]) (b:=n2) (off:=2) (v:=.string eB) (hA:=At.grp 3 0 rfl rfl) (k:=G5 (E':=[⟨80,[],.bool (!(eB.toList==eB.toList))⟩,⟨0,[],pt b⟩,⟨1,[],.string (bk ((l.drop 1).drop 1))⟩,⟨2,[],.bool false⟩,⟨6,[],.string (mB #[10])⟩,⟨7,[],.int .i64 2⟩,⟨8,[],.bool true⟩,⟨9,[],.int .i64 4⟩,⟨10,[],pt n2⟩,⟨11,[],.int .i64 2⟩]) (j:=5) [0] (k:=?_))
     refine F0 (E':=[⟨80,[],.bool false⟩,⟨0,[],pt b⟩,⟨1,[],.string (bk ((l.drop 1).drop 1))⟩,⟨2,[],.bool false⟩,⟨6,[],.string (mB #[10])⟩,⟨7,[],.int .i64 2⟩,⟨8,[],.bool true⟩,⟨9,[],.int .i64 4⟩,⟨10,[],pt n2⟩,⟨11,[],.int .i64 2⟩]) (by rw [show (!(eB.toList==eB.toList))=false from by kernel_rfl]) (B1 [0,1,1,1,1,1,1,3] [0,1,2,6,7,8,9,10,11,88] (k:=?_))
     refine A0 (D3 kr ?_)
     refine H7 (P3 rfl ?_)
     refine B0 (C7 ?_)
     refine A0 (C5 ?_)
     refine B9 [.tmp 6,.tmp 7,.tmp 8] [.string (mB #[10]),.int .i64 2,.bool true] (k:=?_)
     exact ⟨.inr (.inr ⟨h2l,hg,rfl⟩),rfl⟩
   ·
    have h10:¬ (l.drop 1).take 1=[10]:=(N3 _ _).1 hc4
    have hg:¬ l.getD 1 0=10:=fun hn=>h10 (by rw [Go.Xml.drop_getD h2l,hn]; rfl)
    refine H7 (P3 rfl ?_)
    refine B0 (C7 ?_)
    refine A0 (C5 ?_)
    refine B9 [.tmp 6,.tmp 7,.tmp 8] [.string (mB #[10]),.int .i64 1,.bool true] (k:=?_)
    exact ⟨.inr (.inl ⟨h1,fun h=>hg h.2,rfl⟩),rfl⟩
theorem aswStr_ (wb:Nat) (v:Value) (g:Grp) (t s:ByteArray) (hv:BOwn v g t) (hs:t.size+s.size≤140737488355328) (W0:World) (H:List Grp):Tri Tryz.prog 291 #[pt wb,.string s] W0 ([(wb,.cells #[v] 308 (0,0))]::g::H) (fun r H'=>r=.tuple #[.int .i64 (s.size:Int),.nilIface]∧∃ v' g',BOwn v' g' (t++s)∧H'=[(wb,.cells #[v'] 308 (0,0))]::g'::H):=by
 refine D0 (args:=[pt wb,.string s]) (n:=15) Tryz.func291 rfl rfl (Nat.le_of_ble_eq_true rfl) ?_
 refine A1 (C3 (E':=[⟨0,[],pt wb⟩,⟨1,[],.string s⟩]) [0,0] [0,1] (k:=?_))
 refine A0 (A1 ?_)
 refine A3 (A4 (j:=3) [0,0,0] (k:=?_))
 refine A6 (ch:=[]) (b:=wb) (off:=0) (v:=v) (hA:=At.grp 0 0 rfl rfl) (k:=A4 (j:=5) [0] (k:=?_))
 refine G4 (i:=5) (ch:=[]) (t:=308) (tx:=9) (e:=5) (inf:=Tryz.t5) (s:=v) (x:=.string s) (n:=t.size) (m:=s.size) (j:=1) (cs:=(u8s t.data.toList)) (news:=(u8s s.data.toList)) (g:=g) (S:=(inB W0)) rfl rfl rfl rfl kr kr kr rfl rfl (.inr ⟨kr,rfl⟩) (fun _=>⟨rfl,kr⟩) (fun ⟨_,_,_,h⟩=>by cases h) kr kr kr rfl hv (SrcOf.str s) at_inB (by rw [show (u8s s.data.toList).length=_ from List.length_map _,Array.length_toList]; exact (Nat.mul_one _).symm) u8_one (by omega) (by show (t.size+s.size) * 1≤140737488355328; omega) (fun v1 g2 hO3=>?_)
 obtain ⟨a4,cap5,rfl,hcap6,hrd7⟩:=hO3.shape
 refine A4 (j:=7) [0] (k:=E2 (ch:=[]) (b:=wb) (off:=0) (v:=.slice a4 (t.size+s.size) cap5) (j:=0) ([(wb,.cells #[.slice a4 (t.size+s.size) cap5] 308 (0,0))]::g2::H) (hoff:=Nat.le_of_ble_eq_true rfl) (hfz:=(fun _ _=>E0)) (k:=?_))
 refine B5 (E':=[⟨1,[],.string s⟩]) [] [1] (k:=A0 ?_)
 refine A1 (G_p [0,0,0,0] [4,5] (k:=?_))
 refine A0 (C5 ?_)
 refine B9 [.tmp 4,.tmp 5] [.int .i64 (s.size:Int),.nilIface] (k:=?_)
 exact ⟨rfl,_,_,own_text hO3 rfl (by simp [ByteArray.size_append]),rfl⟩
theorem getSW_ (wb:Nat) (W0:World) (H:List Grp):Tri Tryz.prog 280 #[.iface 309 (pt wb)] W0 H (fun v H'=>v=.iface 309 (pt wb)∧H'=H):=by
 refine D0 (args:=[.iface 309 (pt wb)]) (n:=16) Tryz.func280 rfl rfl (Nat.le_of_ble_eq_true rfl) ?_
 refine A1 (C3 (E':=[⟨0,[],.iface 309 (pt wb)⟩]) [0] [0] (k:=?_))
 refine A0 (A1 ?_)
 refine A3 (A4 (j:=1) [0] (k:=?_))
 refine GL_assertI (i:=1) (ch:=[]) (xt:=311) (t:=313) (b:=true) (u:=.iface 309 (pt wb)) (v:=.tuple #[.iface 309 (pt wb),.bool true]) rfl rfl kr (fun w=>by kernel_rfl) kr kr kr (B1 [0,0,0,0,0] [0,3,4] (k:=?_))
 refine A0 (A1 ?_)
 refine A1 (G_p [0,0] [0,3,11] (k:=?_))
 refine A0 (D3 kr ?_)
 refine B4 (A0 ?_)
 refine A1 (C3 (E':=[⟨2,[],.iface 309 (pt wb)⟩]) [0,0] [2] (k:=?_))
 refine A0 (C5 ?_)
 refine B9 [.tmp 2] [.iface 309 (pt wb)] (k:=?_)
 exact ⟨rfl,rfl⟩
theorem genWrite_ (b t n1 n2 wb:Nat) (v:Value) (g:Grp) (l:List UInt8) (hl:l.length≤1000000000000) (hv:BOwn v g (bk [])) (W0:World) (H:List Grp):Tri Tryz.prog 279 #[pt b,.iface 309 (pt wb),.string (bk l)] W0 ([(b,.cells (H6 [.string eB,.int .i64 0,.string eB,.pointer none,.slice (some ⟨t,0,none⟩) 2 2,.int .i64 2] (J1 256)) 268 (0,0))]::[(t,.cells #[.pointer none,pt n1] 263 (0,0))]::[(n1,.cells #[.string (mB #[10]),.int .i64 2,.string (mB #[10]),pt n2,.slice none 0 0] 266 (0,0))]::[(n2,.cells #[.string (mB #[10]),.int .i64 4,.string eB,.pointer none,.slice none 0 0] 266 (0,0))]::[(wb,.cells #[v] 308 (0,0))]::g::H) (fun r H'=>∃ n v' g',r=.tuple #[.int .i64 n,.nilIface]∧BOwn v' g' (bk (A7 l))∧H'=([(b,.cells (H6 [.string eB,.int .i64 0,.string eB,.pointer none,.slice (some ⟨t,0,none⟩) 2 2,.int .i64 2] (J1 256)) 268 (0,0))]::[(t,.cells #[.pointer none,pt n1] 263 (0,0))]::[(n1,.cells #[.string (mB #[10]),.int .i64 2,.string (mB #[10]),pt n2,.slice none 0 0] 266 (0,0))]::[(n2,.cells #[.string (mB #[10]),.int .i64 4,.string eB,.pointer none,.slice none 0 0] 266 (0,0))]::[(wb,.cells #[v'] 308 (0,0))]::g'::H)):=by
 have hbz:=D9 l
 refine D0 (args:=[pt b,.iface 309 (pt wb),.string (bk l)]) (n:=131) Tryz.func279 rfl rfl (Nat.le_of_ble_eq_true rfl) ?_
 refine A1 (G_p [0,0] [0,1,2,6,7] (k:=?_))
 refine A0 (A1 ?_)
 refine A3 (A4 (j:=1) [0] (k:=?_))
 refine M5 Tryz.func280 (getSW_ wb _ _) (B1 [0] [0,2,6,7,8] (k:=?_))
 refine A0 (A1 ?_)
 refine G_p [0,0] [0,2,6,7,8,9] (k:=A0 ?_)
 refine A1 (G_p [0] [0,2,6,7,8,9,11] (k:=?_))
 refine A0 (A1 ?_)
 refine A1 (G_p [0] [0,2,6,7,8,9,11,12] (k:=?_))
 refine A0 (B8 ?_)
 refine L4 (EI:=(fun ξ:Nat × Nat × ByteArray × Value × Grp=>[⟨0,[],pt b⟩,⟨2,[],.string (bk l)⟩,⟨6,[],.int .i64 (ξ.2.2.1.size:Int)⟩,⟨7,[],.nilIface⟩,⟨8,[],.iface 309 (pt wb)⟩,⟨9,[],.int .i64 ((ξ.2.1:Nat):Int)⟩,⟨11,[],.bool false⟩,⟨12,[],.int .i64 ((ξ.1:Nat):Int)⟩])) (HI:=(fun ξ:Nat × Nat × ByteArray × Value × Grp=>([(b,.cells (H6 [.string eB,.int .i64 0,.string eB,.pointer none,.slice (some ⟨t,0,none⟩) 2 2,.int .i64 2] (J1 256)) 268 (0,0))]::[(t,.cells #[.pointer none,pt n1] 263 (0,0))]::[(n1,.cells #[.string (mB #[10]),.int .i64 2,.string (mB #[10]),pt n2,.slice none 0 0] 266 (0,0))]::[(n2,.cells #[.string (mB #[10]),.int .i64 4,.string eB,.pointer none,.slice none 0 0] 266 (0,0))]::[(wb,.cells #[ξ.2.2.2.1] 308 (0,0))]::ξ.2.2.2.2::H))) (Φ:=(fun ξ:Nat × Nat × ByteArray × Value × Grp=>(ξ.1≤l.length+1)∧(ξ.2.1≤ξ.1)∧(ξ.2.1≤l.length)∧(ξ.2.2.1.size≤ξ.2.1)∧(BOwn ξ.2.2.2.1 ξ.2.2.2.2 ξ.2.2.1)∧(A7 l=ξ.2.2.1.data.toList++((l.drop ξ.2.1).take (ξ.1 - ξ.2.1)++A7 (l.drop ξ.1))))) (μ:=(fun ξ:Nat × Nat × ByteArray × Value × Grp=>l.length+2 - ξ.1)) (s0:=(0,0,bk [],v,g)) [0,2,6,7,8,9,11,12] kr rfl ⟨(Nat.zero_le _),(Nat.le_refl _),(Nat.zero_le _),(Nat.le_refl _),hv,rfl⟩ ?_
 rintro ⟨i,last,q,v,g⟩ ⟨hil,hla,hll,hq,hv,hT⟩
 dsimp only at hil hla hll hq hv hT
 refine A1 (A1 ?_)
 refine G_p [0,0,0,0] [0,2,6,7,8,9,11,12,22] (k:=A0 ?_)
 refine B7 (b:=decide (((i:Nat):Int)≤((bk l).size:Int))) kr (fun hc1=>?_) (fun hc1=>?_)
 ·
  simp only [decide_eq_true_eq] at hc1
  have hle:=hc1
  refine B4 (A0 ?_)
  refine B8 (A1 ?_)
  refine A1 (A3 ?_)
  refine A4 (j:=9) [0,0,0,0,0,0,0,0,0] (k:=A6 (ch:=[(27,true)]) (b:=b) (off:=1) (v:=.int .i64 0) (hA:=At.grp 0 0 rfl rfl) (hv:=L6 rfl) (k:=?_))
  refine B1 [0,6] [0,2,6,7,8,9,11,12,34] (k:=A0 ?_)
  refine B7 (b:=(((i:Nat):Int) != ((bk l).size:Int))&&true) kr (fun hc2=>?_) (fun hc2=>?_)
  ·
   simp only [bne_iff_ne,ne_eq,Bool.and_true] at hc2
   have hlt:=hc2
   refine A1 ?_
   rcases byte3 (l.getD i 0) with hb | hb | hb
   ·
    refine I8 (k:=A4 (j:=3) [0,0,0] (k:=?_))
    refine H3 (ch:=[]) (s:=(bk l)) (kd:=.i64) (j:=((i:Nat):Int)) (hb:=(by intro _; exact ⟨by omega,by omega⟩)) (k:=?_)
    have hb3:=J3 (bk l) ((i:Nat):Int)
    refine A4 (j:=6) [0,0] (k:=E6 (ch:=[]) (b:=b) (off:=6) (len:=256) (sz:=1) (e:=5) (kd:=.u8) (j:=D7 (bk l) ((i:Nat):Int)) (hb:=(fun _=>by exact ⟨by omega,by omega⟩)) (k:=?_))
    refine A6 (ch:=[]) (b:=b) (off:=6+Int.toNat (D7 (bk l) ((i:Nat):Int)) * 1) (v:=.int .u8 (m2 (l.getD i 0).toNat)) (hA:=At.grp 0 0 rfl rfl) (hv:=grpC_at (k:=(l.getD i 0).toNat) rfl (by rw [byteJ]; omega) (l.getD i 0).toNat_lt (finK_end (l.getD i 0).toNat_lt)) (k:=F0 (E':=[⟨42,[],.int .u8 1⟩,⟨41,[],.pointer (some ⟨b,6+Int.toNat (D7 (bk l) ((i:Nat):Int)) * 1,none⟩)⟩,⟨40,[],.pointer (some ⟨b,6,none⟩)⟩,⟨39,[],pt b⟩,⟨38,[],.int .u8 (D7 (bk l) ((i:Nat):Int))⟩,⟨37,[],.int .i64 ((i:Nat):Int)⟩,⟨36,[],.string (bk l)⟩,⟨35,[],pt b⟩,⟨0,[],pt b⟩,⟨2,[],.string (bk l)⟩,⟨6,[],.int .i64 (q.size:Int)⟩,⟨7,[],.nilIface⟩,⟨8,[],.iface 309 (pt wb)⟩,⟨9,[],.int .i64 ((last:Nat):Int)⟩,⟨11,[],.bool false⟩,⟨12,[],.int .i64 ((i:Nat):Int)⟩,⟨34,[],.bool ((((i:Nat):Int) != ((bk l).size:Int))&&true)⟩]) (by have hz:([⟨42,[],.int .u8 (m2 (l.getD i 0).toNat)⟩,⟨41,[],.pointer (some ⟨b,6+Int.toNat (D7 (bk l) ((i:Nat):Int)) * 1,none⟩)⟩,⟨40,[],.pointer (some ⟨b,6,none⟩)⟩,⟨39,[],pt b⟩,⟨38,[],.int .u8 (D7 (bk l) ((i:Nat):Int))⟩,⟨37,[],.int .i64 ((i:Nat):Int)⟩,⟨36,[],.string (bk l)⟩,⟨35,[],pt b⟩,⟨0,[],pt b⟩,⟨2,[],.string (bk l)⟩,⟨6,[],.int .i64 (q.size:Int)⟩,⟨7,[],.nilIface⟩,⟨8,[],.iface 309 (pt wb)⟩,⟨9,[],.int .i64 ((last:Nat):Int)⟩,⟨11,[],.bool false⟩,⟨12,[],.int .i64 ((i:Nat):Int)⟩,⟨34,[],.bool ((((i:Nat):Int) != ((bk l).size:Int))&&true)⟩]:List Sl)=[⟨42,[],.int .u8 1⟩,⟨41,[],.pointer (some ⟨b,6+Int.toNat (D7 (bk l) ((i:Nat):Int)) * 1,none⟩)⟩,⟨40,[],.pointer (some ⟨b,6,none⟩)⟩,⟨39,[],pt b⟩,⟨38,[],.int .u8 (D7 (bk l) ((i:Nat):Int))⟩,⟨37,[],.int .i64 ((i:Nat):Int)⟩,⟨36,[],.string (bk l)⟩,⟨35,[],pt b⟩,⟨0,[],pt b⟩,⟨2,[],.string (bk l)⟩,⟨6,[],.int .i64 (q.size:Int)⟩,⟨7,[],.nilIface⟩,⟨8,[],.iface 309 (pt wb)⟩,⟨9,[],.int .i64 ((last:Nat):Int)⟩,⟨11,[],.bool false⟩,⟨12,[],.int .i64 ((i:Nat):Int)⟩,⟨34,[],.bool ((((i:Nat):Int) != ((bk l).size:Int))&&true)⟩]:=(by rw [show m2 (l.getD i 0).toNat=1 by rw [hb]; rfl]); exact Eq.trans kr hz) ?_)
    refine B1 [0,0] [0,2,6,7,8,9,11,12,13] (k:=A0 ?_)
    refine A1 (A3 ?_)
    refine A4 (j:=4) [0,0,0,0] (k:=A6 (ch:=[]) (b:=b) (off:=5) (v:=.int .i64 2) (hA:=At.grp 0 0 rfl rfl) (hv:=L6 rfl) (k:=?_))
    refine A4 (j:=11) [0,0,0,0,0,0] (k:=A6 (ch:=[(50,false)]) (b:=b) (off:=4) (v:=.slice (some ⟨t,0,none⟩) 2 2) (hA:=At.grp 0 0 rfl rfl) (hv:=L6 rfl) (k:=?_))
    refine A4 (j:=13) [0] (k:=A9 (ch:=[(50,false)]) (a:=(some ⟨t,0,none⟩)) (len:=2) (cap:=2) (kd:=.i64) (j:=1) (e:=263) (sz:=1) (S:=(inG [(t,.cells #[.pointer none,pt n1] 263 (0,0))])) (cs:=[.pointer none,pt n1]) (hrd:=Rd.lit) (hb:=(fun hc=>by exact ⟨by decide,by decide,by intro h; cases h⟩)) (k:=?_))
    refine F0 (E':=[⟨57,[(50,false)],.pointer (some ⟨t,1,none⟩)⟩,⟨56,[(50,false)],.int .i64 1⟩,⟨55,[(50,false)],.slice (some ⟨t,0,none⟩) 2 2⟩,⟨54,[(50,false)],.pointer (some ⟨b,4,none⟩)⟩,⟨53,[(50,false)],pt b⟩,⟨52,[(50,false)],pt b⟩,⟨51,[(50,false)],pt b⟩,⟨50,[],.bool false⟩,⟨49,[],.bool false⟩,⟨48,[],.int .i64 2⟩,⟨47,[],.pointer (some ⟨b,5,none⟩)⟩,⟨46,[],pt b⟩,⟨45,[],pt b⟩,⟨44,[],.int .i64 1⟩,⟨0,[],pt b⟩,⟨2,[],.string (bk l)⟩,⟨6,[],.int .i64 (q.size:Int)⟩,⟨7,[],.nilIface⟩,⟨8,[],.iface 309 (pt wb)⟩,⟨9,[],.int .i64 ((last:Nat):Int)⟩,⟨11,[],.bool false⟩,⟨12,[],.int .i64 ((i:Nat):Int)⟩,⟨13,[],.int .i64 1⟩]) kr (A6 (ch:=[(50,false)]) (b:=t) (off:=1) (v:=pt n1) (hA:=At.grp 1 0 rfl rfl) (k:=?_))
    refine B1 [0,3] [0,2,6,7,8,9,11,12,60] (k:=A0 ?_)
    refine D3 kr (B4 ?_)
    refine A0 (A1 ?_)
    refine A3 (A4 (j:=3) [0,0,0] (k:=?_))
    refine H8 (ch:=[]) (s:=(bk l)) (vl:=(some (.int .i64 ((i:Nat):Int)))) (vh:=none) (l:=((i:Nat):Int)) (h:=((bk l).size:Int)) (hb:=(by intro _; exact ⟨by omega,by omega,by omega⟩)) (k:=F0 (E':=[⟨67,[],.string (bk (l.drop i))⟩,⟨66,[],.int .i64 ((i:Nat):Int)⟩,⟨65,[],.string (bk l)⟩,⟨64,[],pt b⟩,⟨0,[],pt b⟩,⟨2,[],.string (bk l)⟩,⟨6,[],.int .i64 (q.size:Int)⟩,⟨7,[],.nilIface⟩,⟨8,[],.iface 309 (pt wb)⟩,⟨9,[],.int .i64 ((last:Nat):Int)⟩,⟨11,[],.bool false⟩,⟨12,[],.int .i64 ((i:Nat):Int)⟩,⟨60,[],.bool false⟩]) (by have hz:([⟨67,[],.string ((bk l).extract i (bk l).size)⟩,⟨66,[],.int .i64 ((i:Nat):Int)⟩,⟨65,[],.string (bk l)⟩,⟨64,[],pt b⟩,⟨0,[],pt b⟩,⟨2,[],.string (bk l)⟩,⟨6,[],.int .i64 (q.size:Int)⟩,⟨7,[],.nilIface⟩,⟨8,[],.iface 309 (pt wb)⟩,⟨9,[],.int .i64 ((last:Nat):Int)⟩,⟨11,[],.bool false⟩,⟨12,[],.int .i64 ((i:Nat):Int)⟩,⟨60,[],.bool false⟩]:List Sl)=[⟨67,[],.string (bk (l.drop i))⟩,⟨66,[],.int .i64 ((i:Nat):Int)⟩,⟨65,[],.string (bk l)⟩,⟨64,[],pt b⟩,⟨0,[],pt b⟩,⟨2,[],.string (bk l)⟩,⟨6,[],.int .i64 (q.size:Int)⟩,⟨7,[],.nilIface⟩,⟨8,[],.iface 309 (pt wb)⟩,⟨9,[],.int .i64 ((last:Nat):Int)⟩,⟨11,[],.bool false⟩,⟨12,[],.int .i64 ((i:Nat):Int)⟩,⟨60,[],.bool false⟩]:=(by rw [ext_bk]); exact Eq.trans kr hz) ?_)
    refine A4 (j:=5) [0] (k:=E7 Tryz.func281 (lookup_ b t n1 n2 (l.drop i) (by rw [List.length_drop]; omega) (.inr (by rw [Go.Xml.drop_getD (by omega)]; exact hb)) _ _) ?_)
    rintro _ _ ⟨⟨hlk,rfl⟩ | ⟨hlk,hlk2,rfl⟩ | ⟨hlk,hlk2,rfl⟩,rfl⟩
    ·
     exact absurd hlk (fun h=>by have:=congrArg List.length h; rw [List.length_drop,List.length_nil] at this; omega)
    ·
     have hxs:((bk l).extract last i).size=i - last:=by rw [ByteArray.size_extract]; omega
     have hno:¬ (i+1<l.length∧l.getD (i+1) 0=10):=by
      rintro ⟨h1,h2⟩
      exact hlk2 ⟨by rw [List.length_drop]; omega,by rw [List.getD_eq_getElem?_getD,List.getElem?_drop,← List.getD_eq_getElem?_getD]; exact h2⟩
     refine B1 [0,0,0,0,0,0,0] [0,2,6,7,8,9,12,14,15,16] (k:=A0 ?_)
     refine A1 (C3 (E':=[⟨0,[],pt b⟩,⟨2,[],.string (bk l)⟩,⟨6,[],.int .i64 (q.size:Int)⟩,⟨7,[],.nilIface⟩,⟨8,[],.iface 309 (pt wb)⟩,⟨9,[],.int .i64 ((last:Nat):Int)⟩,⟨11,[],.bool false⟩,⟨12,[],.int .i64 ((i:Nat):Int)⟩,⟨14,[],.string (mB #[10])⟩,⟨15,[],.int .i64 1⟩,⟨16,[],.bool true⟩]) [0,0,0,0,2,0] [0,2,6,7,8,9,11,12,14,15,16] (k:=?_))
     refine A0 (A1 ?_)
     refine A1 (G_p [0] [0,2,6,7,8,9,11,12,14,15,78] (k:=?_))
     refine A0 (C4 kr ?_)
     refine A1 (I4 ([(b,.cells (H6 [.string eB,.int .i64 0,.string eB,.pointer none,.slice (some ⟨t,0,none⟩) 2 2,.int .i64 2] (J1 256)) 268 (0,0))]::[(t,.cells #[.pointer none,pt n1] 263 (0,0))]::[(n1,.cells #[.string (mB #[10]),.int .i64 2,.string (mB #[10]),pt n2,.slice none 0 0] 266 (0,0))]::[(n2,.cells #[.string (mB #[10]),.int .i64 4,.string eB,.pointer none,.slice none 0 0] 266 (0,0))]::H) kr ?_)
     refine G6 (fuel:=10) [(0,0),(1,0),(2,0),(3,0)] (fun w h=>((h.erase 5).erase 4)) (k:=F7 4 (hL:=(fun w h=>((h.erase 5).erase 4))) (hy:=H8 (i:=4) (ch:=[]) (s:=(bk l)) (vl:=(some (.int .i64 ((last:Nat):Int)))) (vh:=(some (.int .i64 ((i:Nat):Int)))) (l:=((last:Nat):Int)) (h:=((i:Nat):Int)) (hb:=(by intro _; exact ⟨by omega,by omega,by omega⟩)) (k:=G9 kr rfl)) (k:=?_))
     refine G6 (fuel:=8) [(5,0)] (fun w h=>((h.erase 5).erase 4)) (k:=GH_nilF (fn:=.method "WriteString") (fa:=#[.iface 309 (pt wb)]) (fc:=#[]) 6 (hrun:=(fun w=>by kernel_rfl)) (hL:=(fun w h=>((h.erase 5).erase 4))) (k:=?_))
     refine G6 (fuel:=6) [(7,0)] (fun w h=>((h.erase 5).erase 4)) (k:=E4 8 (k:=?_))
     refine H4 rfl (H':=([(wb,.cells #[v] 308 (0,0))]::g::[(b,.cells (H6 [.string eB,.int .i64 0,.string eB,.pointer none,.slice (some ⟨t,0,none⟩) 2 2,.int .i64 2] (J1 256)) 268 (0,0))]::[(t,.cells #[.pointer none,pt n1] 263 (0,0))]::[(n1,.cells #[.string (mB #[10]),.int .i64 2,.string (mB #[10]),pt n2,.slice none 0 0] 266 (0,0))]::[(n2,.cells #[.string (mB #[10]),.int .i64 4,.string eB,.pointer none,.slice none 0 0] 266 (0,0))]::H)) (fun w h=>((h.front (j:=5) rfl).front (j:=5) rfl)) (Q8 (t:=309) (rv:=pt wb) (f:=291) (vs:=[.string ((bk l).extract last i)]) (av:=#[pt wb,.string ((bk l).extract last i)]) (hm:=(fun _=>by kernel_rfl)) (hc:=aswStr_ wb (v) g q ((bk l).extract last i) hv (by first | (rw [ByteArray.size_extract]; omega) | (rw [ByteArray.size_append,ByteArray.size_extract]; omega) | (show _+1≤_; rw [ByteArray.size_append,ByteArray.size_extract]; omega)) _ _) (k:=?_))
     rintro _ _ ⟨rfl,v4,g5,hO6,rfl⟩
     refine B6 kr (fun w h=>((h.erase 1).erase 0)) (G6 (fuel:=0) [(9,0),(10,0),(11,0),(12,0),(13,0)] (fun w h=>((h.erase 1).erase 0)) (k:=?_))
     refine G3 (E':=[⟨0,[],pt b⟩,⟨2,[],.string (bk l)⟩,⟨6,[],.int .i64 (q.size:Int)⟩,⟨7,[],.nilIface⟩,⟨8,[],.iface 309 (pt wb)⟩,⟨10,[],.int .i64 (((bk l).extract last i).size:Int)⟩,⟨11,[],.bool false⟩,⟨12,[],.int .i64 ((i:Nat):Int)⟩,⟨14,[],.string (mB #[10])⟩,⟨15,[],.int .i64 1⟩]) [0,2,6,7,8,10,11,12,14,15] (k:=A0 ?_)
     refine A1 (A3 ?_)
     refine A4 (j:=3) [0,0,0] (k:=F6 93 ((q.size:Int)+(((bk l).extract last i).size:Int)) (by omega) (by omega) kr ?_)
     refine B1 [0] [0,2,6,7,8,11,12,14,15] (k:=A0 ?_)
     refine A1 (A1 ?_)
     refine A3 (A4 (j:=1) [0] (k:=?_))
     refine O1 (ch:=[]) (v:=.nilIface) (e:=true) true (hv:=.inl ⟨rfl,rfl⟩) (k:=B1 [] [0,2,6,7,8,11,12,14,15,95] (k:=?_))
     refine A0 (D3 kr ?_)
     refine B4 (A0 ?_)
     refine A1 (A3 ?_)
     refine A4 (j:=2) [0,0] (k:=Q8 (t:=309) (rv:=pt wb) (f:=291) (vs:=[.string (mB #[10])]) (av:=#[pt wb,.string (mB #[10])]) (hm:=(fun _=>by kernel_rfl)) (hc:=aswStr_ wb (v4) g5 (q++((bk l).extract last i)) (mB #[10]) hO6 (by first | (rw [ByteArray.size_extract]; omega) | (rw [ByteArray.size_append,ByteArray.size_extract]; omega) | (show _+1≤_; rw [ByteArray.size_append,ByteArray.size_extract]; omega)) _ _) (k:=?_))
     rintro _ _ ⟨rfl,v8,g9,hO10,rfl⟩
     refine B1 [0,0,0,0,0] [0,2,6,7,8,10,11,12,15] (k:=A0 ?_)
     refine A1 (A3 ?_)
     refine A4 (j:=3) [0,0,0] (k:=F6 104 (((q.size:Int)+(((bk l).extract last i).size:Int))+1) (by omega) (by omega) kr ?_)
     refine B1 [0] [0,2,6,7,8,11,12,15] (k:=A0 ?_)
     refine A1 (A1 ?_)
     refine A3 (A4 (j:=1) [0] (k:=?_))
     refine O1 (ch:=[]) (v:=.nilIface) (e:=true) true (hv:=.inl ⟨rfl,rfl⟩) (k:=B1 [] [0,2,6,7,8,11,12,15,106] (k:=?_))
     refine A0 (D3 kr ?_)
     refine B4 (A0 ?_)
     refine A1 (A3 ?_)
     refine A4 (j:=3) [0,0,0] (k:=F6 109 (((i:Nat):Int)+1) (by omega) (by omega) kr ?_)
     refine B5 (E':=[⟨0,[],pt b⟩,⟨2,[],.string (bk l)⟩,⟨6,[],.int .i64 (((q.size:Int)+(((bk l).extract last i).size:Int))+1)⟩,⟨7,[],.nilIface⟩,⟨8,[],.iface 309 (pt wb)⟩,⟨11,[],.bool false⟩,⟨12,[],.int .i64 (((i:Nat):Int)+1)⟩]) [0] [0,2,6,7,8,11,12] (k:=A0 ?_)
     refine A1 (G_p [0,0] [0,2,6,7,8,9,11,12] (k:=?_))
     refine A0 (H7 ?_)
     refine B0 (C7 ?_)
     have hn6:((q.size:Int)+(((bk l).extract last i).size:Int))+1=(((q++((bk l).extract last i))++(mB #[10])).size:Int):=by rw [ByteArray.size_append,ByteArray.size_append,hxs,show (mB #[10]).size=1 from rfl]; omega
     refine W4 (E':=[⟨0,[],pt b⟩,⟨2,[],.string (bk l)⟩,⟨6,[],.int .i64 (((q.size:Int)+(((bk l).extract last i).size:Int))+1)⟩,⟨7,[],.nilIface⟩,⟨8,[],.iface 309 (pt wb)⟩,⟨9,[],.int .i64 (((i:Nat):Int)+1)⟩,⟨11,[],.bool false⟩,⟨12,[],.int .i64 (((i:Nat):Int)+1)⟩]) kr (W4 (E':=[⟨0,[],pt b⟩,⟨2,[],.string (bk l)⟩,⟨6,[],.int .i64 (((q++((bk l).extract last i))++(mB #[10])).size:Int)⟩,⟨7,[],.nilIface⟩,⟨8,[],.iface 309 (pt wb)⟩,⟨9,[],.int .i64 (((i:Nat):Int)+1)⟩,⟨11,[],.bool false⟩,⟨12,[],.int .i64 (((i:Nat):Int)+1)⟩]) (by rw [hn6]) ?_)
     refine C1 (H':=([(b,.cells (H6 [.string eB,.int .i64 0,.string eB,.pointer none,.slice (some ⟨t,0,none⟩) 2 2,.int .i64 2] (J1 256)) 268 (0,0))]::[(t,.cells #[.pointer none,pt n1] 263 (0,0))]::[(n1,.cells #[.string (mB #[10]),.int .i64 2,.string (mB #[10]),pt n2,.slice none 0 0] 266 (0,0))]::[(n2,.cells #[.string (mB #[10]),.int .i64 4,.string eB,.pointer none,.slice none 0 0] 266 (0,0))]::[(wb,.cells #[v8] 308 (0,0))]::g9::H)) (fun w h=>((((((h.front (j:=1) rfl).front (j:=1) rfl).front (j:=5) rfl).front (j:=5) rfl).front (j:=5) rfl).front (j:=5) rfl)) (E9 (s':=(i+1,i+1,((q++((bk l).extract last i))++(mB #[10])),v8,g9)) [0,2,6,7,8,9,11,12] kr rfl ⟨(by dsimp only; omega),(by dsimp only; omega),(by dsimp only; omega),(by dsimp only; rw [ByteArray.size_append,ByteArray.size_append,hxs,show (mB #[10]).size=1 from rfl]; omega),hO10,(by dsimp only; rw [app_list,app_list,ext_mid]; exact lin_one hT (by omega) hb hno)⟩ (by dsimp only; omega))
    ·
     have hxs:((bk l).extract last i).size=i - last:=by rw [ByteArray.size_extract]; omega
     have hi2:i+1<l.length:=by rw [List.length_drop] at hlk; omega
     have hyes:l.getD (i+1) 0=10:=by rw [List.getD_eq_getElem?_getD,List.getElem?_drop,← List.getD_eq_getElem?_getD] at hlk2; exact hlk2
     refine B1 [0,0,0,0,0,0,0] [0,2,6,7,8,9,12,14,15,16] (k:=A0 ?_)
     refine A1 (C3 (E':=[⟨0,[],pt b⟩,⟨2,[],.string (bk l)⟩,⟨6,[],.int .i64 (q.size:Int)⟩,⟨7,[],.nilIface⟩,⟨8,[],.iface 309 (pt wb)⟩,⟨9,[],.int .i64 ((last:Nat):Int)⟩,⟨11,[],.bool false⟩,⟨12,[],.int .i64 ((i:Nat):Int)⟩,⟨14,[],.string (mB #[10])⟩,⟨15,[],.int .i64 2⟩,⟨16,[],.bool true⟩]) [0,0,0,0,2,0] [0,2,6,7,8,9,11,12,14,15,16] (k:=?_))
     refine A0 (A1 ?_)
     refine A1 (G_p [0] [0,2,6,7,8,9,11,12,14,15,78] (k:=?_))
     refine A0 (C4 kr ?_)
     refine A1 (I4 ([(b,.cells (H6 [.string eB,.int .i64 0,.string eB,.pointer none,.slice (some ⟨t,0,none⟩) 2 2,.int .i64 2] (J1 256)) 268 (0,0))]::[(t,.cells #[.pointer none,pt n1] 263 (0,0))]::[(n1,.cells #[.string (mB #[10]),.int .i64 2,.string (mB #[10]),pt n2,.slice none 0 0] 266 (0,0))]::[(n2,.cells #[.string (mB #[10]),.int .i64 4,.string eB,.pointer none,.slice none 0 0] 266 (0,0))]::H) kr ?_)
     refine G6 (fuel:=10) [(0,0),(1,0),(2,0),(3,0)] (fun w h=>((h.erase 5).erase 4)) (k:=F7 4 (hL:=(fun w h=>((h.erase 5).erase 4))) (hy:=H8 (i:=4) (ch:=[]) (s:=(bk l)) (vl:=(some (.int .i64 ((last:Nat):Int)))) (vh:=(some (.int .i64 ((i:Nat):Int)))) (l:=((last:Nat):Int)) (h:=((i:Nat):Int)) (hb:=(by intro _; exact ⟨by omega,by omega,by omega⟩)) (k:=G9 kr rfl)) (k:=?_))
     refine G6 (fuel:=8) [(5,0)] (fun w h=>((h.erase 5).erase 4)) (k:=GH_nilF (fn:=.method "WriteString") (fa:=#[.iface 309 (pt wb)]) (fc:=#[]) 6 (hrun:=(fun w=>by kernel_rfl)) (hL:=(fun w h=>((h.erase 5).erase 4))) (k:=?_))
     refine G6 (fuel:=6) [(7,0)] (fun w h=>((h.erase 5).erase 4)) (k:=E4 8 (k:=?_))
     refine H4 rfl (H':=([(wb,.cells #[v] 308 (0,0))]::g::[(b,.cells (H6 [.string eB,.int .i64 0,.string eB,.pointer none,.slice (some ⟨t,0,none⟩) 2 2,.int .i64 2] (J1 256)) 268 (0,0))]::[(t,.cells #[.pointer none,pt n1] 263 (0,0))]::[(n1,.cells #[.string (mB #[10]),.int .i64 2,.string (mB #[10]),pt n2,.slice none 0 0] 266 (0,0))]::[(n2,.cells #[.string (mB #[10]),.int .i64 4,.string eB,.pointer none,.slice none 0 0] 266 (0,0))]::H)) (fun w h=>((h.front (j:=5) rfl).front (j:=5) rfl)) (Q8 (t:=309) (rv:=pt wb) (f:=291) (vs:=[.string ((bk l).extract last i)]) (av:=#[pt wb,.string ((bk l).extract last i)]) (hm:=(fun _=>by kernel_rfl)) (hc:=aswStr_ wb (v) g q ((bk l).extract last i) hv (by first | (rw [ByteArray.size_extract]; omega) | (rw [ByteArray.size_append,ByteArray.size_extract]; omega) | (show _+1≤_; rw [ByteArray.size_append,ByteArray.size_extract]; omega)) _ _) (k:=?_))
     rintro _ _ ⟨rfl,v13,g14,hO15,rfl⟩
     refine B6 kr (fun w h=>((h.erase 1).erase 0)) (G6 (fuel:=0) [(9,0),(10,0),(11,0),(12,0),(13,0)] (fun w h=>((h.erase 1).erase 0)) (k:=?_))
     refine G3 (E':=[⟨0,[],pt b⟩,⟨2,[],.string (bk l)⟩,⟨6,[],.int .i64 (q.size:Int)⟩,⟨7,[],.nilIface⟩,⟨8,[],.iface 309 (pt wb)⟩,⟨10,[],.int .i64 (((bk l).extract last i).size:Int)⟩,⟨11,[],.bool false⟩,⟨12,[],.int .i64 ((i:Nat):Int)⟩,⟨14,[],.string (mB #[10])⟩,⟨15,[],.int .i64 2⟩]) [0,2,6,7,8,10,11,12,14,15] (k:=A0 ?_)
     refine A1 (A3 ?_)
     refine A4 (j:=3) [0,0,0] (k:=F6 93 ((q.size:Int)+(((bk l).extract last i).size:Int)) (by omega) (by omega) kr ?_)
     refine B1 [0] [0,2,6,7,8,11,12,14,15] (k:=A0 ?_)
     refine A1 (A1 ?_)
     refine A3 (A4 (j:=1) [0] (k:=?_))
     refine O1 (ch:=[]) (v:=.nilIface) (e:=true) true (hv:=.inl ⟨rfl,rfl⟩) (k:=B1 [] [0,2,6,7,8,11,12,14,15,95] (k:=?_))
     refine A0 (D3 kr ?_)
     refine B4 (A0 ?_)
     refine A1 (A3 ?_)
     refine A4 (j:=2) [0,0] (k:=Q8 (t:=309) (rv:=pt wb) (f:=291) (vs:=[.string (mB #[10])]) (av:=#[pt wb,.string (mB #[10])]) (hm:=(fun _=>by kernel_rfl)) (hc:=aswStr_ wb (v13) g14 (q++((bk l).extract last i)) (mB #[10]) hO15 (by first | (rw [ByteArray.size_extract]; omega) | (rw [ByteArray.size_append,ByteArray.size_extract]; omega) | (show _+1≤_; rw [ByteArray.size_append,ByteArray.size_extract]; omega)) _ _) (k:=?_))
     rintro _ _ ⟨rfl,v17,g18,hO19,rfl⟩
     refine B1 [0,0,0,0,0] [0,2,6,7,8,10,11,12,15] (k:=A0 ?_)
     refine A1 (A3 ?_)
     refine A4 (j:=3) [0,0,0] (k:=F6 104 (((q.size:Int)+(((bk l).extract last i).size:Int))+1) (by omega) (by omega) kr ?_)
     refine B1 [0] [0,2,6,7,8,11,12,15] (k:=A0 ?_)
     refine A1 (A1 ?_)
     refine A3 (A4 (j:=1) [0] (k:=?_))
     refine O1 (ch:=[]) (v:=.nilIface) (e:=true) true (hv:=.inl ⟨rfl,rfl⟩) (k:=B1 [] [0,2,6,7,8,11,12,15,106] (k:=?_))
     refine A0 (D3 kr ?_)
     refine B4 (A0 ?_)
     refine A1 (A3 ?_)
     refine A4 (j:=3) [0,0,0] (k:=F6 109 (((i:Nat):Int)+2) (by omega) (by omega) kr ?_)
     refine B5 (E':=[⟨0,[],pt b⟩,⟨2,[],.string (bk l)⟩,⟨6,[],.int .i64 (((q.size:Int)+(((bk l).extract last i).size:Int))+1)⟩,⟨7,[],.nilIface⟩,⟨8,[],.iface 309 (pt wb)⟩,⟨11,[],.bool false⟩,⟨12,[],.int .i64 (((i:Nat):Int)+2)⟩]) [0] [0,2,6,7,8,11,12] (k:=A0 ?_)
     refine A1 (G_p [0,0] [0,2,6,7,8,9,11,12] (k:=?_))
     refine A0 (H7 ?_)
     refine B0 (C7 ?_)
     have hn6:((q.size:Int)+(((bk l).extract last i).size:Int))+1=(((q++((bk l).extract last i))++(mB #[10])).size:Int):=by rw [ByteArray.size_append,ByteArray.size_append,hxs,show (mB #[10]).size=1 from rfl]; omega
     refine W4 (E':=[⟨0,[],pt b⟩,⟨2,[],.string (bk l)⟩,⟨6,[],.int .i64 (((q.size:Int)+(((bk l).extract last i).size:Int))+1)⟩,⟨7,[],.nilIface⟩,⟨8,[],.iface 309 (pt wb)⟩,⟨9,[],.int .i64 (((i:Nat):Int)+2)⟩,⟨11,[],.bool false⟩,⟨12,[],.int .i64 (((i:Nat):Int)+2)⟩]) kr (W4 (E':=[⟨0,[],pt b⟩,⟨2,[],.string (bk l)⟩,⟨6,[],.int .i64 (((q++((bk l).extract last i))++(mB #[10])).size:Int)⟩,⟨7,[],.nilIface⟩,⟨8,[],.iface 309 (pt wb)⟩,⟨9,[],.int .i64 (((i:Nat):Int)+2)⟩,⟨11,[],.bool false⟩,⟨12,[],.int .i64 (((i:Nat):Int)+2)⟩]) (by rw [hn6]) ?_)
     refine C1 (H':=([(b,.cells (H6 [.string eB,.int .i64 0,.string eB,.pointer none,.slice (some ⟨t,0,none⟩) 2 2,.int .i64 2] (J1 256)) 268 (0,0))]::[(t,.cells #[.pointer none,pt n1] 263 (0,0))]::[(n1,.cells #[.string (mB #[10]),.int .i64 2,.string (mB #[10]),pt n2,.slice none 0 0] 266 (0,0))]::[(n2,.cells #[.string (mB #[10]),.int .i64 4,.string eB,.pointer none,.slice none 0 0] 266 (0,0))]::[(wb,.cells #[v17] 308 (0,0))]::g18::H)) (fun w h=>((((((h.front (j:=1) rfl).front (j:=1) rfl).front (j:=5) rfl).front (j:=5) rfl).front (j:=5) rfl).front (j:=5) rfl)) (E9 (s':=(i+2,i+2,((q++((bk l).extract last i))++(mB #[10])),v17,g18)) [0,2,6,7,8,9,11,12] kr rfl ⟨(by dsimp only; omega),(by dsimp only; omega),(by dsimp only; omega),(by dsimp only; rw [ByteArray.size_append,ByteArray.size_append,hxs,show (mB #[10]).size=1 from rfl]; omega),hO19,(by dsimp only; rw [app_list,app_list,ext_mid]; exact lin_two hT hi2 hb hyes)⟩ (by dsimp only; omega))
   ·
    refine I8 (k:=A4 (j:=3) [0,0,0] (k:=?_))
    refine H3 (ch:=[]) (s:=(bk l)) (kd:=.i64) (j:=((i:Nat):Int)) (hb:=(by intro _; exact ⟨by omega,by omega⟩)) (k:=?_)
    have hb22:=J3 (bk l) ((i:Nat):Int)
    refine A4 (j:=6) [0,0] (k:=E6 (ch:=[]) (b:=b) (off:=6) (len:=256) (sz:=1) (e:=5) (kd:=.u8) (j:=D7 (bk l) ((i:Nat):Int)) (hb:=(fun _=>by exact ⟨by omega,by omega⟩)) (k:=?_))
    refine A6 (ch:=[]) (b:=b) (off:=6+Int.toNat (D7 (bk l) ((i:Nat):Int)) * 1) (v:=.int .u8 (m2 (l.getD i 0).toNat)) (hA:=At.grp 0 0 rfl rfl) (hv:=grpC_at (k:=(l.getD i 0).toNat) rfl (by rw [byteJ]; omega) (l.getD i 0).toNat_lt (finK_end (l.getD i 0).toNat_lt)) (k:=F0 (E':=[⟨42,[],.int .u8 0⟩,⟨41,[],.pointer (some ⟨b,6+Int.toNat (D7 (bk l) ((i:Nat):Int)) * 1,none⟩)⟩,⟨40,[],.pointer (some ⟨b,6,none⟩)⟩,⟨39,[],pt b⟩,⟨38,[],.int .u8 (D7 (bk l) ((i:Nat):Int))⟩,⟨37,[],.int .i64 ((i:Nat):Int)⟩,⟨36,[],.string (bk l)⟩,⟨35,[],pt b⟩,⟨0,[],pt b⟩,⟨2,[],.string (bk l)⟩,⟨6,[],.int .i64 (q.size:Int)⟩,⟨7,[],.nilIface⟩,⟨8,[],.iface 309 (pt wb)⟩,⟨9,[],.int .i64 ((last:Nat):Int)⟩,⟨11,[],.bool false⟩,⟨12,[],.int .i64 ((i:Nat):Int)⟩,⟨34,[],.bool ((((i:Nat):Int) != ((bk l).size:Int))&&true)⟩]) (by have hz:([⟨42,[],.int .u8 (m2 (l.getD i 0).toNat)⟩,⟨41,[],.pointer (some ⟨b,6+Int.toNat (D7 (bk l) ((i:Nat):Int)) * 1,none⟩)⟩,⟨40,[],.pointer (some ⟨b,6,none⟩)⟩,⟨39,[],pt b⟩,⟨38,[],.int .u8 (D7 (bk l) ((i:Nat):Int))⟩,⟨37,[],.int .i64 ((i:Nat):Int)⟩,⟨36,[],.string (bk l)⟩,⟨35,[],pt b⟩,⟨0,[],pt b⟩,⟨2,[],.string (bk l)⟩,⟨6,[],.int .i64 (q.size:Int)⟩,⟨7,[],.nilIface⟩,⟨8,[],.iface 309 (pt wb)⟩,⟨9,[],.int .i64 ((last:Nat):Int)⟩,⟨11,[],.bool false⟩,⟨12,[],.int .i64 ((i:Nat):Int)⟩,⟨34,[],.bool ((((i:Nat):Int) != ((bk l).size:Int))&&true)⟩]:List Sl)=[⟨42,[],.int .u8 0⟩,⟨41,[],.pointer (some ⟨b,6+Int.toNat (D7 (bk l) ((i:Nat):Int)) * 1,none⟩)⟩,⟨40,[],.pointer (some ⟨b,6,none⟩)⟩,⟨39,[],pt b⟩,⟨38,[],.int .u8 (D7 (bk l) ((i:Nat):Int))⟩,⟨37,[],.int .i64 ((i:Nat):Int)⟩,⟨36,[],.string (bk l)⟩,⟨35,[],pt b⟩,⟨0,[],pt b⟩,⟨2,[],.string (bk l)⟩,⟨6,[],.int .i64 (q.size:Int)⟩,⟨7,[],.nilIface⟩,⟨8,[],.iface 309 (pt wb)⟩,⟨9,[],.int .i64 ((last:Nat):Int)⟩,⟨11,[],.bool false⟩,⟨12,[],.int .i64 ((i:Nat):Int)⟩,⟨34,[],.bool ((((i:Nat):Int) != ((bk l).size:Int))&&true)⟩]:=(by rw [show m2 (l.getD i 0).toNat=0 by rw [hb]; rfl]); exact Eq.trans kr hz) ?_)
    refine B1 [0,0] [0,2,6,7,8,9,11,12,13] (k:=A0 ?_)
    refine A1 (A3 ?_)
    refine A4 (j:=4) [0,0,0,0] (k:=A6 (ch:=[]) (b:=b) (off:=5) (v:=.int .i64 2) (hA:=At.grp 0 0 rfl rfl) (hv:=L6 rfl) (k:=?_))
    refine A4 (j:=11) [0,0,0,0,0,0] (k:=A6 (ch:=[(50,false)]) (b:=b) (off:=4) (v:=.slice (some ⟨t,0,none⟩) 2 2) (hA:=At.grp 0 0 rfl rfl) (hv:=L6 rfl) (k:=?_))
    refine A4 (j:=13) [0] (k:=A9 (ch:=[(50,false)]) (a:=(some ⟨t,0,none⟩)) (len:=2) (cap:=2) (kd:=.i64) (j:=0) (e:=263) (sz:=1) (S:=(inG [(t,.cells #[.pointer none,pt n1] 263 (0,0))])) (cs:=[.pointer none,pt n1]) (hrd:=Rd.lit) (hb:=(fun hc=>by exact ⟨by decide,by decide,by intro h; cases h⟩)) (k:=?_))
    refine F0 (E':=[⟨57,[(50,false)],pt t⟩,⟨56,[(50,false)],.int .i64 0⟩,⟨55,[(50,false)],.slice (some ⟨t,0,none⟩) 2 2⟩,⟨54,[(50,false)],.pointer (some ⟨b,4,none⟩)⟩,⟨53,[(50,false)],pt b⟩,⟨52,[(50,false)],pt b⟩,⟨51,[(50,false)],pt b⟩,⟨50,[],.bool false⟩,⟨49,[],.bool false⟩,⟨48,[],.int .i64 2⟩,⟨47,[],.pointer (some ⟨b,5,none⟩)⟩,⟨46,[],pt b⟩,⟨45,[],pt b⟩,⟨44,[],.int .i64 0⟩,⟨0,[],pt b⟩,⟨2,[],.string (bk l)⟩,⟨6,[],.int .i64 (q.size:Int)⟩,⟨7,[],.nilIface⟩,⟨8,[],.iface 309 (pt wb)⟩,⟨9,[],.int .i64 ((last:Nat):Int)⟩,⟨11,[],.bool false⟩,⟨12,[],.int .i64 ((i:Nat):Int)⟩,⟨13,[],.int .i64 0⟩]) kr (A6 (ch:=[(50,false)]) (b:=t) (off:=0) (v:=.pointer none) (hA:=At.grp 1 0 rfl rfl) (k:=?_))
    refine B1 [0,3] [0,2,6,7,8,9,11,12,60] (k:=A0 ?_)
    refine C4 kr (A1 ?_)
    refine A3 (A4 (j:=2) [0,0] (k:=?_))
    refine F6 62 (((i:Nat):Int)+1) (by omega) (by omega) kr (B1 [0] [0,2,6,7,8,9,11,12] (k:=?_))
    refine A0 (H7 ?_)
    refine B0 (C7 ?_)
    refine E9 (s':=(i+1,last,q,v,g)) [0,2,6,7,8,9,11,12] kr rfl ⟨(by dsimp only; omega),(by dsimp only; omega),(by dsimp only; omega),(by dsimp only; omega),hv,(by dsimp only; exact lin_step hT hla (by omega) (by first | exact hb.1 | (rw [hb]; decide)))⟩ (by dsimp only; omega)
   ·
    refine I8 (k:=A4 (j:=3) [0,0,0] (k:=?_))
    refine H3 (ch:=[]) (s:=(bk l)) (kd:=.i64) (j:=((i:Nat):Int)) (hb:=(by intro _; exact ⟨by omega,by omega⟩)) (k:=?_)
    have hb24:=J3 (bk l) ((i:Nat):Int)
    refine A4 (j:=6) [0,0] (k:=E6 (ch:=[]) (b:=b) (off:=6) (len:=256) (sz:=1) (e:=5) (kd:=.u8) (j:=D7 (bk l) ((i:Nat):Int)) (hb:=(fun _=>by exact ⟨by omega,by omega⟩)) (k:=?_))
    refine A6 (ch:=[]) (b:=b) (off:=6+Int.toNat (D7 (bk l) ((i:Nat):Int)) * 1) (v:=.int .u8 (m2 (l.getD i 0).toNat)) (hA:=At.grp 0 0 rfl rfl) (hv:=grpC_at (k:=(l.getD i 0).toNat) rfl (by rw [byteJ]; omega) (l.getD i 0).toNat_lt (finK_end (l.getD i 0).toNat_lt)) (k:=F0 (E':=[⟨42,[],.int .u8 2⟩,⟨41,[],.pointer (some ⟨b,6+Int.toNat (D7 (bk l) ((i:Nat):Int)) * 1,none⟩)⟩,⟨40,[],.pointer (some ⟨b,6,none⟩)⟩,⟨39,[],pt b⟩,⟨38,[],.int .u8 (D7 (bk l) ((i:Nat):Int))⟩,⟨37,[],.int .i64 ((i:Nat):Int)⟩,⟨36,[],.string (bk l)⟩,⟨35,[],pt b⟩,⟨0,[],pt b⟩,⟨2,[],.string (bk l)⟩,⟨6,[],.int .i64 (q.size:Int)⟩,⟨7,[],.nilIface⟩,⟨8,[],.iface 309 (pt wb)⟩,⟨9,[],.int .i64 ((last:Nat):Int)⟩,⟨11,[],.bool false⟩,⟨12,[],.int .i64 ((i:Nat):Int)⟩,⟨34,[],.bool ((((i:Nat):Int) != ((bk l).size:Int))&&true)⟩]) (by have hz:([⟨42,[],.int .u8 (m2 (l.getD i 0).toNat)⟩,⟨41,[],.pointer (some ⟨b,6+Int.toNat (D7 (bk l) ((i:Nat):Int)) * 1,none⟩)⟩,⟨40,[],.pointer (some ⟨b,6,none⟩)⟩,⟨39,[],pt b⟩,⟨38,[],.int .u8 (D7 (bk l) ((i:Nat):Int))⟩,⟨37,[],.int .i64 ((i:Nat):Int)⟩,⟨36,[],.string (bk l)⟩,⟨35,[],pt b⟩,⟨0,[],pt b⟩,⟨2,[],.string (bk l)⟩,⟨6,[],.int .i64 (q.size:Int)⟩,⟨7,[],.nilIface⟩,⟨8,[],.iface 309 (pt wb)⟩,⟨9,[],.int .i64 ((last:Nat):Int)⟩,⟨11,[],.bool false⟩,⟨12,[],.int .i64 ((i:Nat):Int)⟩,⟨34,[],.bool ((((i:Nat):Int) != ((bk l).size:Int))&&true)⟩]:List Sl)=[⟨42,[],.int .u8 2⟩,⟨41,[],.pointer (some ⟨b,6+Int.toNat (D7 (bk l) ((i:Nat):Int)) * 1,none⟩)⟩,⟨40,[],.pointer (some ⟨b,6,none⟩)⟩,⟨39,[],pt b⟩,⟨38,[],.int .u8 (D7 (bk l) ((i:Nat):Int))⟩,⟨37,[],.int .i64 ((i:Nat):Int)⟩,⟨36,[],.string (bk l)⟩,⟨35,[],pt b⟩,⟨0,[],pt b⟩,⟨2,[],.string (bk l)⟩,⟨6,[],.int .i64 (q.size:Int)⟩,⟨7,[],.nilIface⟩,⟨8,[],.iface 309 (pt wb)⟩,⟨9,[],.int .i64 ((last:Nat):Int)⟩,⟨11,[],.bool false⟩,⟨12,[],.int .i64 ((i:Nat):Int)⟩,⟨34,[],.bool ((((i:Nat):Int) != ((bk l).size:Int))&&true)⟩]:=(by rw [hb.2]); exact Eq.trans kr hz) ?_)
    refine B1 [0,0] [0,2,6,7,8,9,11,12,13] (k:=A0 ?_)
    refine A1 (A3 ?_)
    refine A4 (j:=4) [0,0,0,0] (k:=A6 (ch:=[]) (b:=b) (off:=5) (v:=.int .i64 2) (hA:=At.grp 0 0 rfl rfl) (hv:=L6 rfl) (k:=?_))
    refine B1 [0,0,1,1,1,1,1,1,1,1,1,2] [0,2,6,7,8,9,11,12,60] (k:=A0 ?_)
    refine C4 kr (A1 ?_)
    refine A3 (A4 (j:=2) [0,0] (k:=?_))
    refine F6 62 (((i:Nat):Int)+1) (by omega) (by omega) kr (B1 [0] [0,2,6,7,8,9,11,12] (k:=?_))
    refine A0 (H7 ?_)
    refine B0 (C7 ?_)
    refine E9 (s':=(i+1,last,q,v,g)) [0,2,6,7,8,9,11,12] kr rfl ⟨(by dsimp only; omega),(by dsimp only; omega),(by dsimp only; omega),(by dsimp only; omega),hv,(by dsimp only; exact lin_step hT hla (by omega) (by first | exact hb.1 | (rw [hb]; decide)))⟩ (by dsimp only; omega)
  ·
   simp only [bne_eq_false_iff_eq,Bool.and_true] at hc2
   have heq:=hc2
   refine B4 (A0 ?_)
   refine A1 (A3 ?_)
   refine A4 (j:=3) [0,0,0] (k:=H8 (ch:=[]) (s:=(bk l)) (vl:=(some (.int .i64 ((i:Nat):Int)))) (vh:=none) (l:=((i:Nat):Int)) (h:=((bk l).size:Int)) (hb:=(by intro _; exact ⟨by omega,by omega,by omega⟩)) (k:=?_))
   refine F0 (E':=[⟨67,[],.string (bk (l.drop i))⟩,⟨66,[],.int .i64 ((i:Nat):Int)⟩,⟨65,[],.string (bk l)⟩,⟨64,[],pt b⟩,⟨0,[],pt b⟩,⟨2,[],.string (bk l)⟩,⟨6,[],.int .i64 (q.size:Int)⟩,⟨7,[],.nilIface⟩,⟨8,[],.iface 309 (pt wb)⟩,⟨9,[],.int .i64 ((last:Nat):Int)⟩,⟨11,[],.bool false⟩,⟨12,[],.int .i64 ((i:Nat):Int)⟩,⟨34,[],.bool ((((i:Nat):Int) != ((bk l).size:Int))&&true)⟩]) (by have hz:([⟨67,[],.string ((bk l).extract i (bk l).size)⟩,⟨66,[],.int .i64 ((i:Nat):Int)⟩,⟨65,[],.string (bk l)⟩,⟨64,[],pt b⟩,⟨0,[],pt b⟩,⟨2,[],.string (bk l)⟩,⟨6,[],.int .i64 (q.size:Int)⟩,⟨7,[],.nilIface⟩,⟨8,[],.iface 309 (pt wb)⟩,⟨9,[],.int .i64 ((last:Nat):Int)⟩,⟨11,[],.bool false⟩,⟨12,[],.int .i64 ((i:Nat):Int)⟩,⟨34,[],.bool ((((i:Nat):Int) != ((bk l).size:Int))&&true)⟩]:List Sl)=[⟨67,[],.string (bk (l.drop i))⟩,⟨66,[],.int .i64 ((i:Nat):Int)⟩,⟨65,[],.string (bk l)⟩,⟨64,[],pt b⟩,⟨0,[],pt b⟩,⟨2,[],.string (bk l)⟩,⟨6,[],.int .i64 (q.size:Int)⟩,⟨7,[],.nilIface⟩,⟨8,[],.iface 309 (pt wb)⟩,⟨9,[],.int .i64 ((last:Nat):Int)⟩,⟨11,[],.bool false⟩,⟨12,[],.int .i64 ((i:Nat):Int)⟩,⟨34,[],.bool ((((i:Nat):Int) != ((bk l).size:Int))&&true)⟩]:=(by rw [ext_bk]); exact Eq.trans kr hz) (A4 (j:=5) [0] (k:=?_))
   refine E7 Tryz.func281 (lookup_ b t n1 n2 (l.drop i) (by rw [List.length_drop]; omega) (.inl (List.drop_eq_nil_of_le (by omega))) _ _) ?_
   rintro _ _ ⟨⟨hlk,rfl⟩ | ⟨hlk,hlk2,rfl⟩ | ⟨hlk,hlk2,rfl⟩,rfl⟩
   ·
    refine B1 [0,0,0,0,0,0,0] [0,2,6,7,8,9,12,14,15,16] (k:=A0 ?_)
    refine A1 (G_p [0,0,1,1,3,0] [0,2,6,7,8,9,11,12,14,15,16] (k:=?_))
    refine A0 (A1 ?_)
    refine A1 (G_p [0] [0,2,6,7,8,9,11,12,14,15,78] (k:=?_))
    refine A0 (D3 kr ?_)
    refine B4 (A0 ?_)
    refine A3 (A4 (j:=2) [0,0] (k:=?_))
    refine F6 112 (((i:Nat):Int)+1) (by omega) (by omega) kr (B5 (E':=[⟨0,[],pt b⟩,⟨2,[],.string (bk l)⟩,⟨6,[],.int .i64 (q.size:Int)⟩,⟨7,[],.nilIface⟩,⟨8,[],.iface 309 (pt wb)⟩,⟨9,[],.int .i64 ((last:Nat):Int)⟩,⟨11,[],.bool false⟩,⟨12,[],.int .i64 (((i:Nat):Int)+1)⟩]) [0] [0,2,6,7,8,9,11,12] (k:=?_))
    refine C6 (E9 (s':=(i+1,last,q,v,g)) [0,2,6,7,8,9,11,12] kr rfl ⟨(by dsimp only; omega),(by dsimp only; omega),(by dsimp only; omega),(by dsimp only; omega),hv,(by dsimp only; exact lin_at hT hla (by omega))⟩ (by dsimp only; omega))
   ·
    exact absurd (List.drop_eq_nil_of_le (by omega)) hlk
   ·
    rw [List.length_drop] at hlk; omega
 ·
  simp only [decide_eq_false_iff_not] at hc1
  have hgt:=hc1
  refine H7 (B0 ?_)
  refine B0 (C7 ?_)
  refine A0 (A1 ?_)
  refine A1 (G_p [0,0,0,0] [2,6,7,8,9,116] (k:=?_))
  refine A0 (B7 (b:=((last:Nat):Int) != ((bk l).size:Int)) kr (fun hc27=>?_) (fun hc27=>?_))
  ·
   simp only [bne_iff_ne,ne_eq] at hc27
   have hxs:((bk l).extract last (bk l).size).size=l.length - last:=by rw [ByteArray.size_extract]; omega
   refine A1 (I4 ([(b,.cells (H6 [.string eB,.int .i64 0,.string eB,.pointer none,.slice (some ⟨t,0,none⟩) 2 2,.int .i64 2] (J1 256)) 268 (0,0))]::[(t,.cells #[.pointer none,pt n1] 263 (0,0))]::[(n1,.cells #[.string (mB #[10]),.int .i64 2,.string (mB #[10]),pt n2,.slice none 0 0] 266 (0,0))]::[(n2,.cells #[.string (mB #[10]),.int .i64 4,.string eB,.pointer none,.slice none 0 0] 266 (0,0))]::H) kr ?_)
   refine G6 (fuel:=10) [(0,0),(1,0),(2,0)] (fun w h=>((h.erase 5).erase 4)) (k:=F7 3 (hL:=(fun w h=>((h.erase 5).erase 4))) (hy:=H8 (i:=3) (ch:=[]) (s:=(bk l)) (vl:=(some (.int .i64 ((last:Nat):Int)))) (vh:=none) (l:=((last:Nat):Int)) (h:=((bk l).size:Int)) (hb:=(by intro _; exact ⟨by omega,by omega,by omega⟩)) (k:=G9 kr rfl)) (k:=?_))
   refine G6 (fuel:=8) [(4,0)] (fun w h=>((h.erase 5).erase 4)) (k:=GH_nilF (fn:=.method "WriteString") (fa:=#[.iface 309 (pt wb)]) (fc:=#[]) 5 (hrun:=(fun w=>by kernel_rfl)) (hL:=(fun w h=>((h.erase 5).erase 4))) (k:=?_))
   refine G6 (fuel:=6) [(6,0)] (fun w h=>((h.erase 5).erase 4)) (k:=E4 7 (k:=?_))
   refine H4 rfl (H':=([(wb,.cells #[v] 308 (0,0))]::g::[(b,.cells (H6 [.string eB,.int .i64 0,.string eB,.pointer none,.slice (some ⟨t,0,none⟩) 2 2,.int .i64 2] (J1 256)) 268 (0,0))]::[(t,.cells #[.pointer none,pt n1] 263 (0,0))]::[(n1,.cells #[.string (mB #[10]),.int .i64 2,.string (mB #[10]),pt n2,.slice none 0 0] 266 (0,0))]::[(n2,.cells #[.string (mB #[10]),.int .i64 4,.string eB,.pointer none,.slice none 0 0] 266 (0,0))]::H)) (fun w h=>((h.front (j:=5) rfl).front (j:=5) rfl)) (Q8 (t:=309) (rv:=pt wb) (f:=291) (vs:=[.string ((bk l).extract last (bk l).size)]) (av:=#[pt wb,.string ((bk l).extract last (bk l).size)]) (hm:=(fun _=>by kernel_rfl)) (hc:=aswStr_ wb (v) g q ((bk l).extract last (bk l).size) hv (by first | (rw [ByteArray.size_extract]; omega) | (rw [ByteArray.size_append,ByteArray.size_extract]; omega) | (show _+1≤_; rw [ByteArray.size_append,ByteArray.size_extract]; omega)) _ _) (k:=?_))
   rintro _ _ ⟨rfl,v28,g29,hO30,rfl⟩
   refine B6 kr (fun w h=>((h.erase 1).erase 0)) (G6 (fuel:=0) [(8,0),(9,0),(10,0),(11,0),(12,0)] (fun w h=>((h.erase 1).erase 0)) (k:=?_))
   refine G3 (E':=[⟨6,[],.int .i64 (q.size:Int)⟩,⟨7,[],.nilIface⟩,⟨10,[],.int .i64 (((bk l).extract last (bk l).size).size:Int)⟩]) [6,7,10] (k:=A0 ?_)
   refine A3 (A4 (j:=3) [0,0,0] (k:=?_))
   refine F6 130 ((q.size:Int)+(((bk l).extract last (bk l).size).size:Int)) (by omega) (by omega) kr (B1 [0] [6,7] (k:=?_))
   refine A0 (C5 ?_)
   refine C1 (H':=([(b,.cells (H6 [.string eB,.int .i64 0,.string eB,.pointer none,.slice (some ⟨t,0,none⟩) 2 2,.int .i64 2] (J1 256)) 268 (0,0))]::[(t,.cells #[.pointer none,pt n1] 263 (0,0))]::[(n1,.cells #[.string (mB #[10]),.int .i64 2,.string (mB #[10]),pt n2,.slice none 0 0] 266 (0,0))]::[(n2,.cells #[.string (mB #[10]),.int .i64 4,.string eB,.pointer none,.slice none 0 0] 266 (0,0))]::[(wb,.cells #[v28] 308 (0,0))]::g29::H)) (fun w h=>((((((h.front (j:=1) rfl).front (j:=1) rfl).front (j:=5) rfl).front (j:=5) rfl).front (j:=5) rfl).front (j:=5) rfl)) (B9 [.tmp 6,.tmp 7] [.int .i64 ((q.size:Int)+(((bk l).extract last (bk l).size).size:Int)),.nilIface] (k:=?_))
   exact ⟨_,_,_,rfl,(by have h:=lin_fin hT (by omega); rw [← ba_of (a:=(q++((bk l).extract last (bk l).size))) (by rw [app_list,ext_mid,h,List.take_of_length_le (by rw [List.length_drop]; omega)])]; exact hO30),rfl⟩
  ·
   simp only [bne_eq_false_iff_eq] at hc27
   refine B4 (A0 ?_)
   refine C5 (B9 [.tmp 6,.tmp 7] [.int .i64 (q.size:Int),.nilIface] (k:=?_))
   exact ⟨_,_,_,rfl,(by have h:=lin_fin hT (by omega); rw [← ba_of (a:=q) (by rw [h,List.drop_eq_nil_of_le (show l.length≤last by omega),List.append_nil])]; exact hv),rfl⟩
end Go.Proofs.YtppgfiklmfoaeaaGreatDoor
namespace Go.Sw
open Go.RowKit
theorem T0 {d:Bool} {P:Program} {ops:Array Oper} {i:Nat} {Q:F2} {n:Fr} {E:Env} {W0:World} {H:List Grp} {o:Oper} {ch:List (Nat × Bool)} {src dst e:TypeId} {x:Operand} {a:Option Addr} {cap:Nat} {S:Nat→Obj→Prop} (b:ByteArray)
    (ho:ops[i]? = some o:=by exact rfl) (hop:o.op=.convert src dst x:=by exact rfl) (hx:evO E ch x=some (.slice a b.size cap):=by kernel_rfl) (hs:P.underlying src=some (.slice e):=by kernel_rfl) (he:P.underlying e=some (.int .u8):=by kernel_rfl) (hds:P.underlying dst=some .string:=by kernel_rfl)
    (hch:E5 ops E o.guard=some ch:=by kernel_rfl) (hd:G2 n ch o.dst=true:=by kernel_rfl) (hk:J8 E ch=true:=by kernel_rfl)
    (hrd:Rd S a (u8s b.data.toList)) (hS:∀ b o,S b o→At W0 H b o)
    (k:GL d P ops (i+1) Q n (Env.put E o.dst ch (.string b)) W0 H):GL d P ops i Q n E W0 H:=by
  cases a with
  | some a =>
    refine L9 (cap:=cap) b.data.toList ho hop ?_ hs he hds hch hd hk hrd hS ?_
    · rw [hx,show b.data.toList.length=b.size from Array.length_toList]
    · have:(⟨b.data.toList.toArray⟩:ByteArray)=b:=by cases b; simp
      rw [this]; exact k
  | none =>
    have h0:b=ByteArray.empty:=by
      rcases hrd with h | ⟨_,_,_,_,_,h,_⟩
      · have h1:=congrArg List.length h
        unfold u8s at h1
        rw [List.length_map] at h1
        cases b with | mk d =>
        have:d=#[]:=Array.eq_empty_of_size_eq_zero (by simpa using h1)
        rw [this]; rfl
      · cases h
    refine I7 ho hch hd hk (fun r hr _ w _=>?_) k
    unfold execOp
    simp only [hop]
    rw [hr _ _ hx,h0]
    have:=run_convert_bytes_string (P:=P) w src dst e none ByteArray.empty.size cap hs he hds
    simp only [Sem.run_bind,this]
    exact ⟨rfl,rfl⟩
end Go.Sw
