/- How deep a value of JSON is. (and what it stands on) -/
import Derived.Test.YtppgfiklmfoaeaaGreatDoorZ1
import Derived.ChangeMaps5
import Derived.ChangeSlices
import Derived.Carry
import Derived.ChangeArms
import Derived.DataReads
import Derived.Lib.SlTrimSet
namespace Go.Json
open Go.Lib Go.Esc
inductive JV where
  | mk (kind:Int) (text:List UInt8) (names:List (List UInt8)) (list:List JV)
def JV.kind:JV→Int | .mk k _ _ _=>k
def JV.text:JV→List UInt8 | .mk _ t _ _=>t
def JV.names:JV→List (List UInt8) | .mk _ _ n _=>n
def JV.list:JV→List JV | .mk _ _ _ l=>l
def nul:JV:=.mk 0 [] [] []
def wsB (b:UInt8):Bool:=b==32||b==9||b==10||b==13
def blk (l:List UInt8):List UInt8:=l.dropWhile wsB
def dgB (b:UInt8):Bool:=decide (48≤b.toNat)&&decide (b.toNat≤57)
def digs (l:List UInt8):Nat:=(l.takeWhile dgB).length
def sgn (l:List UInt8):Nat:=if l.getD 0 0=45 then 1 else 0
def intP (l:List UInt8):Nat:=if digs (l.drop (sgn l))=0∨(1<digs (l.drop (sgn l))∧l.getD (sgn l) 0=48) then 0 else sgn l+digs (l.drop (sgn l))
def Q7 (l:List UInt8) (j:Nat):Nat:=if l.getD j 0=46 then (if digs (l.drop (j+1))=0 then 0 else j+1+digs (l.drop (j+1))) else j
def sgn2 (l:List UInt8) (k:Nat):Nat:=if l.getD k 0=43∨l.getD k 0=45 then k+1 else k
def expP (l:List UInt8) (j:Nat):Nat:=if l.getD j 0=101∨l.getD j 0=69 then (if digs (l.drop (sgn2 l (j+1)))=0 then 0 else sgn2 l (j+1)+digs (l.drop (sgn2 l (j+1)))) else j
def F8 (l:List UInt8):Nat:=if intP l=0 then 0 else if Q7 l (intP l)=0 then 0 else expP l (Q7 l (intP l))
def qF:Nat→List UInt8→Nat
  | 0,_=>0
  | _+1,[]=>0
  | n+1,c::t=>if c=34 then 0 else if c=92 then 2+qF n (t.drop 1) else 1+qF n t
def qL (l:List UInt8):Nat:=qF l.length l
theorem qF_nil:∀ n,qF n []=0
  | 0=>rfl
  | _+1=>rfl
theorem qF_fuel:∀ (n m:Nat) (l:List UInt8),l.length≤n→l.length≤m→qF n l=qF m l
  | _,_,[],_,_=>by rw [qF_nil,qF_nil]
  | 0,_,_::_,h,_=>by simp at h
  | _+1,0,_::_,_,h=>by simp at h
  | n+1,m+1,c::t,hn,hm=>by
    simp only [List.length_cons] at hn hm
    simp only [qF]
    rw [qF_fuel n m t (by omega) (by omega),qF_fuel n m (t.drop 1) (by rw [List.length_drop]; omega) (by rw [List.length_drop]; omega)]
theorem qL_nil:qL []=0:=rfl
theorem qL_cons (c:UInt8) (t:List UInt8):qL (c::t)=if c=34 then 0 else if c=92 then 2+qL (t.drop 1) else 1+qL t:=by
  show qF (t.length+1) (c::t)=_
  simp only [qF]
  unfold qL
  rw [qF_fuel t.length (t.drop 1).length _ (by rw [List.length_drop]; omega) (Nat.le_refl _)]
def textP (l:List UInt8):Option (List UInt8 × List UInt8) :=
  if l.getD 0 0=34∧1+qL (l.drop 1)<l.length then (unjM (l.take (qL (l.drop 1)+2))).map fun x=>(x,l.drop (qL (l.drop 1)+2)) else none
abbrev PR:=Except Int (JV × List UInt8)
def Q0 (obj:Bool):UInt8:=if obj then 125 else 93
def nameP (obj:Bool) (ns:List (List UInt8)) (l:List UInt8):Option (List (List UInt8) × List UInt8) :=
  if obj then (textP (blk l)).bind fun x=>match blk x.2 with
    | c::t=>if c=58 then some (ns++[x.1],t) else none
    | []=>none
  else some (ns,l)
def memP (val:List UInt8→PR) (obj:Bool):Nat→List (List UInt8)→List JV→List UInt8→PR
  | 0,_,_,_=>.error 70
  | n+1,ns,vs,l=>match nameP obj ns l with
    | none=>.error 70
    | some (ns2,l2)=>match val l2 with
      | .error e=>.error e
      | .ok (v,l3)=>match blk l3 with
        | []=>.error 70
        | c::l4=>if c=Q0 obj then .ok (.mk (if obj then 6 else 5) [] ns2 (vs++[v]),l4) else if c=44 then memP val obj n ns2 (vs++[v]) l4 else .error 70
def atomP (l:List UInt8):PR :=
  if l.take 4=[110,117,108,108] then .ok (nul,l.drop 4) else if l.take 5=[102,97,108,115,101] then .ok (.mk 1 [] [] [],l.drop 5) else if l.take 4=[116,114,117,101] then .ok (.mk 2 [] [] [],l.drop 4)
  else if l.getD 0 0=34 then (match textP l with
    | none=>.error 70
    | some (x,r)=>.ok (.mk 4 x [] [],r))
  else if F8 l=0 then .error 70 else .ok (.mk 3 (l.take (F8 l)) [] [],l.drop (F8 l))
def valP:Nat→List UInt8→PR
  | 0,l0=>let l:=blk l0; if l.getD 0 0=91∨l.getD 0 0=123 then .error 71 else atomP l
  | lv+1,l0=>let l:=blk l0
    if l.getD 0 0=91∨l.getD 0 0=123 then
      (let obj:=l.getD 0 0==123; let t:=blk (l.drop 1)
       if t.getD 0 0=Q0 obj then .ok (.mk (if obj then 6 else 5) [] [] [],t.drop 1) else memP (valP lv) obj (t.length+1) [] [] t)
    else atomP l
def parP (l:List UInt8):Except Int JV:=if 65536<l.length then .error 72 else match valP 24 l with
  | .error e=>.error e
  | .ok (v,r)=>if blk r=[] then .ok v else .error 70
theorem J8 (l:List UInt8):(blk l).length≤l.length:=by
  unfold blk
  induction l with
  | nil=>exact Nat.le_refl _
  | cons b t ih =>
    rw [List.dropWhile_cons]
    split
    · rw [List.length_cons]; omega
    · exact Nat.le_refl _
theorem blk_nows {l:List UInt8}:∀ b t,blk l=b::t→wsB b=false:=by
  unfold blk
  induction l with
  | nil=>intro b t h; cases h
  | cons c u ih =>
    intro b t h
    rw [List.dropWhile_cons] at h
    split at h
    · exact ih b t h
    · rename_i hc; injection h with h1 h2; rw [← h1]; exact Bool.eq_false_iff.2 hc
theorem blk_blk (l:List UInt8):blk (blk l)=blk l:=by
  cases h:blk l with
  | nil=>rfl
  | cons b t =>
    have:=blk_nows b t h
    unfold blk; rw [List.dropWhile_cons,this]; rfl
theorem textP_len {l x r:List UInt8} (h:textP l=some (x,r)):r.length<l.length:=by
  unfold textP at h
  split at h
  · rename_i hc
    cases hu:unjM (l.take (qL (l.drop 1)+2)) with
    | none=>rw [hu] at h; cases h
    | some y =>
      rw [hu] at h
      simp only [Option.map_some,Option.some.injEq,Prod.mk.injEq] at h
      rw [← h.2,List.length_drop]; omega
  · cases h
theorem nameP_len {obj:Bool} {ns ns2:List (List UInt8)} {l l2:List UInt8} (h:nameP obj ns l=some (ns2,l2)):l2.length≤l.length:=by
  unfold nameP at h
  split at h
  · cases ht:textP (blk l) with
    | none=>rw [ht] at h; cases h
    | some x =>
      rw [ht] at h
      simp only [Option.bind_some] at h
      have h1:=textP_len (x:=x.1) (r:=x.2) ht
      have h2:=J8 l
      have h3:=J8 x.2
      split at h
      · rename_i c t hb
        split at h
        · simp only [Option.some.injEq,Prod.mk.injEq] at h
          rw [← h.2]
          rw [hb,List.length_cons] at h3
          omega
        · cases h
      · cases h
  · simp only [Option.some.injEq,Prod.mk.injEq] at h
    rw [h.2]; exact Nat.le_refl _
theorem digs_le (l:List UInt8):digs l≤l.length:=by
  unfold digs
  induction l with
  | nil=>exact Nat.le_refl _
  | cons b t ih =>
    rw [List.takeWhile_cons]
    split
    · rw [List.length_cons,List.length_cons]; omega
    · exact Nat.zero_le _
theorem P0 {l:List UInt8} {j:Nat} {c:UInt8} (h:l.getD j 0=c) (hc:c≠0):j<l.length:=by
  rcases Nat.lt_or_ge j l.length with h1 | h1
  · exact h1
  · exact absurd (by rw [← h]; simp [List.getD,List.getElem?_eq_none h1]) hc
end Go.Json
namespace Go.Json
open Go.Sw Go.Esc
def E7 (ns:List (List UInt8)):List Value:=ns.map fun n=>.string (bk n)
theorem strV_app (a b:List (List UInt8)):E7 (a++b)=E7 a++E7 b:=List.map_append
theorem strV_len (a:List (List UInt8)):(E7 a).length=a.length:=List.length_map _
theorem strV_at {a:List (List UInt8)} {k:Nat} (h:k<a.length):(E7 a)[k]? = some (.string (bk a[k])):=by
  unfold E7; rw [List.getElem?_map,List.getElem?_eq_getElem h]; rfl
theorem rd_mono {S S':Nat→Obj→Prop} {a:Option Addr} {cs:List Value} (h:Rd S a cs) (hs:∀ b o,S b o→S' b o):Rd S' a cs:=by
  unfold Rd at h ⊢
  rcases h with h | ⟨b,off,c,t,z,h1,h2,h3⟩
  · exact .inl h
  · exact .inr ⟨b,off,c,t,z,h1,hs _ _ h2,h3⟩
mutual
inductive JRd (S:Nat→Obj→Prop):JV→List Value→Prop
  | mk {k:Int} {t:List UInt8} {ns:List (List UInt8)} {l:List JV} {an al:Option Addr} {cn cl:Nat} {cs:List Value}:Rd S an (E7 ns)→Rd S al cs→JRdL S l cs→JRd S (.mk k t ns l) [.int .i64 k,.string (bk t),.slice an ns.length cn,.slice al l.length cl]
inductive JRdL (S:Nat→Obj→Prop):List JV→List Value→Prop
  | nil:JRdL S [] []
  | cons {v:JV} {l:List JV} {c cs:List Value}:JRd S v c→JRdL S l cs→JRdL S (v::l) (c++cs)
end
mutual
/-- owned: one group for all of it -/
inductive JRep (ts tj:TypeId):JV→List Value→Grp→Prop
  | mk {k:Int} {t:List UInt8} {ns:List (List UInt8)} {l:List JV} {an al:Option Addr} {cn cl:Nat} {cs:List Value} {gn gl gs:Grp}:Own ts 1 (.slice an ns.length cn) gn ns.length (E7 ns)→Own tj 4 (.slice al l.length cl) gl l.length cs→JRepL ts tj l cs gs→JRep ts tj (.mk k t ns l) [.int .i64 k,.string (bk t),.slice an ns.length cn,.slice al l.length cl] (gn++(gl++gs))
inductive JRepL (ts tj:TypeId):List JV→List Value→Grp→Prop
  | nil:JRepL ts tj [] [] []
  | cons {v:JV} {l:List JV} {c cs:List Value} {g gs:Grp}:JRep ts tj v c g→JRepL ts tj l cs gs→JRepL ts tj (v::l) (c++cs) (g++gs)
end
theorem JRd.len {S:Nat→Obj→Prop} {v:JV} {c:List Value} (h:JRd S v c):c.length=4:=by cases h; rfl
theorem JRdL.len {S:Nat→Obj→Prop}:∀ {l:List JV} {cs:List Value},JRdL S l cs→cs.length=l.length * 4
  | [],_,h=>by cases h; rfl
  | v::l,_,h=>by
    cases h with
    | cons h1 h2=>rw [List.length_append,h1.len,h2.len,List.length_cons]; omega
theorem JRdL.at {S:Nat→Obj→Prop}:∀ {l:List JV} {cs:List Value} {i:Nat} (hi:i<l.length),JRdL S l cs→JRd S l[i] ((cs.drop (i * 4)).take 4)
  | [],_,_,hi,_=>absurd hi (Nat.not_lt_zero _)
  | v::l,_,0,_,h=>by
    cases h with
    | cons h1 h2 =>
      rw [Nat.zero_mul,List.drop_zero,List.take_append_of_le_length (by rw [h1.len]; exact Nat.le_refl _),List.take_of_length_le (by rw [h1.len]; exact Nat.le_refl _)]; exact h1
  | v::l,_,i+1,hi,h=>by
    cases h with
    | cons h1 h2 =>
      rename_i c cs
      have e:(c++cs).drop ((i+1) * 4)=cs.drop (i * 4):=by
        rw [List.drop_append,List.drop_eq_nil_of_le (by rw [h1.len]; omega),h1.len,List.nil_append,show (i+1) * 4 - 4=i * 4 by omega]
      rw [e]; exact JRdL.at (l:=l) (by simpa using hi) h2
theorem JRep.nul {ts tj:TypeId}:JRep ts tj nul [.int .i64 0,.string (bk []),.slice none 0 0,.slice none 0 0] []:=.mk (ns:=[]) (l:=[]) Own.nil Own.nil .nil
theorem JRep.atom {ts tj:TypeId} (k:Int) (t:List UInt8):JRep ts tj (.mk k t [] []) [.int .i64 k,.string (bk t),.slice none 0 0,.slice none 0 0] []:=.mk (ns:=[]) (l:=[]) Own.nil Own.nil .nil
theorem JRepL.snoc {ts tj:TypeId}:∀ {l:List JV} {cs:List Value} {gs:Grp} {v:JV} {c:List Value} {g:Grp},JRepL ts tj l cs gs→JRep ts tj v c g→JRepL ts tj (l++[v]) (cs++c) (gs++g)
  | [],_,_,v,c,g,h,hv=>by
    cases h
    have:=JRepL.cons hv .nil
    rw [List.append_nil,List.append_nil] at this
    exact this
  | x::l,_,_,v,c,g,h,hv=>by
    cases h with
    | cons h1 h2 =>
      rw [List.cons_append,List.append_assoc,List.append_assoc]
      exact .cons h1 (JRepL.snoc h2 hv)
mutual
theorem JRep.rd {ts tj:TypeId} {S:Nat→Obj→Prop}:∀ {v:JV} {c:List Value} {g:Grp},JRep ts tj v c g→(∀ b o,inG g b o→S b o)→JRd S v c
  | .mk _ _ _ _,_,_,.mk h1 h2 h3,hs=>.mk (rd_mono (own_rd h1) fun b o h=>hs b o (List.mem_append_left _ h)) (rd_mono (own_rd h2) fun b o h=>hs b o (List.mem_append_right _ (List.mem_append_left _ h))) (JRepL.rd h3 fun b o h=>hs b o (List.mem_append_right _ (List.mem_append_right _ h)))
theorem JRepL.rd {ts tj:TypeId} {S:Nat→Obj→Prop}:∀ {l:List JV} {cs:List Value} {g:Grp},JRepL ts tj l cs g→(∀ b o,inG g b o→S b o)→JRdL S l cs
  | [],_,_,.nil,_=>.nil
  | _::_,_,_,.cons h1 h2,hs=>.cons (JRep.rd h1 fun b o h=>hs b o (List.mem_append_left _ h)) (JRepL.rd h2 fun b o h=>hs b o (List.mem_append_right _ h))
end
end Go.Json
namespace Go.Proofs.YtppgfiklmfoaeaaGreatDoor
open Go Go.ChangeShapes Go.WideShapes Go.ChangeAt Go.RowKit Go.Sw Go.Sha Go.Esc
theorem laidOut_:laidOutB Tryz.prog=true:=by kernel_rfl
def SW (W:World) (y:Nat) (o:Obj):Prop:=y<W.heap.size∧W.heap[y]? = some o
theorem sw_at {W:World} {y:Nat} {o:Obj} (h:SW W y o):At W [] y o:=.inl h
theorem rd_cells {W:World} {a:Addr} {cs:List Value} (hn:cs≠[]) (h:∀ j u,cs[j]? = some u→W.cell? (a.add j)=some u):(∃ b off,a=⟨b,off,none⟩)∧Rd (SW W) (some a) cs:=by
  obtain ⟨b,off,sp⟩:=a
  cases cs with
  | nil=>exact absurd rfl hn
  | cons v r =>
    have h0:=h 0 v rfl
    unfold World.cell? at h0
    rw [show (Addr.add ⟨b,off,sp⟩ 0)=⟨b,off,sp⟩ from rfl] at h0
    cases hb:W.heap[b]? with
    | none=>rw [show (⟨b,off,sp⟩:Addr).block=b from rfl,hb] at h0; cases h0
    | some o =>
      rw [show (⟨b,off,sp⟩:Addr).block=b from rfl,hb] at h0
      cases o with
      | cells c e fz =>
        cases sp with
        | some s=>simp at h0
        | none =>
          refine ⟨⟨b,off,rfl⟩,.inr ⟨b,off,c,e,fz,rfl,⟨?_,hb⟩,fun j u hu=>?_⟩⟩
          · rcases Nat.lt_or_ge b W.heap.size with h | h
            · exact h
            · rw [Array.getElem?_eq_none h] at hb; cases hb
          · have hj:=h j u hu
            rw [K3] at hj
            unfold World.cell? at hj
            rw [show (⟨b,off+j,none⟩:Addr).block=b from rfl,hb] at hj
            simpa using hj
      | _=>cases h0
end Go.Proofs.YtppgfiklmfoaeaaGreatDoor
namespace Go.Json
open Go.Lib Go.Esc
theorem numP_le (l:List UInt8):F8 l≤l.length:=by
  have hd:=fun k=>digs_le (l.drop k)
  have h1:intP l≤l.length:=by
    unfold intP
    split
    · exact Nat.zero_le _
    · have:=hd (sgn l); rw [List.length_drop] at this; omega
  have h2:∀ j,j≤l.length→Q7 l j≤l.length:=by
    intro j hj
    unfold Q7
    split
    · split
      · exact Nat.zero_le _
      · have:=hd (j+1); rw [List.length_drop] at this; omega
    · exact hj
  have h3:∀ j,j≤l.length→expP l j≤l.length:=by
    intro j hj
    unfold expP
    split
    · split
      · exact Nat.zero_le _
      · have:=hd (sgn2 l (j+1)); rw [List.length_drop] at this; omega
    · exact hj
  unfold F8
  split
  · exact Nat.zero_le _
  · split
    · exact Nat.zero_le _
    · exact h3 _ (h2 _ h1)
def Dec (val:List UInt8→PR):Prop:=∀ l v r,val l=.ok (v,r)→r.length<l.length
theorem tk_lt {l p:List UInt8} {n:Nat} (h:l.take n=p) (hp:p.length=n) (h0:0<n):(l.drop n).length<l.length:=by
  have:=congrArg List.length h
  rw [List.length_take,hp] at this
  rw [List.length_drop]; omega
theorem atomP_dec:Dec atomP:=by
  intro l v r h
  unfold atomP at h
  split at h
  · rename_i hc; injection h with h; injection h with _ h; rw [← h]; exact tk_lt hc rfl (by decide)
  split at h
  · rename_i hc; injection h with h; injection h with _ h; rw [← h]; exact tk_lt hc rfl (by decide)
  split at h
  · rename_i hc; injection h with h; injection h with _ h; rw [← h]; exact tk_lt hc rfl (by decide)
  split at h
  · split at h
    · cases h
    · rename_i ht; injection h with h; injection h with _ h; rw [← h]; exact textP_len ht
  · split at h
    · cases h
    · rename_i hn; injection h with h; injection h with _ h
      have:=numP_le l
      rw [← h,List.length_drop]; omega
theorem memP_dec {val:List UInt8→PR} (hv:Dec val) (obj:Bool):∀ (n:Nat) (ns:List (List UInt8)) (vs:List JV) (l:List UInt8) (v:JV) (r:List UInt8),memP val obj n ns vs l=.ok (v,r)→r.length<l.length
  | 0,_,_,_,_,_,h=>by cases h
  | n+1,ns,vs,l,v,r,h=>by
    unfold memP at h
    split at h
    · cases h
    · rename_i ns2 l2 hn
      have h1:=nameP_len hn
      split at h
      · cases h
      · rename_i v1 l3 hw
        have h2:=hv _ _ _ hw
        have h3:=J8 l3
        split at h
        · cases h
        · rename_i c l4 hb
          rw [hb,List.length_cons] at h3
          split at h
          · injection h with h; injection h with _ h; rw [← h]; omega
          · split at h
            · have:=memP_dec hv obj n _ _ _ _ _ h; omega
            · cases h
theorem valP_dec:∀ lv,Dec (valP lv)
  | 0=>by
    intro l v r h
    unfold valP at h
    dsimp only at h
    split at h
    · cases h
    · have:=atomP_dec _ _ _ h; have:=J8 l; omega
  | lv+1=>by
    intro l v r h
    unfold valP at h
    dsimp only at h
    have hb:=J8 l
    split at h
    · rename_i hc
      have hl:0<(blk l).length:=by
        rcases hc with hc | hc
        · exact P0 hc (by decide)
        · exact P0 hc (by decide)
      have h1:=J8 ((blk l).drop 1)
      rw [List.length_drop] at h1
      split at h
      · injection h with h; injection h with _ h; rw [← h,List.length_drop]; omega
      · have:=memP_dec (valP_dec lv) _ _ _ _ _ _ _ h; omega
    · have:=atomP_dec _ _ _ h; omega
def inB (b:UInt8):Bool:=b==32||b==9||b==10||b==13||b==44||b==93||b==125
def Inert (w:List UInt8):Prop:=w=[]∨inB (w.getD 0 0)=true
theorem inB_all:∀ n:Fin 256,inB (UInt8.ofNat n.val)=true→dgB (UInt8.ofNat n.val)=false∧UInt8.ofNat n.val≠45∧UInt8.ofNat n.val≠43∧UInt8.ofNat n.val≠46∧UInt8.ofNat n.val≠48∧UInt8.ofNat n.val≠101∧UInt8.ofNat n.val≠69∧UInt8.ofNat n.val≠34:=by decide +kernel
theorem inB_ok {b:UInt8} (h:inB b=true):dgB b=false∧b≠45∧b≠43∧b≠46∧b≠48∧b≠101∧b≠69∧b≠34:=by
  have:=inB_all ⟨b.toNat,b.toNat_lt⟩
  simp only [UInt8.ofNat_toNat] at this
  exact this h
theorem inert_head {w:List UInt8} (h:Inert w):dgB (w.getD 0 0)=false∧w.getD 0 0≠45∧w.getD 0 0≠43∧w.getD 0 0≠46∧w.getD 0 0≠48∧w.getD 0 0≠101∧w.getD 0 0≠69∧w.getD 0 0≠34:=by
  rcases h with rfl | h
  · exact ⟨by decide,by decide,by decide,by decide,by decide,by decide,by decide,by decide⟩
  · exact inB_ok h
theorem digs_app (l:List UInt8) {w:List UInt8} (hw:Inert w):digs (l++w)=digs l:=by
  unfold digs
  induction l with
  | nil =>
    cases w with
    | nil=>rfl
    | cons b t =>
      have h:dgB b=false:=(inert_head hw).1
      rw [List.nil_append,List.takeWhile_cons,h]; rfl
  | cons b t ih =>
    rw [List.cons_append,List.takeWhile_cons,List.takeWhile_cons]
    split
    · rw [List.length_cons,List.length_cons,ih]
    · rfl
theorem digs_drop (l:List UInt8) {w:List UInt8} (hw:Inert w) {k:Nat} (hk:k≤l.length):digs ((l++w).drop k)=digs (l.drop k):=by
  rw [List.drop_append_of_le_length hk,digs_app _ hw]
theorem get_app {l w:List UInt8} (hw:Inert w) {k:Nat} (hk:k≤l.length) {c:UInt8} (hc:c=45∨c=43∨c=46∨c=48∨c=101∨c=69∨c=34):(l++w).getD k 0=c ↔ l.getD k 0=c:=by
  rcases Nat.lt_or_ge k l.length with h | h
  · rw [List.getD_eq_getElem?_getD,List.getD_eq_getElem?_getD,List.getElem?_append_left h]
  · obtain rfl:k=l.length:=by omega
    have hi:=inert_head hw
    have e1:(l++w).getD l.length 0=w.getD 0 0:=by rw [List.getD_eq_getElem?_getD,List.getD_eq_getElem?_getD,List.getElem?_append_right (Nat.le_refl _),Nat.sub_self]
    have e2:l.getD l.length 0=0:=by rw [List.getD_eq_getElem?_getD,List.getElem?_eq_none (Nat.le_refl _)]; rfl
    rw [e1,e2]
    constructor
    · intro h2
      rcases hc with rfl | rfl | rfl | rfl | rfl | rfl | rfl
      · exact absurd h2 hi.2.1
      · exact absurd h2 hi.2.2.1
      · exact absurd h2 hi.2.2.2.1
      · exact absurd h2 hi.2.2.2.2.1
      · exact absurd h2 hi.2.2.2.2.2.1
      · exact absurd h2 hi.2.2.2.2.2.2.1
      · exact absurd h2 hi.2.2.2.2.2.2.2
    · intro h2
      rcases hc with rfl | rfl | rfl | rfl | rfl | rfl | rfl <;> exact absurd h2 (by decide)
theorem numP_app (l:List UInt8) {w:List UInt8} (hw:Inert w):F8 (l++w)=F8 l:=by
  have hs:sgn (l++w)=sgn l:=by unfold sgn; simp only [get_app hw (Nat.zero_le _) (.inl rfl)]
  have hsl:sgn l≤l.length:=by
    unfold sgn
    split
    · rename_i h; exact P0 h (by decide)
    · exact Nat.zero_le _
  have hi:intP (l++w)=intP l:=by unfold intP; simp only [hs,digs_drop l hw hsl,get_app hw hsl (c:=48) (by simp)]
  have hil:intP l≤l.length:=by
    have:=digs_le (l.drop (sgn l)); rw [List.length_drop] at this
    unfold intP; split <;> omega
  have hf:∀ j,j≤l.length→Q7 (l++w) j=Q7 l j∧Q7 l j≤l.length:=by
    intro j hj
    by_cases h:l.getD j 0=46
    · have hj1:j+1≤l.length:=P0 h (by decide)
      have:=digs_le (l.drop (j+1)); rw [List.length_drop] at this
      unfold Q7
      rw [if_pos h,if_pos ((get_app hw hj (by simp)).2 h),digs_drop l hw hj1]
      refine ⟨rfl,?_⟩
      split <;> omega
    · unfold Q7
      rw [if_neg h,if_neg (fun h2=>h ((get_app hw hj (by simp)).1 h2))]
      exact ⟨rfl,hj⟩
  have he:∀ j,j≤l.length→expP (l++w) j=expP l j:=by
    intro j hj
    have hc:((l++w).getD j 0=101∨(l++w).getD j 0=69) ↔ (l.getD j 0=101∨l.getD j 0=69):=by rw [get_app hw hj (by simp),get_app hw hj (by simp)]
    by_cases h:l.getD j 0=101∨l.getD j 0=69
    · have hj1:j+1≤l.length:=by rcases h with h | h <;> exact P0 h (by decide)
      have h2:sgn2 (l++w) (j+1)=sgn2 l (j+1):=by unfold sgn2; simp only [get_app hw hj1 (c:=43) (by simp),get_app hw hj1 (c:=45) (by simp)]
      have h3:sgn2 l (j+1)≤l.length:=by
        unfold sgn2
        split
        · rename_i h4; rcases h4 with h4 | h4 <;> exact P0 h4 (by decide)
        · exact hj1
      unfold expP
      rw [if_pos h,if_pos (hc.2 h),h2,digs_drop l hw h3]
    · unfold expP
      rw [if_neg h,if_neg (fun h2=>h (hc.1 h2))]
  unfold F8
  rw [hi,(hf _ hil).1,he _ (hf _ hil).2]
end Go.Json
namespace Go.Json
open Go.Lib Go.Esc
abbrev RdS:=List UInt8 × Int
def P6 (n:Int) (r:RdS):RdS:=(r.1,if r.2=0 then n else r.2)
def B3 (r:RdS):RdS:=(blk r.1,r.2)
def D7 (c:UInt8) (r:RdS):RdS:=if r.1.take 1=[c] then (r.1.drop 1,r.2) else P6 70 r
def C8 (r:RdS):List UInt8 × RdS :=
  if r.1.length≤1+qL (r.1.drop 1)∨r.1.getD 0 0≠34 then ([],P6 70 r)
  else match unjM (r.1.take (qL (r.1.drop 1)+2)) with
    | none=>([],P6 70 (r.1.drop (qL (r.1.drop 1)+2),r.2))
    | some x=>(x,(r.1.drop (qL (r.1.drop 1)+2),r.2))
def Q5 (obj:Bool) (ns:List (List UInt8)) (r:RdS):List (List UInt8) × RdS:=if obj then (ns++[(C8 r).1],D7 58 (B3 (C8 r).2)) else (ns,r)
def memR (val:RdS→JV × RdS) (obj:Bool):Nat→List (List UInt8)→List JV→RdS→(List (List UInt8) × List JV) × RdS
  | 0,ns,vs,r=>((ns,vs),r)
  | n+1,ns,vs,r=>if r.2≠0 then ((ns,vs),r) else if obj=true∧(blk r.1).getD 0 0≠34 then ((ns,vs),P6 70 (B3 r))
    else
      let q:=Q5 obj ns (B3 r)
      let v:=val q.2
      if (blk v.2.1).take 1=[Q0 obj] then ((q.1,vs++[v.1]),((blk v.2.1).drop 1,v.2.2)) else memR val obj n q.1 (vs++[v.1]) (D7 44 (B3 v.2))
def atomR (r:RdS):JV × RdS :=
  if r.1.take 4=[110,117,108,108] then (nul,(r.1.drop 4,r.2)) else if r.1.take 5=[102,97,108,115,101] then (.mk 1 [] [] [],(r.1.drop 5,r.2)) else if r.1.take 4=[116,114,117,101] then (.mk 2 [] [] [],(r.1.drop 4,r.2))
  else if r.1.getD 0 0=34 then (.mk 4 (C8 r).1 [] [],(C8 r).2)
  else if F8 r.1=0 then (nul,P6 70 r) else (.mk 3 (r.1.take (F8 r.1)) [] [],(r.1.drop (F8 r.1),r.2))
def P4 (l:List UInt8):Prop:=l.getD 0 0=91∨l.getD 0 0=123
instance (l:List UInt8):Decidable (P4 l):=by unfold P4; exact inferInstance
def C7:Nat→RdS→JV × RdS
  | 0,r=>let q:=if P4 (blk r.1) then P6 71 (B3 r) else B3 r
    if q.2≠0 then (nul,q) else atomR q
  | lv+1,r=>let q:=B3 r
    if q.2≠0 then (nul,q) else if P4 q.1 then
      (let obj:=q.1.getD 0 0==123; let t:=blk (q.1.drop 1)
       if t.take 1=[Q0 obj] then (.mk (if obj then 6 else 5) [] [] [],(t.drop 1,q.2))
       else
         let m:=memR (C7 lv) obj (t.length+1) [] [] (t,q.2)
         (.mk (if obj then 6 else 5) [] m.1.1 m.1.2,m.2))
    else atomR q
theorem flt_ne {n:Int} {r:RdS} (h:r.2≠0):(P6 n r).2=r.2:=by unfold P6; rw [if_neg h]
theorem must_ne {c:UInt8} {r:RdS} (h:r.2≠0):(D7 c r).2=r.2:=by
  unfold D7
  split
  · rfl
  · exact flt_ne h
theorem text_ne {r:RdS} (h:r.2≠0):(C8 r).2.2=r.2:=by
  unfold C8
  split
  · exact flt_ne h
  · split
    · exact flt_ne (n:=70) (r:=(_,r.2)) h
    · rfl
theorem val_ne {r:RdS} (h:r.2≠0):∀ lv,C7 lv r=(nul,((C7 lv r).2.1,r.2))
  | 0=>by
    unfold C7
    dsimp only
    split
    · have hf:(P6 71 (B3 r)).2=r.2:=flt_ne (r:=B3 r) h
      rw [if_pos (by rw [hf]; exact h)]; exact Prod.ext rfl (Prod.ext rfl hf)
    · rw [if_pos (show (B3 r).2≠0 from h)]; rfl
  | lv+1=>by
    unfold C7
    dsimp only
    rw [if_pos (show (B3 r).2≠0 from h)]; rfl
theorem mem_ne {val:RdS→JV × RdS} {obj:Bool} {r:RdS} (h:r.2≠0):∀ (n:Nat) (ns:List (List UInt8)) (vs:List JV),memR val obj n ns vs r=((ns,vs),r)
  | 0,_,_=>rfl
  | n+1,ns,vs=>by unfold memR; rw [if_pos h]
def OkV (p:PR) (q:JV × RdS):Prop:=match p with
  | .ok (v,s)=>q=(v,(s,0))
  | .error e=>e≠0∧q.2.2=e
theorem take1 {l:List UInt8} {c:UInt8} (hc:c≠0):l.take 1=[c] ↔ l.getD 0 0=c:=by
  cases l with
  | nil=>simp; exact fun h=>hc h.symm
  | cons b t=>simp
theorem textR_ok (l:List UInt8):match textP l with
    | some (x,s)=>C8 (l,0)=(x,(s,0))
    | none=>(C8 (l,0)).2.2=70:=by
  unfold textP C8
  dsimp only
  by_cases h:l.getD 0 0=34∧1+qL (l.drop 1)<l.length
  · rw [if_pos h,if_neg (by rintro (h2 | h2); omega; exact h2 h.1)]
    cases hu:unjM (l.take (qL (l.drop 1)+2)) with
    | none=>rfl
    | some x=>rfl
  · rw [if_neg h,if_pos]
    · rfl
    · by_cases h0:l.getD 0 0=34
      · left
        rcases Nat.lt_or_ge (1+qL (l.drop 1)) l.length with h1 | h1
        · exact absurd ⟨h0,h1⟩ h
        · exact h1
      · exact .inr h0
theorem atomR_ok (l:List UInt8):OkV (atomP l) (atomR (l,0)):=by
  unfold atomP atomR
  dsimp only
  by_cases c1:l.take 4=[110,117,108,108]
  · rw [if_pos c1,if_pos c1]; rfl
  rw [if_neg c1,if_neg c1]
  by_cases c2:l.take 5=[102,97,108,115,101]
  · rw [if_pos c2,if_pos c2]; rfl
  rw [if_neg c2,if_neg c2]
  by_cases c3:l.take 4=[116,114,117,101]
  · rw [if_pos c3,if_pos c3]; rfl
  rw [if_neg c3,if_neg c3]
  by_cases c4:l.getD 0 0=34
  · rw [if_pos c4,if_pos c4]
    have:=textR_ok l
    cases ht:textP l with
    | none=>rw [ht] at this; exact ⟨by decide,this⟩
    | some x =>
      rw [ht] at this
      dsimp only at this ⊢
      rw [this]; rfl
  rw [if_neg c4,if_neg c4]
  by_cases c5:F8 l=0
  · rw [if_pos c5,if_pos c5]; exact ⟨by decide,rfl⟩
  · rw [if_neg c5,if_neg c5]; rfl
theorem nameR_ok (ns:List (List UInt8)) (l:List UInt8):(nameP true ns l=none∧(Q5 true ns (B3 (l,0))).2.2=70)∨(∃ ns2 l2,nameP true ns l=some (ns2,l2)∧Q5 true ns (B3 (l,0))=(ns2,(l2,0))∧l2.length≤l.length):=by
  have ht:=textR_ok (blk l)
  have hu:nameP true ns l=(textP (blk l)).bind fun x=>match blk x.2 with
    | c::t=>if c=58 then some (ns++[x.1],t) else none
    | []=>none:=by unfold nameP; rfl
  have hr:Q5 true ns (B3 (l,0))=(ns++[(C8 (blk l,0)).1],D7 58 (B3 (C8 (blk l,0)).2)):=by unfold Q5; rfl
  rw [hu,hr]
  cases hx:textP (blk l) with
  | none =>
    rw [hx] at ht
    refine .inl ⟨rfl,?_⟩
    have h1:(B3 (C8 (blk l,0)).2).2=70:=ht
    exact (must_ne (by rw [h1]; decide)).trans h1
  | some x =>
    obtain ⟨x,s⟩:=x
    rw [hx] at ht
    have ht:C8 (blk l,0)=(x,(s,0)):=ht
    have hl1:=textP_len hx
    have hl2:=J8 l
    have hl3:=J8 s
    rw [ht]
    simp only [Option.bind_some,B3]
    generalize blk s=q at hl3 ⊢
    cases q with
    | nil=>exact .inl ⟨rfl,rfl⟩
    | cons c t =>
      rw [List.length_cons] at hl3
      dsimp only
      by_cases hc:c=58
      · have e:D7 58 (c::t,0)=(t,0):=by unfold D7; rw [if_pos (show (c::t).take 1=[58] by rw [hc]; rfl)]; rfl
        rw [if_pos hc,e]
        exact .inr ⟨_,_,rfl,rfl,by omega⟩
      · have e:D7 58 (c::t,0)=(c::t,70):=by unfold D7; rw [if_neg (show ¬ (c::t).take 1=[58] by intro h; injection h with h _; exact hc h)]; rfl
        rw [if_neg hc,e]
        exact .inl ⟨rfl,rfl⟩
theorem memR_ok {val:List UInt8→PR} {valr:RdS→JV × RdS} (hd:Dec val) (hb:∀ l,val (blk l)=val l) (hv:∀ l,OkV (val l) (valr (l,0))) (hs:∀ l e,e≠0→(valr (l,e)).2.2=e) (obj:Bool):∀ (n:Nat) (ns:List (List UInt8)) (vs:List JV) (l:List UInt8),l.length<n →
    match memP val obj n ns vs l with
    | .ok (v,s)=>memR valr obj n ns vs (l,0)=((v.names,v.list),(s,0))∧v=.mk (if obj then 6 else 5) [] v.names v.list
    | .error e=>e≠0∧(memR valr obj n ns vs (l,0)).2.2=e
  | 0,_,_,_,h=>absurd h (Nat.not_lt_zero _)
  | n+1,ns,vs,l,hn=>by
    -- a fault ahead of the value
    have bad:∀ (ns2:List (List UInt8)) (r:RdS),r.2=70→((if (blk (valr r).2.1).take 1=[Q0 obj] then ((ns2,vs++[(valr r).1]),((blk (valr r).2.1).drop 1,(valr r).2.2)) else memR valr obj n ns2 (vs++[(valr r).1]) (D7 44 (B3 (valr r).2))):(List (List UInt8) × List JV) × RdS).2.2=70:=by
      intro ns2 r hr
      have h1:(valr r).2.2=70:=by
        have:=hs r.1 r.2 (by rw [hr]; decide)
        rw [hr] at this; rw [← hr] at this ⊢; exact this.trans rfl
      split
      · exact h1
      · have h2:(D7 44 (B3 (valr r).2)).2=70:=(must_ne (r:=B3 (valr r).2) (by show (valr r).2.2≠0; rw [h1]; decide)).trans h1
        rw [mem_ne (by rw [h2]; decide)]; exact h2
    -- the value and what follows
    have go:∀ (ns2:List (List UInt8)) (l2 l2':List UInt8),l2.length≤l.length→val l2'=val l2→(match (match val l2 with
          | .error e=>.error e
          | .ok (v,l3)=>match blk l3 with
            | []=>.error 70
            | c::l4=>if c=Q0 obj then .ok (.mk (if obj then 6 else 5) [] ns2 (vs++[v]),l4) else if c=44 then memP val obj n ns2 (vs++[v]) l4 else .error 70:PR) with
        | .ok (v,s)=>((if (blk (valr (l2',0)).2.1).take 1=[Q0 obj] then ((ns2,vs++[(valr (l2',0)).1]),((blk (valr (l2',0)).2.1).drop 1,(valr (l2',0)).2.2)) else memR valr obj n ns2 (vs++[(valr (l2',0)).1]) (D7 44 (B3 (valr (l2',0)).2))):(List (List UInt8) × List JV) × RdS)=((v.names,v.list),(s,0))∧v=.mk (if obj then 6 else 5) [] v.names v.list
        | .error e=>e≠0∧((if (blk (valr (l2',0)).2.1).take 1=[Q0 obj] then ((ns2,vs++[(valr (l2',0)).1]),((blk (valr (l2',0)).2.1).drop 1,(valr (l2',0)).2.2)) else memR valr obj n ns2 (vs++[(valr (l2',0)).1]) (D7 44 (B3 (valr (l2',0)).2))):(List (List UInt8) × List JV) × RdS).2.2=e):=by
      intro ns2 l2 l2' hl2 hvv
      have hq:=hv l2'
      rw [hvv] at hq
      cases hw:val l2 with
      | error e =>
        rw [hw] at hq
        refine ⟨hq.1,?_⟩
        split
        · exact hq.2
        · have h2:(D7 44 (B3 (valr (l2',0)).2)).2=e:=(must_ne (r:=B3 (valr (l2',0)).2) (by show (valr (l2',0)).2.2≠0; rw [hq.2]; exact hq.1)).trans hq.2
          rw [mem_ne (by rw [h2]; exact hq.1)]; exact h2
      | ok y =>
        obtain ⟨v,l3⟩:=y
        rw [hw] at hq
        have hq:valr (l2',0)=(v,(l3,0)):=hq
        have h2:=hd _ _ _ hw
        have h3:=J8 l3
        rw [hq]
        dsimp only [B3]
        cases hb3:blk l3 with
        | nil=>exact ⟨by decide,by rw [if_neg (by intro h; cases h)]; show (memR valr obj n ns2 (vs++[v]) ([],70)).2.2=70; rw [mem_ne (by decide)]⟩
        | cons c l4 =>
          rw [hb3,List.length_cons] at h3
          dsimp only
          by_cases c1:c=Q0 obj
          · rw [if_pos c1,if_pos (show (c::l4).take 1=[Q0 obj] by rw [c1]; rfl)]; exact ⟨rfl,rfl⟩
          rw [if_neg c1,if_neg (show ¬ (c::l4).take 1=[Q0 obj] by intro h; injection h with h _; exact c1 h)]
          by_cases c2:c=44
          · rw [if_pos c2]
            have e:D7 44 (c::l4,0)=(l4,0):=by unfold D7; rw [if_pos (by rw [c2]; rfl)]; rfl
            rw [e]
            exact memR_ok hd hb hv hs obj n ns2 (vs++[v]) l4 (by omega)
          · rw [if_neg c2]
            have e:D7 44 (c::l4,0)=(c::l4,70):=by unfold D7; rw [if_neg (by intro h; injection h with h _; exact c2 h)]; rfl
            rw [e,mem_ne (r:=(c::l4,70)) (show (70:Int)≠0 by decide)]; exact ⟨by decide,rfl⟩
    unfold memP memR
    have z0:¬ ((l,(0:Int)).2≠0):=fun h=>h rfl
    rw [if_neg z0]
    cases obj with
    | false =>
      have z1:¬ (false=true∧(blk (l,(0:Int)).1).getD 0 0≠34):=by intro h; cases h.1
      rw [if_neg z1]
      exact go ns l (blk l) (Nat.le_refl _) (hb l)
    | true =>
      by_cases h0:(blk l).getD 0 0=34
      · have z1:¬ (true=true∧(blk (l,(0:Int)).1).getD 0 0≠34):=fun h=>h.2 h0
        rw [if_neg z1]
        rcases nameR_ok ns l with ⟨h1,h2⟩ | ⟨ns2,l2,h1,h2,h3⟩
        · rw [h1]; exact ⟨by decide,bad _ _ h2⟩
        · rw [h1,h2]; exact go ns2 l2 l2 h3 rfl
      · have z1:true=true∧(blk (l,(0:Int)).1).getD 0 0≠34:=⟨rfl,h0⟩
        rw [if_pos z1]
        have ht:textP (blk l)=none:=by unfold textP; rw [if_neg (fun h=>h0 h.1)]
        unfold nameP
        simp only [if_true]
        rw [ht]
        exact ⟨by decide,rfl⟩
end Go.Json
namespace Go.Json
open Go.Lib Go.Esc
theorem valP_blk (lv:Nat) (l:List UInt8):valP lv (blk l)=valP lv l:=by
  cases lv with
  | zero=>unfold valP; rw [blk_blk]
  | succ n=>unfold valP; rw [blk_blk]
theorem endB_ne (obj:Bool):Q0 obj≠0:=by cases obj <;> decide
theorem valR_ok:∀ (lv:Nat) (l:List UInt8),OkV (valP lv l) (C7 lv (l,0))
  | 0,l=>by
    unfold valP C7
    dsimp only [B3]
    by_cases h:(blk l).getD 0 0=91∨(blk l).getD 0 0=123
    · rw [if_pos h]
      have ho:P4 (blk l):=h
      rw [if_pos ho,if_pos (show (P6 71 (blk l,0)).2≠0 from (by decide:(71:Int)≠0))]
      exact ⟨by decide,rfl⟩
    · rw [if_neg h]
      have ho:¬ P4 (blk l):=h
      rw [if_neg ho,if_neg (show ¬ ((blk l,(0:Int)).2≠0) from fun h=>h rfl)]
      exact atomR_ok _
  | lv+1,l=>by
    unfold valP C7
    dsimp only [B3]
    rw [if_neg (show ¬ ((0:Int)≠0) from fun h=>h rfl)]
    by_cases h:(blk l).getD 0 0=91∨(blk l).getD 0 0=123
    · have ho:P4 (blk l):=h
      rw [if_pos h,if_pos ho]
      generalize ((blk l).getD 0 0==123)=obj
      generalize blk ((blk l).drop 1)=t
      by_cases ht:t.getD 0 0=Q0 obj
      · rw [if_pos ht,if_pos ((take1 (endB_ne obj)).2 ht)]; rfl
      · rw [if_neg ht,if_neg (fun h=>ht ((take1 (endB_ne obj)).1 h))]
        have hm:=memR_ok (val:=valP lv) (valr:=C7 lv) (valP_dec lv) (valP_blk lv) (valR_ok lv) (fun l e he=>by rw [val_ne (r:=(l,e)) he]) obj (t.length+1) [] [] t (Nat.lt_succ_self _)
        cases hp:memP (valP lv) obj (t.length+1) [] [] t with
        | error e=>rw [hp] at hm; exact hm
        | ok y =>
          obtain ⟨v,s⟩:=y
          rw [hp] at hm
          dsimp only at hm
          rw [hm.1]
          show ((JV.mk (if obj=true then 6 else 5) [] v.names v.list,(s,(0:Int))):JV × RdS)=(v,(s,0))
          rw [← hm.2]
    · have ho:¬ P4 (blk l):=h
      rw [if_neg h,if_neg ho]
      exact atomR_ok _
def parR (l:List UInt8):JV × Int :=
  if 65536<l.length then (nul,72) else
    let q:=C7 24 (l,0)
    let e:=if blk q.2.1≠[] then (P6 70 q.2).2 else q.2.2
    if e≠0 then (nul,e) else (q.1,0)
theorem parR_ok (l:List UInt8):match parP l with
    | .ok v=>parR l=(v,0)
    | .error e=>e≠0∧parR l=(nul,e):=by
  unfold parP parR
  by_cases h:65536<l.length
  · rw [if_pos h,if_pos h]; exact ⟨by decide,rfl⟩
  rw [if_neg h,if_neg h]
  have hv:=valR_ok 24 l
  cases hp:valP 24 l with
  | error e =>
    rw [hp] at hv
    have h1:e≠0:=hv.1
    have h2:(C7 24 (l,0)).2.2=e:=hv.2
    dsimp only
    have he:(if blk (C7 24 (l,0)).2.1≠[] then (P6 70 (C7 24 (l,0)).2).2 else (C7 24 (l,0)).2.2)=e:=by
      split
      · rw [flt_ne (by rw [h2]; exact h1),h2]
      · exact h2
    rw [he,if_pos h1]; exact ⟨h1,rfl⟩
  | ok y =>
    obtain ⟨v,s⟩:=y
    rw [hp] at hv
    have hv:C7 24 (l,0)=(v,(s,0)):=hv
    rw [hv]
    dsimp only
    by_cases hb:blk s=[]
    · have e1:(if blk s≠[] then (P6 70 (s,0)).2 else (0:Int))=0:=if_neg (fun h=>h hb)
      rw [if_pos hb,e1,if_neg (fun h=>h rfl)]
    · rw [if_neg hb,if_pos hb]
      exact ⟨by decide,rfl⟩
end Go.Json
namespace Go.Json
open Go.Lib Go.Esc
def vq1 (lv:Nat) (q:RdS):RdS:=if lv=0∧P4 (blk q.1) then P6 71 (B3 q) else B3 q
def kindB (obj:Bool):Int:=if obj then 6 else 5
def mbR (val:RdS→JV × RdS) (obj:Bool) (q:RdS):JV × RdS :=
  if (blk q.1).take 1=[Q0 obj] then (.mk (kindB obj) [] [] [],((blk q.1).drop 1,q.2))
  else (.mk (kindB obj) [] (memR val obj ((blk q.1).length+1) [] [] (B3 q)).1.1 (memR val obj ((blk q.1).length+1) [] [] (B3 q)).1.2,(memR val obj ((blk q.1).length+1) [] [] (B3 q)).2)
theorem vq1_fst (lv:Nat) (q:RdS):(vq1 lv q).1=blk q.1:=by unfold vq1; split <;> rfl
theorem vq1_zero {q:RdS} (h:P4 (blk q.1)):vq1 0 q=P6 71 (B3 q):=by unfold vq1; rw [if_pos ⟨rfl,h⟩]
theorem vq1_else {lv:Nat} {q:RdS} (h:¬ (lv=0∧P4 (blk q.1))):vq1 lv q=B3 q:=by unfold vq1; rw [if_neg h]
theorem flt_nz {q:RdS}:(P6 71 q).2≠0:=by
  unfold P6
  dsimp only
  split
  · decide
  · assumption
theorem valR_fault {lv:Nat} {q:RdS} (h:(vq1 lv q).2≠0):C7 lv q=(nul,vq1 lv q):=by
  cases lv with
  | zero =>
    unfold C7
    dsimp only
    by_cases ho:P4 (blk q.1)
    · rw [vq1_zero ho] at h ⊢
      rw [if_pos ho,if_pos h]
    · rw [vq1_else (fun h=>ho h.2)] at h ⊢
      rw [if_neg ho,if_pos h]
  | succ n =>
    rw [vq1_else (by rintro ⟨h,_⟩; cases h)] at h ⊢
    unfold C7
    dsimp only
    rw [if_pos h]
theorem valR_atom {lv:Nat} {q:RdS} (h:(vq1 lv q).2=0) (ho:¬ P4 (vq1 lv q).1):C7 lv q=atomR (vq1 lv q):=by
  rw [vq1_fst] at ho
  rw [vq1_else (fun h=>ho h.2)] at h ⊢
  cases lv with
  | zero=>unfold C7; dsimp only; rw [if_neg ho,if_neg (fun hn=>hn h)]
  | succ n=>unfold C7; dsimp only; rw [if_neg (fun hn=>hn h),if_neg (show ¬ P4 (B3 q).1 from ho)]
theorem valR_open {lv:Nat} {q:RdS} (h:(vq1 lv q).2=0) (ho:P4 (vq1 lv q).1):∃ n,lv=n+1∧C7 lv q=mbR (C7 n) ((vq1 lv q).1.getD 0 0==123) ((vq1 lv q).1.drop 1,(vq1 lv q).2):=by
  cases lv with
  | zero =>
    rw [vq1_fst] at ho
    rw [vq1_zero ho] at h
    exact absurd h flt_nz
  | succ n =>
    refine ⟨n,rfl,?_⟩
    rw [vq1_else (by rintro ⟨h,_⟩; cases h)] at h ho ⊢
    conv=>lhs; unfold C7
    dsimp only
    rw [if_neg (fun hn=>hn h),if_pos ho]
    rfl
theorem val_len {lv:Nat} {r:RdS} (h:(C7 lv r).2.2=0):r.2=0∧(C7 lv r).2.1.length<r.1.length:=by
  obtain ⟨l,e⟩:=r
  by_cases he:e=0
  · subst he
    refine ⟨rfl,?_⟩
    have ho:=valR_ok lv l
    cases hv:valP lv l with
    | error x=>rw [hv] at ho; exact absurd h (by rw [ho.2]; exact ho.1)
    | ok y =>
      rw [hv] at ho
      have ho:C7 lv (l,0)=(y.1,(y.2,0)):=ho
      rw [ho]
      exact valP_dec lv l y.1 y.2 hv
  · exfalso
    rw [val_ne (show (l,e).2≠0 from he)] at h
    exact he h
theorem must_len {c:UInt8} {r:RdS} (h:(D7 c r).2=0):r.2=0∧(D7 c r).1.length≤r.1.length:=by
  unfold D7 at h ⊢
  split
  · rename_i hc
    rw [if_pos hc] at h
    exact ⟨h,by rw [List.length_drop]; exact Nat.sub_le _ _⟩
  · rename_i hc
    rw [if_neg hc] at h
    unfold P6 at h
    dsimp only at h
    split at h
    · exact absurd h (by decide)
    · exact absurd h (by assumption)
theorem text_len {r:RdS} (h:(C8 r).2.2=0):r.2=0∧(C8 r).2.1.length≤r.1.length:=by
  by_cases he:r.2=0
  · refine ⟨he,?_⟩
    unfold C8
    split
    · exact Nat.le_refl _
    · split
      · show (List.drop _ _).length≤_; rw [List.length_drop]; omega
      · show (List.drop _ _).length≤_; rw [List.length_drop]; omega
  · rw [text_ne he] at h; exact absurd h he
theorem name_len {obj:Bool} {ns:List (List UInt8)} {r:RdS} (h:(Q5 obj ns r).2.2=0):r.2=0∧(Q5 obj ns r).2.1.length≤r.1.length:=by
  cases obj with
  | false=>exact ⟨h,Nat.le_refl _⟩
  | true =>
    have e:Q5 true ns r=(ns++[(C8 r).1],D7 58 (B3 (C8 r).2)):=rfl
    rw [e] at h ⊢
    have h1:=must_len h
    have h2:=text_len (r:=r) h1.1
    have h3:=J8 (C8 r).2.1
    exact ⟨h2.1,Nat.le_trans h1.2 (Nat.le_trans h3 h2.2)⟩
def nxR (lv:Nat) (q:RdS):RdS:=D7 44 (B3 (C7 lv q).2)
theorem nx_len {lv:Nat} {q:RdS} (h:(nxR lv q).2=0):q.2=0∧(nxR lv q).1.length<q.1.length:=by
  have h1:=must_len h
  have h2:=val_len (lv:=lv) (r:=q) h1.1
  have h3:=J8 (C7 lv q).2.1
  exact ⟨h2.1,Nat.lt_of_le_of_lt (Nat.le_trans h1.2 h3) h2.2⟩
theorem memR_end {val:RdS→JV × RdS} {obj:Bool} {n:Nat} {ns:List (List UInt8)} {vs:List JV} {q:RdS} (h:q.2≠0):memR val obj n ns vs q=((ns,vs),q):=mem_ne h n ns vs
theorem memR_bad {val:RdS→JV × RdS} {n:Nat} {ns:List (List UInt8)} {vs:List JV} {q:RdS} (h:q.2=0) (h0:(blk q.1).getD 0 0≠34):memR val true (n+1) ns vs q=((ns,vs),P6 70 (B3 q)):=by
  unfold memR; rw [if_neg (fun hn=>hn h),if_pos ⟨rfl,h0⟩]
theorem memR_last {val:RdS→JV × RdS} {obj:Bool} {n:Nat} {ns:List (List UInt8)} {vs:List JV} {q:RdS} (h:q.2=0) (h0:obj=true→(blk q.1).getD 0 0=34) (he:(blk (val (Q5 obj ns (B3 q)).2).2.1).take 1=[Q0 obj]) :
    memR val obj (n+1) ns vs q=(((Q5 obj ns (B3 q)).1,vs++[(val (Q5 obj ns (B3 q)).2).1]),((blk (val (Q5 obj ns (B3 q)).2).2.1).drop 1,(val (Q5 obj ns (B3 q)).2).2.2)):=by
  conv=>lhs; unfold memR
  rw [if_neg (fun hn=>hn h),if_neg (fun hn=>hn.2 (h0 hn.1))]
  dsimp only
  rw [if_pos he]
theorem memR_next {val:RdS→JV × RdS} {obj:Bool} {n:Nat} {ns:List (List UInt8)} {vs:List JV} {q:RdS} (h:q.2=0) (h0:obj=true→(blk q.1).getD 0 0=34) (he:¬ (blk (val (Q5 obj ns (B3 q)).2).2.1).take 1=[Q0 obj]) :
    memR val obj (n+1) ns vs q=memR val obj n (Q5 obj ns (B3 q)).1 (vs++[(val (Q5 obj ns (B3 q)).2).1]) (D7 44 (B3 (val (Q5 obj ns (B3 q)).2).2)):=by
  conv=>lhs; unfold memR
  rw [if_neg (fun hn=>hn h),if_neg (fun hn=>hn.2 (h0 hn.1))]
  dsimp only
  rw [if_neg he]
theorem round_len {lv:Nat} {obj:Bool} {ns:List (List UInt8)} {q:RdS} (h:(nxR lv (Q5 obj ns (B3 q)).2).2=0):(nxR lv (Q5 obj ns (B3 q)).2).1.length<q.1.length:=by
  have h1:=nx_len h
  have h2:=name_len (obj:=obj) (ns:=ns) (r:=B3 q) h1.1
  have h3:=J8 q.1
  exact Nat.lt_of_lt_of_le h1.2 (Nat.le_trans h2.2 h3)
end Go.Json
namespace Go.Json
open Go.Lib Go.Esc
theorem dg_all:∀ n:Fin 256,(0≤digB (n.val:Int) 10 ↔ dgB (UInt8.ofNat n.val)=true):=by decide +kernel
theorem dg_iff (b:UInt8):0≤digB (b.toNat:Int) 10 ↔ dgB b=true:=by
  have:=dg_all ⟨b.toNat,b.toNat_lt⟩
  simp only [UInt8.ofNat_toNat] at this
  exact this
theorem digs_yes {l:List UInt8} {k:Nat} (hk:k<l.length) (h:dgB (l.getD k 0)=true):digs (l.drop k)=1+digs (l.drop (k+1)):=by
  rw [J4 _ hk]
  unfold digs
  rw [List.takeWhile_cons,h,if_pos rfl,List.length_cons]; omega
theorem digs_no {l:List UInt8} {k:Nat} (h:l.length≤k∨dgB (l.getD k 0)=false):digs (l.drop k)=0:=by
  rcases Nat.lt_or_ge k l.length with hk | hk
  · rcases h with h | h
    · omega
    · rw [J4 _ hk]; unfold digs; rw [List.takeWhile_cons,h]; rfl
  · rw [List.drop_eq_nil_of_le hk]; rfl
theorem digs_loop {l:List UInt8} {k:Nat} (hk:k<l.length) (h:0≤digB ((l.getD k 0).toNat:Int) 10) (hT:digs l=k+digs (l.drop k)):digs l=(k+1)+digs (l.drop (k+1)):=by
  rw [hT,digs_yes hk ((dg_iff _).1 h)]; omega
theorem digs_end {l:List UInt8} {k:Nat} (h:l.length≤k∨¬ 0≤digB ((l.getD k 0).toNat:Int) 10) (hT:digs l=k+digs (l.drop k)):digs l=k:=by
  rw [hT,digs_no]; rfl
  rcases h with h | h
  · exact .inl h
  · right
    cases hd:dgB (l.getD k 0) with
    | false=>rfl
    | true=>exact absurd ((dg_iff _).2 hd) h
theorem qL_quote {l:List UInt8} {e:Nat} (he:e<l.length) (h:l.getD e 0=34):qL (l.drop e)=0:=by rw [J4 _ he,qL_cons,if_pos h]
theorem qL_out {l:List UInt8} {e:Nat} (he:l.length≤e):qL (l.drop e)=0:=by rw [List.drop_eq_nil_of_le he,qL_nil]
theorem qL_two {l:List UInt8} {e:Nat} (he:e<l.length) (h:l.getD e 0=92):qL (l.drop e)=2+qL (l.drop (e+2)):=by
  rw [J4 _ he,qL_cons,if_neg (by rw [h]; decide),if_pos h,List.drop_drop]
theorem qL_one {l:List UInt8} {e:Nat} (he:e<l.length) (h:l.getD e 0≠34) (h2:l.getD e 0≠92):qL (l.drop e)=1+qL (l.drop (e+1)):=by
  rw [J4 _ he,qL_cons,if_neg h,if_neg h2]
end Go.Json
namespace Go.Json
open Go.Lib Go.Esc Go.Sw
theorem ext_bk (l:List UInt8) (a:Nat):(bk l).extract a (bk l).size=bk (l.drop a):=ByteArray.ext (Array.ext' (L9 (bk l) a))
theorem ext_bkT (l:List UInt8) (b:Nat):(bk l).extract 0 b=bk (l.take b):=ByteArray.ext (Array.ext' (ext_take (bk l) b))
theorem L6 (l:List UInt8) (k:Nat):A7 (bk l) (k:Int)=((l.getD k 0).toNat:Int):=J2 (bk l) k
theorem I3 (l:List UInt8):A7 (bk l) 0=((l.getD 0 0).toNat:Int):=J2 (bk l) 0
theorem u8_iff {b:UInt8} {n:Nat} (hn:n<256):(b.toNat:Int)=(n:Int) ↔ b=UInt8.ofNat n:=by
  constructor
  · intro h
    apply UInt8.toNat_inj.1
    rw [UInt8.toNat_ofNat',Nat.mod_eq_of_lt hn]; omega
  · intro h
    rw [h,UInt8.toNat_ofNat',Nat.mod_eq_of_lt hn]
theorem take_get {l:List UInt8} {k:Nat} {c:UInt8} (hc:c≠0):(l.drop k).take 1=[c] ↔ l.getD k 0=c:=by
  rw [take1 hc]
  rw [List.getD_eq_getElem?_getD,List.getElem?_drop,Nat.add_zero,← List.getD_eq_getElem?_getD]
theorem toNatJ (m:Nat):Int.toNat ((m:Int)+1)=m+1:=by omega
theorem int_ok {l:List UInt8} {i j:Nat} (hi:i=sgn l) (hj:j=i+digs (l.drop i)) (h0:¬ digs (l.drop i)=0) (h1:¬ (1<digs (l.drop i)∧l.getD i 0=48)):intP l=j:=by
  subst hi; subst hj
  unfold intP; rw [if_neg (by rintro (h | h); exact h0 h; exact h1 h)]
theorem num_int {l:List UInt8} {i:Nat} (hi:i=sgn l) (h:digs (l.drop i)=0∨(1<digs (l.drop i)∧l.getD i 0=48)):F8 l=0:=by
  subst hi
  unfold F8; rw [if_pos (by unfold intP; rw [if_pos h])]
theorem num_frac {l:List UInt8} {j:Nat} (hI:intP l=j) (h:Q7 l j=0):F8 l=0:=by
  unfold F8
  split
  · rfl
  · rw [hI,if_pos h]
theorem num_exp {l:List UInt8} {j k:Nat} (hI:intP l=j) (hj:j≠0) (hk:k=Q7 l j) (h0:k≠0):F8 l=expP l k:=by
  unfold F8; rw [hI,if_neg hj,← hk,if_neg h0]
theorem frac_no {l:List UInt8} {j:Nat} (h:¬ l.getD j 0=46):Q7 l j=j:=by unfold Q7; rw [if_neg h]
theorem frac_bad {l:List UInt8} {j:Nat} (h:l.getD j 0=46) (h0:digs (l.drop (j+1))=0):Q7 l j=0:=by unfold Q7; rw [if_pos h,if_pos h0]
theorem frac_ok {l:List UInt8} {j:Nat} (h:l.getD j 0=46) (h0:¬ digs (l.drop (j+1))=0):Q7 l j=j+1+digs (l.drop (j+1)):=by unfold Q7; rw [if_pos h,if_neg h0]
theorem exp_no {l:List UInt8} {k:Nat} (h:l.length≤k∨¬ (l.getD k 0=101∨l.getD k 0=69)):expP l k=k:=by
  unfold expP
  rw [if_neg]
  rcases h with h | h
  · rw [List.getD_eq_getElem?_getD,List.getElem?_eq_none h]; decide
  · exact h
theorem exp_bad {l:List UInt8} {k m:Nat} (h:l.getD k 0=101∨l.getD k 0=69) (hm:m=sgn2 l (k+1)) (h0:digs (l.drop m)=0):expP l k=0:=by unfold expP; rw [if_pos h,← hm,if_pos h0]
theorem exp_ok {l:List UInt8} {k m:Nat} (h:l.getD k 0=101∨l.getD k 0=69) (hm:m=sgn2 l (k+1)) (h0:¬ digs (l.drop m)=0):expP l k=m+digs (l.drop m):=by unfold expP; rw [if_pos h,← hm,if_neg h0]
theorem sgn2_yes {l:List UInt8} {k:Nat} (h:l.getD k 0=43∨l.getD k 0=45):sgn2 l k=k+1:=by unfold sgn2; rw [if_pos h]
theorem sgn2_no {l:List UInt8} {k:Nat} (h:l.length≤k∨¬ (l.getD k 0=43∨l.getD k 0=45)):sgn2 l k=k:=by
  unfold sgn2
  rw [if_neg]
  rcases h with h | h
  · rw [List.getD_eq_getElem?_getD,List.getElem?_eq_none h]; decide
  · exact h
theorem J7 (l:List UInt8) {k:Nat} (h:k≤l.length):k+digs (l.drop k)≤l.length:=by
  have:=digs_le (l.drop k)
  rw [List.length_drop] at this; omega
theorem get_lt {l:List UInt8} {k:Nat} {c:UInt8} (h:l.getD k 0=c) (hc:c≠0):k<l.length:=P0 h hc
theorem sgn_le {l:List UInt8}:sgn l≤l.length:=by
  unfold sgn
  split
  · rename_i h; have:=P0 h (by decide); omega
  · exact Nat.zero_le _
theorem textR_no {q:RdS} {e:Nat} (he:1+qL (q.1.drop 1)=e) (h:q.1.length≤e∨¬ q.1.getD 0 0=34):C8 q=([],P6 70 q):=by
  unfold C8; rw [if_pos]; rw [he]; exact h
theorem textR_some {q:RdS} {e:Nat} {t:List UInt8} (he:1+qL (q.1.drop 1)=e) (h:¬ q.1.length≤e) (h0:q.1.getD 0 0=34) (ht:unjM (q.1.take (e+1))=some t):C8 q=(t,(q.1.drop (e+1),q.2)):=by
  unfold C8
  rw [if_neg (by rw [he]; rintro (h2 | h2); exact h h2; exact h2 h0)]
  rw [show qL (q.1.drop 1)+2=e+1 by omega,ht]
theorem textR_none {q:RdS} {e:Nat} (he:1+qL (q.1.drop 1)=e) (h:¬ q.1.length≤e) (h0:q.1.getD 0 0=34) (ht:unjM (q.1.take (e+1))=none):C8 q=([],P6 70 (q.1.drop (e+1),q.2)):=by
  unfold C8
  rw [if_neg (by rw [he]; rintro (h2 | h2); exact h h2; exact h2 h0)]
  rw [show qL (q.1.drop 1)+2=e+1 by omega,ht]
theorem mustR_yes {c:UInt8} {q:RdS} (h:q.1.take 1=[c]):D7 c q=(q.1.drop 1,q.2):=by unfold D7; rw [if_pos h]
theorem mustR_no {c:UInt8} {q:RdS} (h:¬ q.1.take 1=[c]):D7 c q=P6 70 q:=by unfold D7; rw [if_neg h]
theorem fltR_yes {n:Int} {q:RdS} (h:q.2=0):P6 n q=(q.1,n):=by unfold P6; rw [if_pos h]
theorem fltR_no {n:Int} {q:RdS} (h:¬ q.2=0):P6 n q=q:=by unfold P6; rw [if_neg h]
end Go.Json
namespace Go.Json
open Go.Lib Go.Esc Go.Sw
theorem must_le (c:UInt8) (r:RdS):(D7 c r).1.length≤r.1.length:=by
  unfold D7
  split
  · show (List.drop _ _).length≤_; rw [List.length_drop]; omega
  · exact Nat.le_refl _
theorem text_le (r:RdS):(C8 r).2.1.length≤r.1.length:=by
  unfold C8
  split
  · exact Nat.le_refl _
  · split
    · show (List.drop _ _).length≤_; rw [List.length_drop]; omega
    · show (List.drop _ _).length≤_; rw [List.length_drop]; omega
theorem blkR_le (r:RdS):(B3 r).1.length≤r.1.length:=J8 r.1
theorem nameq_le (r:RdS):(D7 58 (B3 (C8 (B3 r)).2)).1.length≤r.1.length:=Nat.le_trans (must_le _ _) (Nat.le_trans (blkR_le _) (Nat.le_trans (text_le _) (blkR_le _)))
theorem mbR_end {val:RdS→JV × RdS} {obj:Bool} {q:RdS} (h:(blk q.1).take 1=[Q0 obj]):mbR val obj q=(.mk (kindB obj) [] [] [],((blk q.1).drop 1,q.2)):=by unfold mbR; rw [if_pos h]
theorem mbR_mem {val:RdS→JV × RdS} {obj:Bool} {q c:RdS} {a:List (List UInt8)} {b:List JV} (h:¬ (blk q.1).take 1=[Q0 obj]) (hM:memR val obj ((blk q.1).length+1) [] [] (B3 q)=((a,b),c)):mbR val obj q=(.mk (kindB obj) [] a b,c):=by unfold mbR; rw [if_neg h,hM]
theorem JRep.shape {ts tj:TypeId} {v:JV} {c:List Value} {g:Grp} (h:JRep ts tj v c g):∃ (k:Int) (t:ByteArray) (an:Option Addr) (n cn:Nat) (al:Option Addr) (m cl:Nat),c=[.int .i64 k,.string t,.slice an n cn,.slice al m cl]:=by
  cases h; exact ⟨_,_,_,_,_,_,_,_,rfl⟩
theorem JRd.shape {S:Nat→Obj→Prop} {v:JV} {c:List Value} (h:JRd S v c):∃ (an al:Option Addr) (cn cl:Nat) (cs:List Value),c=[.int .i64 v.kind,.string (bk v.text),.slice an v.names.length cn,.slice al v.list.length cl]∧Rd S an (E7 v.names)∧Rd S al cs∧JRdL S v.list cs:=by
  cases h with
  | mk h1 h2 h3=>exact ⟨_,_,_,_,_,rfl,h1,h2,h3⟩
theorem take_head {l t:List UInt8} {n:Nat} {c:UInt8} (h:l.take n=c::t):l.getD 0 0=c:=by
  cases l with
  | nil=>rw [List.take_nil] at h; cases h
  | cons b u =>
    cases n with
    | zero=>cases h
    | succ n=>rw [List.take_succ_cons] at h; injection h with h _
theorem opens_no {l t:List UInt8} {n:Nat} {c:UInt8} (h:l.take n=c::t) (hc:c≠91∧c≠123):¬ P4 l:=by
  have:=take_head h
  rintro (h1 | h1)
  · exact hc.1 (this.symm.trans h1)
  · exact hc.2 (this.symm.trans h1)
theorem opens_not {l:List UInt8} (h1:¬ l.take 1=[91]) (h2:¬ l.take 1=[123]):¬ P4 l:=by
  rintro (h | h)
  · exact h1 ((take1 (by decide)).2 h)
  · exact h2 ((take1 (by decide)).2 h)
variable {lv : Nat} {q q1 : RdS}
theorem val_0 (hq:q1=vq1 lv q) (h:¬ q1.2=0):C7 lv q=(nul,q1):=by rw [hq]; exact valR_fault (by rw [← hq]; exact h)
theorem val_at (hq:q1=vq1 lv q) (h:q1.2=0) (ho:¬ P4 q1.1):C7 lv q=atomR q1:=by rw [hq]; exact valR_atom (by rw [← hq]; exact h) (by rw [← hq]; exact ho)
theorem val_null (hq:q1=vq1 lv q) (h:q1.2=0) (c1:q1.1.take 4=[110,117,108,108]):C7 lv q=(nul,(q1.1.drop 4,q1.2)):=by
  rw [val_at hq h (opens_no c1 (by decide))]; unfold atomR; rw [if_pos c1]
theorem val_false (hq:q1=vq1 lv q) (h:q1.2=0) (c1:¬ q1.1.take 4=[110,117,108,108]) (c2:q1.1.take 5=[102,97,108,115,101]):C7 lv q=(.mk 1 [] [] [],(q1.1.drop 5,q1.2)):=by
  rw [val_at hq h (opens_no c2 (by decide))]; unfold atomR; rw [if_neg c1,if_pos c2]
theorem val_true (hq:q1=vq1 lv q) (h:q1.2=0) (c1:¬ q1.1.take 4=[110,117,108,108]) (c2:¬ q1.1.take 5=[102,97,108,115,101]) (c3:q1.1.take 4=[116,114,117,101]):C7 lv q=(.mk 2 [] [] [],(q1.1.drop 4,q1.2)):=by
  rw [val_at hq h (opens_no c3 (by decide))]; unfold atomR; rw [if_neg c1,if_neg c2,if_pos c3]
theorem val_text (hq:q1=vq1 lv q) (h:q1.2=0) (c1:¬ q1.1.take 4=[110,117,108,108]) (c2:¬ q1.1.take 5=[102,97,108,115,101]) (c3:¬ q1.1.take 4=[116,114,117,101]) (c4:¬ q1.1.take 1=[91]) (c5:¬ q1.1.take 1=[123]) (c6:q1.1.take 1=[34]):C7 lv q=(.mk 4 (C8 q1).1 [] [],(C8 q1).2):=by
  rw [val_at hq h (opens_not c4 c5)]; unfold atomR; rw [if_neg c1,if_neg c2,if_neg c3,if_pos ((take1 (by decide)).1 c6)]
theorem val_none (hq:q1=vq1 lv q) (h:q1.2=0) (c1:¬ q1.1.take 4=[110,117,108,108]) (c2:¬ q1.1.take 5=[102,97,108,115,101]) (c3:¬ q1.1.take 4=[116,114,117,101]) (c4:¬ q1.1.take 1=[91]) (c5:¬ q1.1.take 1=[123]) (c6:¬ q1.1.take 1=[34]) (c7:F8 q1.1=0):C7 lv q=(nul,P6 70 q1):=by
  rw [val_at hq h (opens_not c4 c5)]; unfold atomR; rw [if_neg c1,if_neg c2,if_neg c3,if_neg (fun hn=>c6 ((take1 (by decide)).2 hn)),if_pos c7]
theorem val_num (hq:q1=vq1 lv q) (h:q1.2=0) (c1:¬ q1.1.take 4=[110,117,108,108]) (c2:¬ q1.1.take 5=[102,97,108,115,101]) (c3:¬ q1.1.take 4=[116,114,117,101]) (c4:¬ q1.1.take 1=[91]) (c5:¬ q1.1.take 1=[123]) (c6:¬ q1.1.take 1=[34]) (c7:¬ F8 q1.1=0):C7 lv q=(.mk 3 (q1.1.take (F8 q1.1)) [] [],(q1.1.drop (F8 q1.1),q1.2)):=by
  rw [val_at hq h (opens_not c4 c5)]; unfold atomR; rw [if_neg c1,if_neg c2,if_neg c3,if_neg (fun hn=>c6 ((take1 (by decide)).2 hn)),if_neg c7]
theorem val_many (hq:q1=vq1 lv q) (h:q1.2=0) (obj:Bool) (ho:q1.1.take 1=[if obj then 123 else 91]):∃ n,lv=n+1∧C7 lv q=mbR (C7 n) obj (q1.1.drop 1,q1.2):=by
  have hh:=take_head ho
  obtain ⟨n,h1,h2⟩:=valR_open (lv:=lv) (q:=q) (by rw [← hq]; exact h) (by rw [← hq]; cases obj with | false=>exact .inl hh | true=>exact .inr hh)
  refine ⟨n,h1,?_⟩
  rw [h2,← hq,hh]
  cases obj <;> rfl
end Go.Json
namespace Go.Esc
open Go.Lib Go.Sw
theorem enc_byte {p:Int} (h:isR p):(p≤127∧encodeRune p=[p.toNat.toUInt8])∨(128≤p∧∀ b∈encodeRune p,128≤b.toNat):=by
  unfold isR at h
  by_cases h1:p≤127
  · exact .inl ⟨h1,enc_one h.1 h1⟩
  refine .inr ⟨by omega,fun b hb=>?_⟩
  unfold encodeRune at hb
  obtain ⟨x,hx,rfl⟩:=List.mem_map.1 hb
  have hr:=encodeRuneZ_byte p x hx
  rw [byteZ x hr.1 hr.2]
  unfold encodeRuneZ at hx
  rw [if_neg (by omega)] at hx
  split at hx
  · simp only [List.mem_cons,List.not_mem_nil,or_false] at hx; omega
  split at hx
  · simp only [List.mem_cons,List.not_mem_nil,or_false] at hx; omega
  split at hx
  · simp only [List.mem_cons,List.not_mem_nil,or_false] at hx; omega
  · simp only [List.mem_cons,List.not_mem_nil,or_false] at hx; omega
theorem u8_ne {p:Int} (h0:0≤p) (h1:p≤127) {c:Nat} (hc:c<256) (h:p≠(c:Int)):p.toNat.toUInt8≠UInt8.ofNat c:=by
  intro he
  have:=congrArg UInt8.toNat he
  rw [byteZ p h0 (by omega)] at this
  simp [UInt8.toNat_ofNat',Nat.mod_eq_of_lt hc] at this
  omega
theorem enc_no {p:Int} (h:isR p) {c:Nat} (hc:c<128) (hp:p≠(c:Int)):∀ b∈encodeRune p,b≠UInt8.ofNat c:=by
  intro b hb
  rcases enc_byte h with ⟨h1,he⟩ | ⟨h1,he⟩
  · rw [he] at hb
    obtain rfl:=List.mem_singleton.1 hb
    exact u8_ne h.1 h1 (by omega) hp
  · have:=he b hb
    intro hx; rw [hx] at this
    simp [UInt8.toNat_ofNat',Nat.mod_eq_of_lt (show c<256 by omega)] at this
    omega
end Go.Esc
namespace Go.Esc
open Go.Lib Go.Sw
theorem hexl_ok:∀ n:Fin 16,¬ hexl n.val<32∧hexl n.val≠60∧hexl n.val≠62∧hexl n.val≠38∧(hexl n.val).toNat<128∧digB ((hexl n.val).toNat:Int) 16=(n.val:Int):=by decide +kernel
theorem hexl_lt {n:Nat} (h:n<16):¬ hexl n<32∧hexl n≠60∧hexl n≠62∧hexl n≠38∧(hexl n).toNat<128∧digB ((hexl n).toNat:Int) 16=(n:Int):=hexl_ok ⟨n,h⟩
theorem hex4_mem {n:Nat} {b:UInt8} (h:b∈hex4 n):¬ b<32∧b≠60∧b≠62∧b≠38∧b.toNat<128:=by
  unfold hex4 at h
  simp only [List.mem_cons,List.not_mem_nil,or_false] at h
  rcases h with rfl | rfl | rfl | rfl
  · have:=hexl_lt (n:=n / 4096 % 16) (by omega); exact ⟨this.1,this.2.1,this.2.2.1,this.2.2.2.1,this.2.2.2.2.1⟩
  · have:=hexl_lt (n:=n / 256 % 16) (by omega); exact ⟨this.1,this.2.1,this.2.2.1,this.2.2.2.1,this.2.2.2.2.1⟩
  · have:=hexl_lt (n:=n / 16 % 16) (by omega); exact ⟨this.1,this.2.1,this.2.2.1,this.2.2.2.1,this.2.2.2.2.1⟩
  · have:=hexl_lt (n:=n % 16) (by omega); exact ⟨this.1,this.2.1,this.2.2.1,this.2.2.2.1,this.2.2.2.2.1⟩
theorem enc_ge {p:Int} (h:isR p) (h32:¬ p<32):∀ b∈encodeRune p,¬ b<32:=by
  intro b hb hlt
  have hlt:=UInt8.lt_iff_toNat_lt.1 hlt
  have hlt:b.toNat<32:=hlt
  rcases enc_byte h with ⟨h1,he⟩ | ⟨h1,he⟩
  · rw [he] at hb
    obtain rfl:=List.mem_singleton.1 hb
    rw [byteZ p h.1 (by omega)] at hlt; omega
  · have:=he b hb; omega
theorem ujL_app:∀ {p:List UInt8} (t:List UInt8),(∀ b∈p,¬ (b<32∨b=34)∧b≠92)→ujL (p++t)=(ujL t).map (p++·)
  | [],t,_=>by rw [List.nil_append]; cases ujL t <;> rfl
  | b::p,t,h=>by
    have hb:=h b List.mem_cons_self
    rw [List.cons_append,Q2,if_neg hb.1,if_pos hb.2,ujL_app t (fun x hx=>h x (List.mem_cons_of_mem _ hx))]
    cases ujL t <;> rfl
theorem uj_two {c:UInt8} {q:Int} (t:List UInt8) (ho:O9 c=q) (hq:0≤q):ujL (92::c::t)=(ujL t).map (encodeRune q++·):=by
  have he:G2 (92::c::t)=(q,2):=by
    unfold G2
    rw [if_neg (by simp),show (92::c::t).getD 1 0=c from rfl,ho,if_pos hq]
  rw [Q2,if_neg (by decide),if_neg (by decide),he,if_neg (by dsimp only; omega)]
  rfl
theorem num_hex4 {n:Nat} (h:n<65536):numV 16 0 (hex4 n)=some (n:Int):=by
  have h1:=(hexl_lt (n:=n / 4096 % 16) (by omega)).2.2.2.2.2
  have h2:=(hexl_lt (n:=n / 256 % 16) (by omega)).2.2.2.2.2
  have h3:=(hexl_lt (n:=n / 16 % 16) (by omega)).2.2.2.2.2
  have h4:=(hexl_lt (n:=n % 16) (by omega)).2.2.2.2.2
  unfold hex4
  rw [M9,h1,if_neg (by omega),M9,h2,if_neg (by omega),M9,h3,if_neg (by omega),M9,h4,if_neg (by omega),numV_nil]
  congr 1; omega
theorem uj_hex {n:Nat} (h:n<55296) (t:List UInt8):ujL (92::117::(hex4 n++t))=(ujL t).map (encodeRune (n:Int)++·):=by
  have hl:(hex4 n).length=4:=rfl
  have hu:G9 (92::117::(hex4 n++t))=(n:Int):=by
    unfold G9
    rw [if_neg (by
      rintro (h1 | h1)
      · simp only [List.length_cons,List.length_append,hl] at h1; omega
      · exact h1 rfl)]
    rw [show ((92::117::(hex4 n++t)).drop 2).take 4=hex4 n from rfl,num_hex4 (by omega)]; rfl
  have he:G2 (92::117::(hex4 n++t))=((n:Int),6):=by
    unfold G2
    rw [if_neg (by simp),show (92::117::(hex4 n++t)).getD 1 0=117 from rfl,if_neg (by decide),hu,if_neg (by omega),if_neg (by omega)]
  rw [Q2,if_neg (by decide),if_neg (by decide),he,if_neg (by dsimp only; omega)]
  rfl
theorem uj_json {p:Int} (h:isR p) (t:List UInt8):ujL (H6 p++t)=(ujL t).map (encodeRune p++·):=by
  have h0:=h.1
  unfold H6
  split
  · rename_i hq
    rcases hq with rfl | rfl
    · rw [show encodeRune 34=[34] by decide +kernel]
      have:=uj_two (c:=34) (q:=34) t (by decide) (by decide); rw [show encodeRune 34=[34] by decide +kernel] at this; exact this
    · rw [show encodeRune 92=[92] by decide +kernel]
      have:=uj_two (c:=92) (q:=92) t (by decide) (by decide); rw [show encodeRune 92=[92] by decide +kernel] at this; exact this
  split
  · subst_vars; exact uj_two (c:=110) (q:=10) t (by decide) (by decide)
  split
  · subst_vars; exact uj_two (c:=114) (q:=13) t (by decide) (by decide)
  split
  · subst_vars; exact uj_two (c:=116) (q:=9) t (by decide) (by decide)
  split
  · have:=uj_hex (n:=p.toNat) (by omega) t
    rw [show ((p.toNat:Nat):Int)=p by omega] at this
    exact this
  · refine ujL_app t fun b hb=>⟨?_,enc_no h (c:=92) (by decide) (by omega) b hb⟩
    rintro (h1 | h1)
    · exact enc_ge h (by omega) b hb h1
    · exact enc_no h (c:=34) (by decide) (by omega) b hb h1
theorem uj_jsons:∀ {ps:List Int},(∀ p∈ps,isR p)→ujL (ps.flatMap H6)=some (encL ps)
  | [],_=>rfl
  | p::ps,h=>by rw [List.flatMap_cons,uj_json (h p List.mem_cons_self),uj_jsons (fun q hq=>h q (List.mem_cons_of_mem _ hq))]; rfl
theorem M8:∀ {p:List UInt8} (t:List UInt8),(∀ b∈p,b.toNat<128)→D2 (p++t)=D2 t
  | [],_,_=>rfl
  | b::p,t,h=>by
    rw [List.cons_append,validP_D,validD_cons b _ (h b List.mem_cons_self),← validP_D]
    exact M8 t (fun x hx=>h x (List.mem_cons_of_mem _ hx))
theorem valid_json {p:Int} (h:isR p) (t:List UInt8):D2 (H6 p++t)=D2 t:=by
  unfold H6
  split
  · rename_i hq
    rcases hq with rfl | rfl
    · rw [show encodeRune 34=[34] by decide +kernel]; exact M8 t (by decide)
    · rw [show encodeRune 92=[92] by decide +kernel]; exact M8 t (by decide)
  split
  · exact M8 t (by decide)
  split
  · exact M8 t (by decide)
  split
  · exact M8 t (by decide)
  split
  · refine M8 t fun b hb=>?_
    rcases List.mem_cons.1 hb with rfl | hb
    · decide
    rcases List.mem_cons.1 hb with rfl | hb
    · decide
    exact (hex4_mem hb).2.2.2.2
  · have:=validP_enc (ps:=[p]) (by intro q hq; obtain rfl:=List.mem_singleton.1 hq; exact h) t
    rw [encL_cons,encL_nil,List.append_nil] at this; exact this
theorem valid_jsons:∀ {ps:List Int} (t:List UInt8),(∀ p∈ps,isR p)→D2 (ps.flatMap H6++t)=D2 t
  | [],_,_=>rfl
  | p::ps,t,h=>by rw [List.flatMap_cons,List.append_assoc,valid_json (h p List.mem_cons_self),valid_jsons t (fun q hq=>h q (List.mem_cons_of_mem _ hq))]
theorem unj_json (l:List UInt8):unjM (G6 l)=some (fixL l):=by
  unfold unjM G6
  have hv:D2 (34::((A6 l).flatMap H6++[34]))=true:=by
    have:=M8 (p:=[34]) ((A6 l).flatMap H6++[34]) (by decide)
    rw [List.singleton_append] at this
    rw [this,valid_jsons _ (runes_isR l)]; decide +kernel
  generalize hX:(A6 l).flatMap H6=X at hv
  rw [if_neg]
  · rw [show (34::(X++[34])).drop 1=X++[34] from rfl,show (34::(X++[34])).length - 2=X.length by simp,List.take_left,← hX,uj_jsons (runes_isR l)]; rfl
  · rintro (h | h | h | h)
    · simp only [List.length_cons,List.length_append,List.length_nil] at h; omega
    · exact h rfl
    · apply h
      rw [show (34::(X++[34])).length - 1=(34::X).length by simp,← List.cons_append]
      simp [List.getD]
    · rw [hv] at h; cases h
end Go.Esc
namespace Go.Json
open Go.Lib Go.Esc
mutual
/-- what a value is written as -/
def prP:JV→List UInt8
  | .mk k t ns l=>if k=0 then [110,117,108,108] else if k=1 then [102,97,108,115,101] else if k=2 then [116,114,117,101] else if k=3 then t else if k=4 then G6 t
    else (if k=6 then 123 else 91)::(prL (k==6) true ns l++[Q0 (k==6)])
def prL:Bool→Bool→List (List UInt8)→List JV→List UInt8
  | _,_,_,[]=>[]
  | obj,fst,ns,v::l=>(if fst then [] else [44])++((if obj then G6 (ns.headD [])++[58] else [])++(prP v++prL obj false ns.tail l))
end
mutual
/-- may a value be written, with so many more within? -/
def rtP:Nat→JV→Bool
  | lv,.mk k t ns l=>if k<0∨6<k then false else if k<5∧l≠[]∨k≠6∧ns≠[]∨k=6∧ns.length≠l.length then false else if k=3 then decide (t≠[]∧F8 t=t.length) else if k=4 then D2 t
    else if t≠[]∨5≤k∧lv=0 then false else ns.all D2&&rtL (lv - 1) l
def rtL:Nat→List JV→Bool
  | _,[]=>true
  | lv,v::l=>rtP lv v&&rtL lv l
end
mutual
def dpP:JV→Nat
  | .mk k _ _ l=>if k=5∨k=6 then dpL l+1 else 0
def dpL:List JV→Nat
  | []=>0
  | v::l=>max (dpP v) (dpL l)
end
theorem qL_plain:∀ {p:List UInt8} (u:List UInt8),(∀ b∈p,b≠34∧b≠92)→qL (p++u)=p.length+qL u
  | [],u,_=>by rw [List.nil_append,List.length_nil,Nat.zero_add]
  | b::p,u,h=>by
    have hb:=h b List.mem_cons_self
    rw [List.cons_append,qL_cons,if_neg hb.1,if_neg hb.2,qL_plain u (fun x hx=>h x (List.mem_cons_of_mem _ hx)),List.length_cons]; omega
theorem qL_esc (c:UInt8) (u:List UInt8):qL (92::c::u)=2+qL u:=by
  rw [qL_cons,if_neg (by decide),if_pos rfl]; rfl
theorem hexl_noq:∀ n:Fin 16,hexl n.val≠34∧hexl n.val≠92:=by decide +kernel
theorem hex4_noq {n:Nat}:∀ b∈hex4 n,b≠34∧b≠92:=by
  intro b h
  unfold hex4 at h
  simp only [List.mem_cons,List.not_mem_nil,or_false] at h
  rcases h with rfl | rfl | rfl | rfl
  · exact hexl_noq ⟨n / 4096 % 16,by omega⟩
  · exact hexl_noq ⟨n / 256 % 16,by omega⟩
  · exact hexl_noq ⟨n / 16 % 16,by omega⟩
  · exact hexl_noq ⟨n % 16,by omega⟩
theorem qL_json {p:Int} (h:isR p) (u:List UInt8):qL (H6 p++u)=(H6 p).length+qL u:=by
  unfold H6
  split
  · rename_i hc
    have he:∃ c,encodeRune p=[c]:=by rcases hc with rfl | rfl <;> exact ⟨_,rfl⟩
    obtain ⟨c,he⟩:=he
    rw [he]; exact qL_esc c u
  · rename_i hc
    split
    · exact qL_esc 110 u
    split
    · exact qL_esc 114 u
    split
    · exact qL_esc 116 u
    split
    · rw [List.cons_append,List.cons_append,qL_esc,qL_plain u hex4_noq,List.length_cons,List.length_cons]; omega
    · exact qL_plain u (fun b hb=>⟨enc_no h (c:=34) (by decide) (by omega) b hb,enc_no h (c:=92) (by decide) (by omega) b hb⟩)
theorem qL_jsons:∀ {ps:List Int} (u:List UInt8),(∀ p∈ps,isR p)→qL (ps.flatMap H6++u)=(ps.flatMap H6).length+qL u
  | [],u,_=>by rw [List.flatMap_nil,List.nil_append,List.length_nil,Nat.zero_add]
  | p::ps,u,h=>by
    rw [List.flatMap_cons,List.append_assoc,qL_json (h p List.mem_cons_self),qL_jsons u (fun x hx=>h x (List.mem_cons_of_mem _ hx)),List.length_append]; omega
theorem textP_json {t:List UInt8} (h:D2 t=true) (w:List UInt8):textP (G6 t++w)=some (t,w):=by
  have hf:fixL t=t:=enc_runes t h
  have e:(G6 t++w).drop 1=(A6 t).flatMap H6++(34::w):=by unfold G6; simp
  have hq:qL ((G6 t++w).drop 1)=((A6 t).flatMap H6).length:=by
    rw [e,qL_jsons _ (runes_isR t),qL_cons,if_pos rfl]; rfl
  have hl:(G6 t).length=((A6 t).flatMap H6).length+2:=by unfold G6; simp
  unfold textP
  rw [hq,if_pos ⟨rfl,by rw [List.length_append,hl]; omega⟩,← hl,List.take_left,List.drop_left,unj_json,hf]; rfl
theorem numP_head {l:List UInt8} (h:0<F8 l):l.getD 0 0=45∨dgB (l.getD 0 0)=true:=by
  by_cases h1:l.getD 0 0=45
  · exact .inl h1
  · right
    have hi:0<intP l:=by
      unfold F8 at h
      split at h
      · omega
      · omega
    have hs:sgn l=0:=by unfold sgn; rw [if_neg h1]
    unfold intP at hi
    rw [hs,List.drop_zero] at hi
    split at hi
    · omega
    · rename_i hc
      have hd:0<digs l:=by omega
      unfold digs at hd
      cases l with
      | nil=>exact absurd hd (by decide)
      | cons b t =>
        rw [List.takeWhile_cons] at hd
        cases hb:dgB b with
        | true=>exact hb
        | false=>rw [hb] at hd; simp at hd
theorem first_all:∀ n:Fin 256,(UInt8.ofNat n.val=45∨dgB (UInt8.ofNat n.val)=true)→wsB (UInt8.ofNat n.val)=false∧UInt8.ofNat n.val≠93∧UInt8.ofNat n.val≠125∧UInt8.ofNat n.val≠34∧UInt8.ofNat n.val≠91∧UInt8.ofNat n.val≠123∧UInt8.ofNat n.val≠110∧UInt8.ofNat n.val≠102∧UInt8.ofNat n.val≠116:=by decide +kernel
theorem first_num {b:UInt8} (h:b=45∨dgB b=true):wsB b=false∧b≠93∧b≠125∧b≠34∧b≠91∧b≠123∧b≠110∧b≠102∧b≠116:=by
  have:=first_all ⟨b.toNat,b.toNat_lt⟩
  simp only [UInt8.ofNat_toNat] at this
  exact this h
theorem R0 {b:UInt8} {t:List UInt8} (h:wsB b=false):blk (b::t)=b::t:=by unfold blk; rw [List.dropWhile_cons,h]; rfl
theorem pr_head {lv:Nat} {v:JV} (h:rtP lv v=true):∃ b t,prP v=b::t∧wsB b=false∧b≠93∧b≠125:=by
  obtain ⟨k,t,ns,l⟩:=v
  unfold rtP at h
  unfold prP
  split at h
  · cases h
  rename_i hk
  split at h
  · cases h
  by_cases c0:k=0
  · rw [if_pos c0]; exact ⟨_,_,rfl,by decide,by decide,by decide⟩
  rw [if_neg c0]
  by_cases c1:k=1
  · rw [if_pos c1]; exact ⟨_,_,rfl,by decide,by decide,by decide⟩
  rw [if_neg c1]
  by_cases c2:k=2
  · rw [if_pos c2]; exact ⟨_,_,rfl,by decide,by decide,by decide⟩
  rw [if_neg c2]
  by_cases c3:k=3
  · rw [if_pos c3]
    rw [if_pos c3,decide_eq_true_eq] at h
    cases t with
    | nil=>exact absurd rfl h.1
    | cons b u =>
      have:=first_num (numP_head (l:=b::u) (by rw [h.2,List.length_cons]; omega))
      exact ⟨b,u,rfl,this.1,this.2.1,this.2.2.1⟩
  rw [if_neg c3]
  by_cases c4:k=4
  · rw [if_pos c4]; exact ⟨_,_,rfl,by decide,by decide,by decide⟩
  rw [if_neg c4]
  by_cases c6:k=6
  · rw [if_pos c6]; exact ⟨_,_,rfl,by decide,by decide,by decide⟩
  · rw [if_neg c6]; exact ⟨_,_,rfl,by decide,by decide,by decide⟩
end Go.Json
namespace Go.Json
open Go.Lib Go.Esc
theorem K8 (obj fst:Bool) (ns:List (List UInt8)):prL obj fst ns []=[]:=by unfold prL; rfl
theorem K2 (obj fst:Bool) (ns:List (List UInt8)) (v:JV) (l:List JV):prL obj fst ns (v::l)=(if fst then [] else [44])++((if obj then G6 (ns.headD [])++[58] else [])++(prP v++prL obj false ns.tail l)):=by rw [prL]
theorem prL_comma (obj:Bool) (ns:List (List UInt8)) {l:List JV} (h:l≠[]):prL obj false ns l=44::prL obj true ns l:=by
  cases l with
  | nil=>exact absurd rfl h
  | cons v l=>rw [K2,K2]; rfl
theorem endB_ok (obj:Bool):Q0 obj≠44∧wsB (Q0 obj)=false∧inB (Q0 obj)=true:=by cases obj <;> decide
theorem prP_many {k:Int} {t:List UInt8} {ns:List (List UInt8)} {l:List JV} (h:k=5∨k=6):prP (.mk k t ns l)=(if k=6 then 123 else 91)::(prL (k==6) true ns l++[Q0 (k==6)]):=by
  rw [prP,if_neg (by omega),if_neg (by omega),if_neg (by omega),if_neg (by omega),if_neg (by omega)]
theorem rtP_many {lv:Nat} {k:Int} {t:List UInt8} {ns:List (List UInt8)} {l:List JV} (h:rtP lv (.mk k t ns l)=true) (hk:k=5∨k=6):t=[]∧(∃ n,lv=n+1∧rtL n l=true)∧ns.all D2=true∧(k=5→ns=[])∧(k=6→ns.length=l.length):=by
  unfold rtP at h
  rw [if_neg (by omega)] at h
  split at h
  · cases h
  rename_i h1
  rw [if_neg (by omega),if_neg (by omega)] at h
  split at h
  · cases h
  rename_i h2
  rw [Bool.and_eq_true] at h
  have hlv:lv≠0:=fun h3=>h2 (.inr ⟨by omega,h3⟩)
  refine ⟨?_,⟨lv - 1,by omega,h.2⟩,h.1,fun h5=>?_,fun h6=>?_⟩
  · by_cases ht:t=[]
    · exact ht
    · exact absurd (.inl ht) h2
  · by_cases hn:ns=[]
    · exact hn
    · exact absurd (.inr (.inl ⟨by omega,hn⟩)) h1
  · by_cases hn:ns.length=l.length
    · exact hn
    · exact absurd (.inr (.inr ⟨h6,hn⟩)) h1
theorem O3 (b:UInt8) (t:List UInt8):(b::t).getD 0 0=b:=rfl
theorem nameP_json {obj:Bool} (ns0:List (List UInt8)) {ns:List (List UInt8)} (hv:ns.all D2=true) (hl:obj=true→ns≠[]) (h0:obj=false→ns=[]) (u:List UInt8) :
    nameP obj ns0 ((if obj then G6 (ns.headD [])++[58] else [])++u)=some (ns0++ns.take 1,u):=by
  cases obj with
  | false=>rw [h0 rfl]; simp [nameP]
  | true =>
    cases ns with
    | nil=>exact absurd rfl (hl rfl)
    | cons n ns =>
      rw [List.all_cons,Bool.and_eq_true] at hv
      unfold nameP
      simp only [if_true,List.headD_cons]
      have hb:blk (G6 n++[58]++u)=G6 n++(58::u):=by
        rw [List.append_assoc]
        exact R0 (b:=34) rfl
      rw [hb,textP_json hv.1]
      simp only [Option.bind_some]
      rw [R0 (b:=58) rfl]
      simp
theorem tail_all {ns:List (List UInt8)} (h:ns.all D2=true):ns.tail.all D2=true:=by
  cases ns with
  | nil=>rfl
  | cons n ns=>rw [List.all_cons,Bool.and_eq_true] at h; exact h.2
mutual
theorem pr_back:∀ (v:JV) (lv:Nat) (w:List UInt8),rtP lv v=true→Inert w→valP lv (prP v++w)=.ok (v,w)
  | .mk k t ns l,lv,w,h,hw=>by
    obtain ⟨b,u,hb,hws,h93,h125⟩:=pr_head h
    have hblk:blk (prP (.mk k t ns l)++w)=prP (.mk k t ns l)++w:=by rw [hb]; exact R0 hws
    have hrange:0≤k∧k≤6:=by
      unfold rtP at h
      split at h
      · cases h
      · omega
    by_cases hm:k=5∨k=6
    · obtain ⟨rfl,⟨n,rfl,hr⟩,hv,h5,h6⟩:=rtP_many h hm
      rw [prP_many hm] at hblk ⊢
      have hobj:((if k=6 then (123:UInt8) else 91)==123)=(k==6):=by rcases hm with rfl | rfl <;> rfl
      have hk:(if (k==6)=true then (6:Int) else 5)=k:=by rcases hm with rfl | rfl <;> rfl
      have hc:(if k=6 then (123:UInt8) else 91)=91∨(if k=6 then (123:UInt8) else 91)=123:=by rcases hm with rfl | rfl <;> decide
      unfold valP
      dsimp only
      rw [hblk,List.cons_append,O3,if_pos hc,hobj,List.drop_succ_cons,List.drop_zero,List.append_assoc,List.cons_append,List.nil_append]
      cases hl:l with
      | nil =>
        have hn:ns=[]:=by
          rcases hm with rfl | rfl
          · exact h5 rfl
          · have:=h6 rfl; rw [hl] at this; exact List.eq_nil_of_length_eq_zero this
        rw [K8,List.nil_append,R0 (endB_ok _).2.1,O3,if_pos rfl,hk,hn]; rfl
      | cons v l' =>
        rw [← hl]
        have hne:l≠[]:=by rw [hl]; exact List.cons_ne_nil _ _
        have hhead:∃ b2 u2,prL (k==6) true ns l=b2::u2∧wsB b2=false∧b2≠Q0 (k==6):=by
          rw [hl,K2]
          rcases hm with rfl | rfl
          · rw [hl] at hr
            rw [rtL,Bool.and_eq_true] at hr
            obtain ⟨b2,u2,e,e1,e2,e3⟩:=pr_head hr.1
            exact ⟨b2,u2++prL false false ns.tail l',by rw [e]; rfl,e1,e2⟩
          · exact ⟨34,_,rfl,rfl,by decide⟩
        obtain ⟨b2,u2,e,e1,e2⟩:=hhead
        have hblk2:blk (prL (k==6) true ns l++(Q0 (k==6)::w))=prL (k==6) true ns l++(Q0 (k==6)::w):=by rw [e]; exact R0 e1
        rw [hblk2,e,List.cons_append,O3,if_neg e2,← List.cons_append,← e]
        have:=prL_back l n (k==6) ns w [] [] _ hne hr hv (fun h=>h6 (by simpa using h)) (fun h=>h5 (by rcases hm with h7 | h7; exact h7; rw [h7] at h; cases h)) hw (Nat.lt_succ_self _)
        rw [this,hk]; rfl
    · have hatom:valP lv (prP (.mk k t ns l)++w)=atomP (prP (.mk k t ns l)++w)∧prP (.mk k t ns l)++w=b::(u++w):=by
        have hne:¬ ((prP (.mk k t ns l)++w).getD 0 0=91∨(prP (.mk k t ns l)++w).getD 0 0=123):=by
          rw [hb,List.cons_append,O3]
          unfold prP at hb
          unfold rtP at h
          rw [if_neg (by omega)] at h
          split at h
          · cases h
          by_cases c0:k=0
          · rw [if_pos c0] at hb; injection hb with hb _; rw [← hb]; decide
          by_cases c1:k=1
          · rw [if_neg c0,if_pos c1] at hb; injection hb with hb _; rw [← hb]; decide
          by_cases c2:k=2
          · rw [if_neg c0,if_neg c1,if_pos c2] at hb; injection hb with hb _; rw [← hb]; decide
          by_cases c3:k=3
          · rw [if_neg c0,if_neg c1,if_neg c2,if_pos c3] at hb
            rw [if_pos c3,decide_eq_true_eq] at h
            have:=first_num (numP_head (l:=t) (by rw [h.2,hb,List.length_cons]; omega))
            rw [hb,O3] at this
            rintro (h2 | h2)
            · exact this.2.2.2.2.1 h2
            · exact this.2.2.2.2.2.1 h2
          · rw [if_neg c0,if_neg c1,if_neg c2,if_neg c3,if_pos (by omega)] at hb; injection hb with hb _; rw [← hb]; decide
        refine ⟨?_,by rw [hb]; rfl⟩
        cases lv with
        | zero=>unfold valP; dsimp only; rw [hblk,if_neg hne]
        | succ n=>unfold valP; dsimp only; rw [hblk,if_neg hne]
      rw [hatom.1]
      unfold rtP at h
      rw [if_neg (by omega)] at h
      split at h
      · cases h
      rename_i hs
      have hl:l=[]:=by
        by_cases hl:l=[]
        · exact hl
        · exact absurd (.inl ⟨by omega,hl⟩) hs
      have hn:ns=[]:=by
        by_cases hn:ns=[]
        · exact hn
        · exact absurd (.inr (.inl ⟨by omega,hn⟩)) hs
      subst hl; subst hn
      unfold prP
      by_cases c3:k=3
      · subst c3
        rw [if_pos rfl,decide_eq_true_eq] at h
        have hh:=first_num (numP_head (l:=t) (by have:=h.1; cases t with | nil=>exact absurd rfl this | cons b u=>rw [h.2,List.length_cons]; omega))
        rw [if_neg (by decide),if_neg (by decide),if_neg (by decide),if_pos rfl]
        cases t with
        | nil=>exact absurd rfl h.1
        | cons b u =>
          rw [O3] at hh
          unfold atomP
          rw [List.cons_append,List.take_succ_cons,List.take_succ_cons]
          rw [if_neg (by intro h2; injection h2 with h2 _; exact hh.2.2.2.2.2.2.1 h2),if_neg (by intro h2; injection h2 with h2 _; exact hh.2.2.2.2.2.2.2.1 h2),if_neg (by intro h2; injection h2 with h2 _; exact hh.2.2.2.2.2.2.2.2 h2),O3,if_neg hh.2.2.2.1,← List.cons_append,numP_app _ hw,h.2,if_neg (by rw [List.length_cons]; omega),List.take_left,List.drop_left]
      rw [if_neg c3] at h
      by_cases c4:k=4
      · subst c4
        rw [if_pos rfl] at h
        rw [if_neg (by decide),if_neg (by decide),if_neg (by decide),if_neg (by decide),if_pos rfl]
        unfold atomP
        have e:G6 t++w=34::((A6 t).flatMap H6++[34]++w):=rfl
        rw [if_neg (by rw [e,List.take_succ_cons]; intro h2; injection h2 with h2 _; exact absurd h2 (by decide)),if_neg (by rw [e,List.take_succ_cons]; intro h2; injection h2 with h2 _; exact absurd h2 (by decide)),if_neg (by rw [e,List.take_succ_cons]; intro h2; injection h2 with h2 _; exact absurd h2 (by decide)),if_pos (by rw [e]; rfl),textP_json h w]
      rw [if_neg c4] at h
      have ht:t=[]:=by
        by_cases ht:t=[]
        · exact ht
        · rw [if_pos (.inl ht)] at h; cases h
      subst ht
      by_cases c0:k=0
      · subst c0; rfl
      by_cases c1:k=1
      · subst c1; rfl
      have c2:k=2:=by omega
      subst c2; rfl
theorem prL_back:∀ (l:List JV) (lv:Nat) (obj:Bool) (ns:List (List UInt8)) (w:List UInt8) (ns0:List (List UInt8)) (vs0:List JV) (n:Nat),l≠[]→rtL lv l=true→ns.all D2=true→(obj=true→ns.length=l.length)→(obj=false→ns=[])→Inert w→(prL obj true ns l++(Q0 obj::w)).length<n→memP (valP lv) obj n ns0 vs0 (prL obj true ns l++(Q0 obj::w))=.ok (.mk (if obj then 6 else 5) [] (ns0++ns) (vs0++l),w)
  | [],_,_,_,_,_,_,_,h,_,_,_,_,_,_=>absurd rfl h
  | v::l,lv,obj,ns,w,ns0,vs0,0,_,_,_,_,_,_,hn=>absurd hn (Nat.not_lt_zero _)
  | v::l,lv,obj,ns,w,ns0,vs0,n+1,_,hr,hv,h6,h5,hw,hn=>by
    rw [rtL,Bool.and_eq_true] at hr
    have e:prL obj true ns (v::l)++(Q0 obj::w)=(if obj then G6 (ns.headD [])++[58] else [])++(prP v++(prL obj false ns.tail l++(Q0 obj::w))):=by
      rw [K2]; simp only [if_true,List.nil_append,List.append_assoc]
    have hns:ns.take 1++ns.tail=ns:=by cases ns <;> rfl
    rw [e] at hn ⊢
    unfold memP
    rw [nameP_json ns0 hv (fun ho=>by intro h2; have:=h6 ho; rw [h2] at this; simp at this) h5]
    dsimp only
    have hin:Inert (prL obj false ns.tail l++(Q0 obj::w)):=by
      right
      cases l with
      | nil=>rw [K8]; exact (endB_ok obj).2.2
      | cons v2 l2=>rw [prL_comma _ _ (List.cons_ne_nil _ _)]; rfl
    rw [pr_back v lv _ hr.1 hin]
    dsimp only
    cases hl:l with
    | nil =>
      have ht:ns.tail=[]:=by
        cases obj with
        | false=>rw [h5 rfl]; rfl
        | true=>have:=h6 rfl; rw [hl] at this; cases ns with
          | nil=>rfl
          | cons a b=>simp at this; rw [this]; rfl
      rw [K8,List.nil_append,R0 (endB_ok obj).2.1]
      dsimp only
      rw [ht,List.append_nil] at hns
      rw [if_pos rfl,hns]
    | cons v2 l2 =>
      rw [← hl]
      have hne:l≠[]:=by rw [hl]; exact List.cons_ne_nil _ _
      rw [prL_comma _ _ hne,List.cons_append,R0 (b:=44) rfl]
      dsimp only
      rw [if_neg (fun h=>(endB_ok obj).1 h.symm),if_pos rfl]
      rw [prL_comma _ _ hne] at hn
      rw [prL_back l lv obj ns.tail w (ns0++ns.take 1) (vs0++[v]) n hne hr.2 (tail_all hv) (fun ho=>by have:=h6 ho; rw [List.length_tail,this,List.length_cons]; omega) (fun ho=>by rw [h5 ho]; rfl) hw (by simp only [List.length_append,List.length_cons] at hn ⊢; omega)]
      rw [List.append_assoc,hns,List.append_assoc]; rfl
end
theorem parP_back {v:JV} (h:rtP 24 v=true) (hl:(prP v).length≤65536):parP (prP v)=.ok v:=by
  have:=pr_back v 24 [] h (.inl rfl)
  rw [List.append_nil] at this
  unfold parP
  rw [if_neg (by omega),this]
  dsimp only
  rw [if_pos (show blk []=[] from rfl)]
end Go.Json
namespace Go.Json
open Go.Lib Go.Esc
mutual
theorem rt_dp:∀ (v:JV) (lv m:Nat),rtP lv v=true→dpP v≤m→rtP m v=true
  | .mk k t ns l,lv,m,h,hd=>by
    unfold rtP at h ⊢
    split at h
    · cases h
    rename_i h0
    rw [if_neg h0]
    split at h
    · cases h
    rename_i h1
    rw [if_neg h1]
    by_cases c3:k=3
    · rw [if_pos c3] at h ⊢; exact h
    rw [if_neg c3] at h ⊢
    by_cases c4:k=4
    · rw [if_pos c4] at h ⊢; exact h
    rw [if_neg c4] at h ⊢
    split at h
    · cases h
    rename_i h2
    rw [Bool.and_eq_true] at h
    by_cases c5:k=5∨k=6
    · rw [dpP,if_pos c5] at hd
      rw [if_neg (by rintro (h3 | h3)
                     · exact h2 (.inl h3)
                     · omega),Bool.and_eq_true]
      exact ⟨h.1,rtL_dp l (lv - 1) (m - 1) h.2 (by omega)⟩
    · have hl:l=[]:=by
        by_cases hl:l=[]
        · exact hl
        · exact absurd (.inl ⟨by omega,hl⟩) h1
      rw [if_neg (by rintro (h3 | h3)
                     · exact h2 (.inl h3)
                     · omega),Bool.and_eq_true,hl]
      exact ⟨h.1,by unfold rtL; rfl⟩
theorem rtL_dp:∀ (l:List JV) (lv m:Nat),rtL lv l=true→dpL l≤m→rtL m l=true
  | [],_,_,_,_=>by unfold rtL; rfl
  | v::l,lv,m,h,hd=>by
    unfold rtL at h ⊢
    rw [Bool.and_eq_true] at h ⊢
    rw [dpL] at hd
    exact ⟨rt_dp v lv m h.1 (by omega),rtL_dp l lv m h.2 (by omega)⟩
end
theorem rtL_iff (lv:Nat):∀ l:List JV,rtL lv l=true ↔ ∀ v∈l,rtP lv v=true
  | []=>by unfold rtL; simp
  | v::l=>by
    unfold rtL
    rw [Bool.and_eq_true,rtL_iff lv l]
    constructor
    · rintro ⟨h1,h2⟩ x hx
      rcases List.mem_cons.1 hx with hx | hx
      · rw [hx]; exact h1
      · exact h2 x hx
    · intro h
      exact ⟨h v List.mem_cons_self,fun x hx=>h x (List.mem_cons_of_mem _ hx)⟩
theorem rt_list {l:List JV} (h:∀ v∈l,rtP 24 v=true∧dpP v<24):rtP 24 (.mk 5 [] [] l)=true:=by
  unfold rtP
  have h1:¬ ((5:Int)<5∧l≠[]∨(5:Int)≠6∧([]:List (List UInt8))≠[]∨(5:Int)=6∧([]:List (List UInt8)).length≠l.length):=by
    rintro (h | h | h)
    · exact absurd h.1 (by decide)
    · exact h.2 rfl
    · exact absurd h.1 (by decide)
  have h2:¬ (([]:List UInt8)≠[]∨(5:Int)≤5∧(24:Nat)=0):=by
    rintro (h | h)
    · exact h rfl
    · exact absurd h.2 (by decide)
  rw [if_neg (by decide),if_neg h1,if_neg (by decide),if_neg (by decide),if_neg h2,Bool.and_eq_true]
  exact ⟨rfl,(rtL_iff _ _).2 fun v hv=>rt_dp v 24 23 (h v hv).1 (by have:=(h v hv).2; omega)⟩
theorem prP_list (l:List JV):prP (.mk 5 [] [] l)=91::(prL false true [] l++[93]):=prP_many (.inl rfl)
theorem prL_snoc:∀ (l:List JV) (v:JV) (fst:Bool),prL false fst [] (l++[v])=prL false fst [] l++((if fst=true∧l=[] then [] else [44])++prP v)
  | [],v,fst=>by
    rw [List.nil_append,K2,K8,K8]
    cases fst <;> simp
  | x::l,v,fst=>by
    rw [List.cons_append,K2,K2,List.tail_nil,prL_snoc l v false]
    simp
def getM (name:List UInt8):List (List UInt8)→List JV→Option JV
  | n::ns,v::l=>match getM name ns l with
    | some x=>some x
    | none=>if n=name then some v else none
  | _,_=>none
theorem getM_snoc (name n:List UInt8) (v:JV):∀ (ns:List (List UInt8)) (l:List JV),ns.length=l.length→getM name (ns++[n]) (l++[v])=if n=name then some v else getM name ns l
  | [],[],_=>by simp [getM]
  | [],_::_,h=>by simp at h
  | _::_,[],h=>by simp at h
  | m::ns,x::l,h=>by
    simp only [List.length_cons,Nat.add_right_cancel_iff] at h
    rw [List.cons_append,List.cons_append,getM,getM_snoc name n v ns l h,getM]
    by_cases hn:n=name
    · rw [if_pos hn,if_pos hn]
    · rw [if_neg hn,if_neg hn]
theorem getM_take (name:List UInt8):∀ (ns:List (List UInt8)) (l:List JV),getM name ns l=getM name (ns.take (min ns.length l.length)) (l.take (min ns.length l.length))
  | [],_=>by simp [getM]
  | _::_,[]=>by simp [getM]
  | n::ns,v::l=>by
    have e:min (n::ns).length (v::l).length=min ns.length l.length+1:=by rw [List.length_cons,List.length_cons]; omega
    rw [e,List.take_succ_cons,List.take_succ_cons,getM,getM,← getM_take name ns l]
theorem P5 (name:List UInt8) {ns:List (List UInt8)} {l:List JV} {k:Nat} (hk:k<ns.length) (hl:k<l.length):getM name (ns.take (k+1)) (l.take (k+1))=if ns[k]=name then some l[k] else getM name (ns.take k) (l.take k):=by
  rw [List.take_succ_eq_append_getElem hk,List.take_succ_eq_append_getElem hl]
  exact getM_snoc name _ _ _ _ (by rw [List.length_take,List.length_take]; omega)
def getP (v:JV) (name:List UInt8):Option JV:=if v.kind=6 then getM name v.names v.list else none
end Go.Json
namespace Go.Json
open Go.Lib Go.Esc
theorem dpL_nil:dpL []=0:=by unfold dpL; rfl
theorem dpL_snoc:∀ (l:List JV) (v:JV),dpL (l++[v])=max (dpL l) (dpP v)
  | [],v=>by
    have h:dpL [v]=max (dpP v) 0:=by simp only [dpL]
    rw [List.nil_append,dpL_nil,h]; omega
  | x::l,v=>by rw [List.cons_append,dpL,dpL,dpL_snoc l v]; omega
theorem dpP_atom {k:Int} {t:List UInt8} {ns:List (List UInt8)} {l:List JV} (h:¬ (k=5∨k=6)):dpP (.mk k t ns l)=0:=by rw [dpP,if_neg h]
theorem dpP_many {k:Int} {t:List UInt8} {ns:List (List UInt8)} {l:List JV} (h:k=5∨k=6):dpP (.mk k t ns l)=dpL l+1:=by rw [dpP,if_pos h]
end Go.Json
namespace Go.Json
open Go.Lib Go.Esc
mutual
/-- how many values there are, it and its parts -/
def szJ:JV→Nat
  | .mk _ _ _ l=>szL l+1
def szL:List JV→Nat
  | []=>0
  | v::l=>szJ v+szL l
end
theorem szJ_eq (k:Int) (t:List UInt8) (ns:List (List UInt8)) (l:List JV):szJ (.mk k t ns l)=szL l+1:=by simp only [szJ]
theorem sz_at:∀ {l:List JV} {i:Nat} (h:i<l.length),szJ l[i]≤szL l
  | [],_,h=>absurd h (Nat.not_lt_zero _)
  | v::l,0,_=>by simp only [szL]; exact Nat.le_add_right _ _
  | v::l,i+1,h=>by
    have:=sz_at (l:=l) (i:=i) (by simpa using h)
    simp only [szL,List.getElem_cons_succ]; omega
theorem szJ_pos (v:JV):0<szJ v:=by cases v; rw [szJ_eq]; omega
theorem dpL_take {l:List JV} {k:Nat} (h:k<l.length):dpL (l.take (k+1))=max (dpL (l.take k)) (dpP l[k]):=by
  rw [List.take_succ_eq_append_getElem h,dpL_snoc]
theorem rtL_no {lv:Nat} {l:List JV} {i:Nat} (h:i<l.length) (hn:rtP lv l[i]=false):rtL lv l=false:=by
  cases hr:rtL lv l with
  | false=>rfl
  | true =>
    have:=(rtL_iff lv l).1 hr l[i] (List.getElem_mem h)
    rw [hn] at this; cases this
theorem rtL_take {lv:Nat} {l:List JV} {k:Nat} (h:k<l.length) (hk:rtL lv (l.take k)=true) (hn:rtP lv l[k]=true):rtL lv (l.take (k+1))=true:=by
  rw [rtL_iff] at hk ⊢
  intro v hv
  rw [List.take_succ_eq_append_getElem h] at hv
  rcases List.mem_append.1 hv with hv | hv
  · exact hk v hv
  · rw [List.mem_singleton.1 hv]; exact hn
theorem prL_snocO:∀ (ns:List (List UInt8)) (l:List JV) (n:List UInt8) (v:JV) (fst:Bool),ns.length=l.length→prL true fst (ns++[n]) (l++[v])=prL true fst ns l++((if fst=true∧l=[] then [] else [44])++((G6 n++[58])++prP v))
  | [],[],n,v,fst,_=>by
    rw [List.nil_append,List.nil_append,K2,K8,K8]
    cases fst <;> simp
  | [],_::_,_,_,_,h=>by simp at h
  | _::_,[],_,_,_,h=>by simp at h
  | m::ns,x::l,n,v,fst,h=>by
    have h2:ns.length=l.length:=by simpa using h
    rw [List.cons_append,List.cons_append,K2,K2,List.tail_cons,List.tail_cons,prL_snocO ns l n v false h2]
    simp
theorem prL_any (fst:Bool):∀ (ns:List (List UInt8)) (l:List JV),prL false fst ns l=prL false fst [] l
  | _,[]=>by rw [K8,K8]
  | ns,v::l=>by rw [K2,K2,prL_any false ns.tail l,prL_any false [].tail l]; rfl
theorem prL_step (obj:Bool) {ns:List (List UInt8)} {l:List JV} {k:Nat} (hl:k<l.length) (hn:obj=true→ns.length=l.length) :
    prL obj true (ns.take (k+1)) (l.take (k+1))=prL obj true (ns.take k) (l.take k)++((if k=0 then [] else [44])++((if obj then G6 (ns.getD k [])++[58] else [])++prP l[k])):=by
  have hk:(l.take k=[]) ↔ k=0:=by
    constructor
    · intro h
      have:=congrArg List.length h
      rw [List.length_take,List.length_nil] at this; omega
    · rintro rfl; rfl
  cases obj with
  | false =>
    rw [prL_any,prL_any true (ns.take k),List.take_succ_eq_append_getElem hl,prL_snoc]
    simp [hk]
  | true =>
    have hkn:k<ns.length:=by rw [hn rfl]; exact hl
    rw [List.take_succ_eq_append_getElem hl,List.take_succ_eq_append_getElem hkn,prL_snocO _ _ _ _ _ (by rw [List.length_take,List.length_take,hn rfl])]
    simp [hk,List.getElem?_eq_getElem hkn]
end Go.Json
namespace Go.Json
open Go.Lib Go.Esc
def wtN:List (List UInt8)→Nat
  | []=>0
  | x::r=>x.length+1+wtN r
mutual
/-- all that a value has -/
def wtJ:JV→Nat
  | .mk _ t ns l=>1+t.length+wtN ns+wtL l
def wtL:List JV→Nat
  | []=>0
  | v::l=>wtJ v+wtL l
end
theorem wtJ_eq (k:Int) (t:List UInt8) (ns:List (List UInt8)) (l:List JV):wtJ (.mk k t ns l)=1+t.length+wtN ns+wtL l:=by simp only [wtJ]
theorem K0 (v:JV) (l:List JV):wtL (v::l)=wtJ v+wtL l:=by simp only [wtL]
theorem wtL_nil:wtL []=0:=by simp only [wtL]
theorem wtN_at:∀ {ns:List (List UInt8)} {i:Nat} (h:i<ns.length),ns[i].length+1≤wtN ns
  | [],_,h=>absurd h (Nat.not_lt_zero _)
  | x::r,0,_=>by show x.length+1≤x.length+1+wtN r; omega
  | x::r,i+1,h=>by
    have hi:i<r.length:=by simpa using h
    have:=wtN_at hi
    show r[i].length+1≤x.length+1+wtN r; omega
theorem wtL_at:∀ {l:List JV} {i:Nat} (h:i<l.length),wtJ l[i]≤wtL l
  | [],_,h=>absurd h (Nat.not_lt_zero _)
  | v::l,0,_=>by rw [K0]; show wtJ v≤_; omega
  | v::l,i+1,h=>by
    have hi:i<l.length:=by simpa using h
    have:=wtL_at hi
    rw [K0]; show wtJ l[i]≤_; omega
theorem wtN_len:∀ l:List (List UInt8),l.length≤wtN l
  | []=>Nat.zero_le _
  | v::l=>by have:=wtN_len l; show l.length+1≤v.length+1+wtN l; omega
def szN:List (List UInt8)→Int→Option Int
  | [],n=>some n
  | x::r,n=>if 100000<n∨100000<(x.length:Int) then none else szN r (n+((x.length:Int)+1))
def szF (f:JV→Int):List JV→Int→Option Int
  | [],n=>some n
  | v::r,n=>if 100000<n then none else szF f r (n+f v)
def szP:Nat→JV→Int
  | 0,_=>100001
  | d+1,.mk _ t ns l=>if 100000<t.length∨100000<ns.length∨100000<l.length then 100001 else
    match szN ns (1+(t.length:Int)) with
    | none=>100001
    | some n=>(szF (szP d) l n).getD 100001
theorem szN_step {ns:List (List UInt8)} {k:Nat} {n:Int} (hk:k<ns.length):szN (ns.drop k) n=if 100000<n∨100000<(ns[k].length:Int) then none else szN (ns.drop (k+1)) (n+((ns[k].length:Int)+1)):=by
  rw [List.drop_eq_getElem_cons hk]; rfl
theorem szF_step {f:JV→Int} {l:List JV} {k:Nat} {n:Int} (hk:k<l.length):szF f (l.drop k) n=if 100000<n then none else szF f (l.drop (k+1)) (n+f l[k]):=by
  rw [List.drop_eq_getElem_cons hk]; rfl
theorem szN_rng:∀ {ns:List (List UInt8)} {n m:Int},0≤n→n≤200001→szN ns n=some m→0≤m∧m≤200001
  | [],n,m,h0,h1,h=>by injection h with h; subst h; exact ⟨h0,h1⟩
  | x::r,n,m,h0,h1,h=>by
    unfold szN at h
    split at h
    · cases h
    · exact szN_rng (ns:=r) (by omega) (by omega) h
theorem szF_rng {f:JV→Int} {B:Int} (hf:∀ v,0≤f v∧f v≤B):∀ {l:List JV} {n m:Int},0≤n→n≤200001+B→szF f l n=some m→0≤m∧m≤200001+B
  | [],n,m,h0,h1,h=>by injection h with h; subst h; exact ⟨h0,h1⟩
  | v::r,n,m,h0,h1,h=>by
    unfold szF at h
    have:=hf v
    split at h
    · cases h
    · exact szF_rng hf (l:=r) (by omega) (by omega) h
theorem szP_rng:∀ (d:Nat) (v:JV),0≤szP d v∧szP d v≤200001 * ((d:Int)+1)
  | 0,_=>by unfold szP; constructor <;> omega
  | d+1,.mk _ t ns l=>by
    have ih:=szP_rng d
    unfold szP
    split
    · constructor <;> omega
    · cases hn:szN ns (1+(t.length:Int)) with
      | none=>dsimp only; constructor <;> omega
      | some n =>
        have h1:=szN_rng (by omega) (by omega) hn
        dsimp only
        cases hl:szF (szP d) l n with
        | none=>show 0≤(100001:Int)∧_; constructor; omega; show (100001:Int)≤_; omega
        | some m =>
          have h2:=szF_rng ih (by omega) (by have:=ih nul; omega) hl
          show 0≤m∧m≤_
          constructor <;> omega
theorem szN_wt:∀ {ns:List (List UInt8)} {n m:Int},szN ns n=some m→m=n+wtN ns
  | [],n,m,h=>by injection h with h; subst h; show n=n+((0:Nat):Int); omega
  | x::r,n,m,h=>by
    unfold szN at h
    split at h
    · cases h
    · have:=szN_wt (ns:=r) h
      show m=n+((x.length+1+wtN r:Nat):Int); omega
theorem szF_wt {f:JV→Int} (h0:∀ v,0≤f v) (hf:∀ v,f v≤100000→f v=wtJ v):∀ {l:List JV} {n m:Int},0≤n→szF f l n=some m→m≤100000→m=n+wtL l
  | [],n,m,_,h,_=>by injection h with h; subst h; rw [wtL_nil]; omega
  | v::r,n,m,hn,h,hm=>by
    unfold szF at h
    split at h
    · cases h
    · have h1:=h0 v
      have h2:=szF_wt h0 hf (l:=r) (by omega) h hm
      have h3:=hf v (by omega)
      rw [K0]; omega
theorem szP_wt:∀ (d:Nat) (v:JV),szP d v≤100000→szP d v=wtJ v
  | 0,_,h=>by unfold szP at h; omega
  | d+1,.mk k t ns l,h=>by
    unfold szP at h ⊢
    split at h
    · omega
    rename_i hc
    rw [if_neg hc]
    cases hn:szN ns (1+(t.length:Int)) with
    | none=>rw [hn] at h; dsimp only at h; omega
    | some n =>
      rw [hn] at h
      dsimp only at h ⊢
      have h1:=szN_wt hn
      cases hl:szF (szP d) l n with
      | none=>rw [hl] at h; exact absurd h (by show ¬ (100001:Int)≤100000; omega)
      | some m =>
        rw [hl] at h
        have h2:=szF_wt (fun v=>(szP_rng d v).1) (szP_wt d) (by omega) hl h
        show m=_
        rw [wtJ_eq]; omega
end Go.Json
namespace Go.Json
open Go.Lib Go.Esc
mutual
def cnJ:JV→Nat
  | .mk _ _ ns l=>1+ns.length+cnL l
def cnL:List JV→Nat
  | []=>0
  | v::l=>cnJ v+cnL l
end
theorem cnJ_eq (k:Int) (t:List UInt8) (ns:List (List UInt8)) (l:List JV):cnJ (.mk k t ns l)=1+ns.length+cnL l:=by simp only [cnJ]
theorem cnJ_pr (x:JV):cnJ x=1+x.names.length+cnL x.list:=by cases x; exact cnJ_eq _ _ _ _
theorem cnL_cons (v:JV) (l:List JV):cnL (v::l)=cnJ v+cnL l:=by simp only [cnL]
theorem cnL_nil:cnL []=0:=by simp only [cnL]
theorem cnJ_pos (v:JV):0<cnJ v:=by rw [cnJ_pr]; omega
theorem cnL_len:∀ l:List JV,l.length≤cnL l
  | []=>Nat.zero_le _
  | v::l=>by have:=cnL_len l; have:=cnJ_pos v; rw [cnL_cons,List.length_cons]; omega
theorem cnL_at:∀ {l:List JV} {i:Nat} (h:i<l.length),cnJ l[i]≤cnL l
  | [],_,h=>absurd h (Nat.not_lt_zero _)
  | v::l,0,_=>by rw [cnL_cons]; show cnJ v≤_; omega
  | v::l,i+1,h=>by
    have hi:i<l.length:=by simpa using h
    have:=cnL_at hi
    rw [cnL_cons]; show cnJ l[i]≤_; omega
theorem cn_sub {x:JV} {i:Nat} (h:i<x.list.length):cnJ x.list[i]<cnJ x:=by
  have:=cnL_at h
  rw [cnJ_pr x]; omega
theorem H8 (x:JV):x.names.length+x.list.length<cnJ x:=by
  have:=cnL_len x.list
  rw [cnJ_pr]; omega
mutual
theorem K9:∀ v:JV,cnJ v≤wtJ v
  | .mk k t ns l=>by
    have h1:=cnL_wt l
    have h2:=wtN_len ns
    rw [wtJ_eq,cnJ_eq]; omega
theorem cnL_wt:∀ l:List JV,cnL l≤wtL l
  | []=>by rw [cnL_nil]; exact Nat.zero_le _
  | v::l=>by
    have h1:=K9 v
    have h2:=cnL_wt l
    rw [cnL_cons,K0]; omega
end
mutual
theorem dp_cn:∀ v:JV,dpP v≤cnJ v
  | .mk k t ns l=>by
    have:=dpL_cn l
    rw [cnJ_eq,dpP]
    split <;> omega
theorem dpL_cn:∀ l:List JV,dpL l≤cnL l
  | []=>by rw [dpL_nil]; exact Nat.zero_le _
  | v::l=>by
    have h1:=dp_cn v
    have h2:=dpL_cn l
    have e:dpL (v::l)=max (dpP v) (dpL l):=by simp only [dpL]
    rw [e,cnL_cons]; omega
end
theorem cn_atom (k:Int) (t:List UInt8):cnJ (.mk k t [] [])=1:=by rw [cnJ_eq,cnL_nil]; rfl
end Go.Json
namespace Go.Json
open Go.Lib Go.Esc Go.Sw
abbrev jvC (x:JV) (an:Option Addr) (cn:Nat) (al:Option Addr) (cl:Nat):List Value:=[.int .i64 x.kind,.string (bk x.text),.slice an x.names.length cn,.slice al x.list.length cl]
theorem JRdL.get {S:Nat→Obj→Prop} {l:List JV} {cs:List Value} {k:Nat} (h:k<l.length) (hc:JRdL S l cs):∃ (x:JV) (an:Option Addr) (cn:Nat) (al:Option Addr) (cl:Nat) (cs2:List Value),x=l[k]∧(cs.drop (k * 4)).take 4=jvC x an cn al cl∧Rd S an (E7 x.names)∧Rd S al cs2∧JRdL S x.list cs2:=by
  obtain ⟨an,al,cn,cl,cs2,h1,h2,h3,h4⟩:=(JRdL.at h hc).shape
  exact ⟨l[k],an,cn,al,cl,cs2,rfl,h1,h2,h3,h4⟩
theorem elt4 {cs l:List Value} {q:Nat} (h:(cs.drop q).take 4=l):∀ m (hm:m<l.length),cs[q+m]? = some l[m]:=by
  intro m hm
  subst h
  have h4:m<4:=by rw [List.length_take] at hm; omega
  rw [← List.getElem?_eq_getElem hm,List.getElem?_take_of_lt h4,List.getElem?_drop]
theorem szJ_lt {x:JV} {i:Nat} (h:i<x.list.length):szJ x.list[i]<szJ x:=by
  cases x with
  | mk k t ns l=>rw [szJ_eq]; exact Nat.lt_succ_of_le (sz_at h)
theorem dp_no {x:JV} (h:x.kind≠5∧x.kind≠6):dpP x=0:=by
  cases x with
  | mk k t ns l=>exact dpP_atom (by rintro (h1 | h1); exact h.1 h1; exact h.2 h1)
theorem dp_yes {x:JV} (h:x.kind=5∨x.kind=6):dpP x=dpL x.list+1:=by
  cases x with
  | mk k t ns l=>exact dpP_many h
theorem rt_A {lv:Nat} {x:JV} (h:(x.kind<0∨6<x.kind)∨(x.kind≠5∧x.kind≠6∧0<x.list.length)∨(x.kind≠6∧0<x.names.length)):rtP lv x=false:=by
  cases x with
  | mk k t ns l =>
    change (k<0∨6<k)∨(k≠5∧k≠6∧0<l.length)∨(k≠6∧0<ns.length) at h
    unfold rtP
    by_cases h1:k<0∨6<k
    · rw [if_pos h1]
    · rw [if_neg h1,if_pos]
      rcases h with h | ⟨h2,h3,h4⟩ | ⟨h2,h3⟩
      · exact absurd h h1
      · exact .inl ⟨by omega,fun hn=>by rw [hn] at h4; exact absurd h4 (Nat.lt_irrefl 0)⟩
      · exact .inr (.inl ⟨h2,fun hn=>by rw [hn] at h3; exact absurd h3 (Nat.lt_irrefl 0)⟩)
structure RtB (x:JV):Prop where
  rng:0≤x.kind∧x.kind≤6
  list:x.kind≠5→x.kind≠6→x.list=[]
  names:x.kind≠6→x.names=[]
theorem rt_B {x:JV} (h1:¬ (x.kind<0∨6<x.kind)) (h2:¬ (x.kind≠5∧x.kind≠6∧0<x.list.length)) (h3:¬ (x.kind≠6∧0<x.names.length)):RtB x :=
  ⟨by omega,fun a b=>List.eq_nil_of_length_eq_zero (by rcases Nat.eq_zero_or_pos x.list.length with h | h; exact h; exact absurd ⟨a,b,h⟩ h2),fun a=>List.eq_nil_of_length_eq_zero (by rcases Nat.eq_zero_or_pos x.names.length with h | h; exact h; exact absurd ⟨a,h⟩ h3)⟩
theorem rt_step {lv:Nat} {x:JV} (hB:RtB x):rtP lv x=if x.kind=6∧x.names.length≠x.list.length then false else if x.kind=3 then decide (x.text≠[]∧F8 x.text=x.text.length) else if x.kind=4 then D2 x.text else if x.text≠[]∨5≤x.kind∧lv=0 then false else x.names.all D2&&rtL (lv - 1) x.list:=by
  cases x with
  | mk k t ns l =>
    obtain ⟨⟨h0,h1⟩,h2,h3⟩:=hB
    change 0≤k at h0; change k≤6 at h1; change k≠5→k≠6→l=[] at h2; change k≠6→ns=[] at h3
    show rtP lv (.mk k t ns l)=if k=6∧ns.length≠l.length then false else if k=3 then decide (t≠[]∧F8 t=t.length) else if k=4 then D2 t else if t≠[]∨5≤k∧lv=0 then false else ns.all D2&&rtL (lv - 1) l
    conv=>lhs; unfold rtP
    rw [if_neg (by omega)]
    by_cases h4:k=6∧ns.length≠l.length
    · rw [if_pos (.inr (.inr h4)),if_pos h4]
    · rw [if_neg,if_neg h4]
      rintro (⟨a,b⟩ | ⟨a,b⟩ | a)
      · exact b (h2 (by omega) (by omega))
      · exact b (h3 a)
      · exact h4 a
theorem rt_C {lv:Nat} {x:JV} (hB:RtB x) (h:(x.kind=6∧x.names.length≠x.list.length)∨((x.kind=5∨x.kind=6)∧lv=0)):rtP lv x=false:=by
  rw [rt_step hB]
  by_cases h1:x.kind=6∧x.names.length≠x.list.length
  · rw [if_pos h1]
  · rcases h with h | ⟨h,h0⟩
    · exact absurd h h1
    · rw [if_neg h1,if_neg (by omega),if_neg (by omega),if_pos (.inr ⟨by omega,h0⟩)]
theorem O1 {lv:Nat} {x:JV} (hB:RtB x) (h:x.kind=3):rtP lv x=decide (x.text≠[]∧F8 x.text=x.text.length):=by
  rw [rt_step hB,if_neg (by omega),if_pos h]
theorem K7 {lv:Nat} {x:JV} (hB:RtB x) (h:x.kind=4):rtP lv x=D2 x.text:=by
  rw [rt_step hB,if_neg (by omega),if_neg (by omega),if_pos h]
theorem rt_bad {lv:Nat} {x:JV} (hB:RtB x) (h6:¬ (x.kind=6∧x.names.length≠x.list.length)) (h3:x.kind≠3) (h4:x.kind≠4) (h:x.text≠[]∨x.names.all D2=false):rtP lv x=false:=by
  rw [rt_step hB,if_neg h6,if_neg h3,if_neg h4]
  split
  · rfl
  · rename_i hn
    rcases h with h | h
    · exact absurd (.inl h) hn
    · rw [h]; rfl
theorem rt_many {lv:Nat} {x:JV} (hB:RtB x) (h6:¬ (x.kind=6∧x.names.length≠x.list.length)) (h3:x.kind≠3) (h4:x.kind≠4) (h5:¬ ((x.kind=5∨x.kind=6)∧lv=0)) (ht:x.text=[]) (hn:x.names.all D2=true):rtP lv x=rtL (lv - 1) x.list:=by
  rw [rt_step hB,if_neg h6,if_neg h3,if_neg h4,if_neg,hn]
  · rfl
  · rintro (h | ⟨h,h0⟩)
    · exact h ht
    · exact h5 ⟨by have:=hB.rng; omega,h0⟩
theorem all_no {ns:List (List UInt8)} {i:Nat} (h:i<ns.length) (hv:D2 ns[i]=false):ns.all D2=false:=by
  rw [List.all_eq_false]; exact ⟨_,List.getElem_mem h,by rw [hv]; decide⟩
theorem all_take {ns:List (List UInt8)} {k:Nat} (h:k<ns.length) (hk:(ns.take k).all D2=true) (hv:D2 ns[k]=true):(ns.take (k+1)).all D2=true:=by
  rw [List.take_succ_eq_append_getElem h,List.all_append,hk]; simp [hv]
end Go.Json
namespace Go.Proofs.YtppgfiklmfoaeaaGreatDoor
open Go Go.ChangeShapes Go.WideShapes Go.ChangeAt Go.RowKit Go.Sw Go.Sha Go.Esc Go.Json
theorem cells_strT:Tryz.prog.cellsOf 9=1:=by kernel_rfl
theorem cells_jsT:Tryz.prog.cellsOf 28=4:=by kernel_rfl
theorem cells_kdT:Tryz.prog.cellsOf 24=1:=by kernel_rfl
theorem cells_nsT:Tryz.prog.cellsOf 25=1:=by kernel_rfl
theorem cells_lsT:Tryz.prog.cellsOf 26=1:=by kernel_rfl
theorem add_addN (a:Addr) (i j:Nat) (h:i≤j):(a.add i).add (j - i)=a.add j:=by
  unfold Addr.add
  by_cases hm0:i=0
  · simp [hm0]
  · by_cases hj0:j - i=0
    · have:j=i:=by omega
      simp [this]
    · have:j≠0:=by omega
      simp [hm0,hj0,this]
      omega
theorem row_flat_len {α:Type} {f:α→List Value} {sz:Nat} (hf:∀ o,(f o).length=sz):∀ l:List α,(l.flatMap f).length=l.length * sz
  | []=>by simp
  | o::l=>by rw [List.flatMap_cons,List.length_append,hf,row_flat_len hf l,List.length_cons,Nat.add_mul,Nat.one_mul,Nat.add_comm]
set_option maxRecDepth 100000 in
/-- a slice whose elements are known -/
theorem slice_core {α H:Type} {enc:TypeId × Value→H} {W:World} {ts te:TypeId} {sz:Nat} (ht:Tryz.prog.underlying ts=some (.slice te)) (hc:Tryz.prog.cellsOf te=sz) (f:α→List Value) (Q:α→Prop) (hf:∀ o,(f o).length=sz) {fuel:Nat} {cs:List Value} {x:DataW H × List MemPlace}
    (each:∀ (n:Nat) (c:List Value) (y:DataW H × List MemPlace),n<fuel→DataW.trod enc Tryz.prog W 0 (fun _=>true) true n te c=some y→∃ o,c=f o∧Q o) (h:DataW.trod enc Tryz.prog W 0 (fun _=>true) true fuel ts cs=some x) :
    ∃ (a:Option Addr) (c:Nat) (l:List α),cs=[.slice a l.length c]∧Rd (SW W) a (l.flatMap f)∧l.length≤c∧∀ o∈l,Q o:=by
  rcases DataW.trod_slice ht h with ⟨hcs,_⟩ | ⟨a,len,cap,elems,rest,n,rfl,hcs,_,_,hl,hm,hlen,hel,_,_⟩
  · exact ⟨none,0,[],hcs,.inl rfl,Nat.le_refl _,fun _ h=>absurd h List.not_mem_nil⟩
  · rw [hc] at hel
    have one:∀ i,i<len→∃ o:α,Q o∧∀ j,j<sz→W.cell? ((a.add (i * sz)).add j)=(f o)[j]? := by
      intro i hi
      have h:=hel i hi
      rw [List.getElem?_eq_getElem (by omega)] at h
      obtain ⟨c,hc',ht'⟩:=Option.bind_eq_some_iff.1 h
      obtain ⟨o,rfl,ho⟩:=each n c _ (Nat.lt_succ_self n) ht'
      exact ⟨o,ho,(World.cells?_some hc').2.2⟩
    have build:∀ m,m≤len→∃ l:List α,l.length=m∧(∀ o∈l,Q o)∧∀ j u,(l.flatMap f)[j]? = some u→W.cell? (a.add j)=some u:=by
      intro m
      induction m with
      | zero=>intro _; exact ⟨[],rfl,fun _ h=>absurd h List.not_mem_nil,fun j u h=>by simp at h⟩
      | succ m ih =>
        intro hm1
        obtain ⟨l,h1,h2,h3⟩:=ih (by omega)
        obtain ⟨o,ho,hc⟩:=one m (by omega)
        have hll:(l.flatMap f).length=m * sz:=by rw [row_flat_len hf,h1]
        refine ⟨l++[o],by simp [h1],fun x hx=>?_,fun j u hu=>?_⟩
        · rcases List.mem_append.1 hx with hx | hx
          · exact h2 x hx
          · rw [List.mem_singleton.1 hx]; exact ho
        · rw [List.flatMap_append] at hu
          rcases Nat.lt_or_ge j (m * sz) with hlt | hge
          · rw [List.getElem?_append_left (by omega)] at hu
            exact h3 j u hu
          · rw [List.getElem?_append_right (by omega),hll] at hu
            simp only [List.flatMap_cons,List.flatMap_nil,List.append_nil] at hu
            have hj:j - m * sz<sz:=by
              rcases Nat.lt_or_ge (j - m * sz) sz with h | h
              · exact h
              · rw [List.getElem?_eq_none (by rw [hf]; exact h)] at hu; cases hu
            have h4:=hc (j - m * sz) hj
            rw [hu,add_addN a (m * sz) j hge] at h4
            exact h4
    obtain ⟨l,h1,h2,h3⟩:=build len (Nat.le_refl _)
    refine ⟨some a,cap,l,by rw [h1]; exact hcs,?_,by omega,h2⟩
    by_cases h0:l.flatMap f=[]
    · rw [h0]; exact .inl rfl
    · exact (rd_cells h0 h3).2
structure JC where
  x:JV
  an:Option Addr
  cn:Nat
  al:Option Addr
  cl:Nat
def JC.c (o:JC):List Value:=jvC o.x o.an o.cn o.al o.cl
theorem JC.len (o:JC):o.c.length=4:=rfl
def JC.ok (W:World) (o:JC):Prop:=JRd (SW W) o.x o.c∧o.x.list.length≤o.cl
theorem jrdL_of {W:World}:∀ l:List JC,(∀ o∈l,o.ok W)→JRdL (SW W) (l.map (·.x)) (l.flatMap JC.c)
  | [],_=>.nil
  | o::l,h=>by
    rw [List.map_cons,List.flatMap_cons]
    exact .cons (h o List.mem_cons_self).1 (jrdL_of l fun q hq=>h q (List.mem_cons_of_mem _ hq))
theorem strV_flat (l:List (List UInt8)):l.flatMap (fun n=>[Value.string (bk n)])=E7 l:=by
  induction l with
  | nil=>rfl
  | cons n l ih=>rw [List.flatMap_cons,ih]; rfl
set_option maxRecDepth 100000 in
theorem json_core {H:Type} {enc:TypeId × Value→H} {W:World}:∀ (fuel:Nat) (cs:List Value) (x:DataW H × List MemPlace),DataW.trod enc Tryz.prog W 0 (fun _=>true) true fuel 28 cs=some x→∃ o:JC,cs=o.c∧o.ok W:=by
  intro fuel
  induction fuel using Nat.strongRecOn with
  | _ fuel ih =>
    intro cs x hf
    obtain ⟨xs,n,hfu,rfl,hl,hx,hs⟩:=DataW.trod_struct Tryz.underlying28 hf
    have hl4:cs.length=4:=by rw [hl]; kernel_rfl
    obtain ⟨c0,c1,c2,c3,rfl⟩:∃ c0 c1 c2 c3,cs=[c0,c1,c2,c3]:=by
      match cs,hl4 with
      | [c0,c1,c2,c3],_=>exact ⟨c0,c1,c2,c3,rfl⟩
    have h0:DataW.trod enc Tryz.prog W 0 (fun _=>true) true n 24 ((List.drop 0 [c0,c1,c2,c3]).take (Tryz.prog.cellsOf 24))=xs[0]? := hs 0 _ rfl
    rw [cells_kdT] at h0
    have h1:DataW.trod enc Tryz.prog W 0 (fun _=>true) true n 9 ((List.drop 1 [c0,c1,c2,c3]).take (Tryz.prog.cellsOf 9))=xs[1]? := hs 1 _ rfl
    rw [cells_strT] at h1
    have h2:DataW.trod enc Tryz.prog W 0 (fun _=>true) true n 25 ((List.drop 2 [c0,c1,c2,c3]).take (Tryz.prog.cellsOf 25))=xs[2]? := hs 2 _ rfl
    rw [cells_nsT] at h2
    have h3:DataW.trod enc Tryz.prog W 0 (fun _=>true) true n 26 ((List.drop 3 [c0,c1,c2,c3]).take (Tryz.prog.cellsOf 26))=xs[3]? := hs 3 _ rfl
    rw [cells_lsT] at h3
    have hx4:xs.length=4:=by rw [hx]; rfl
    rw [List.getElem?_eq_getElem (by omega)] at h0 h1 h2 h3
    simp only [List.drop_succ_cons,List.drop_zero,List.take_succ_cons,List.take_zero] at h0 h1 h2 h3
    obtain ⟨kd,e0,_,w0⟩:=DataW.trod_int Tryz.underlying24 h0
    obtain ⟨tx,e1,_,w1⟩:=DataW.trod_string Tryz.underlying9 h1
    obtain ⟨an,cn,ns,e2,hn1,hn2,_⟩:=slice_core (α:=List UInt8) Tryz.underlying25 cells_strT (fun n=>[Value.string (bk n)]) (fun _=>True) (fun _=>rfl) (fun m c y _ hm=>by
      obtain ⟨t,et,_,_⟩:=DataW.trod_string Tryz.underlying9 hm
      exact ⟨t.data.toList,by rw [et],trivial⟩) h2
    obtain ⟨al,cl,l,e3,hl1,hl2,hl3⟩:=slice_core (α:=JC) Tryz.underlying26 cells_jsT JC.c (JC.ok W) JC.len (fun m c y hm hy=>ih m (by omega) c y hy) h3
    injection e0 with e0 _
    injection e1 with e1 _
    injection e2 with e2 _
    injection e3 with e3 _
    subst e0 e1 e2 e3
    rw [strV_flat] at hn1
    refine ⟨⟨.mk kd tx.data.toList ns (l.map (·.x)),an,cn,al,cl⟩,?_,?_,?_⟩
    · show _=[Value.int .i64 kd,.string (bk tx.data.toList),.slice an ns.length cn,.slice al (l.map (·.x)).length cl]
      rw [List.length_map]
    · exact .mk hn1 hl1 (jrdL_of l hl3)
    · show (l.map (·.x)).length≤cl
      rw [List.length_map]; exact hl2
set_option maxRecDepth 100000 in
theorem open_json {H:Type} {enc:TypeId × Value→H} {W:World} {v:Value} {d:DataW H} {p:List MemPlace} {r:Reach} {b0:Nat} (hval:Value.okWide Tryz.prog W r b0 28 v) (h0:DataW.Trod enc Tryz.prog W 0 (fun _=>true) true 28 v d p) :
    ∃ o:JC,v=.agg (jvC o.x o.an o.cn o.al o.cl).toArray∧JRd (SW W) o.x (jvC o.x o.an o.cn o.al o.cl)∧o.x.list.length≤o.cl:=by
  obtain ⟨fs,rfl,_⟩:=okWide_struct Tryz.underlying28 hval
  obtain ⟨fuel,hf⟩:=h0
  obtain ⟨o,e,ho⟩:=json_core fuel _ _ hf
  refine ⟨o,?_,ho⟩
  have e2:fs.toList=o.c:=e
  show _=Value.agg o.c.toArray
  rw [← e2]
end Go.Proofs.YtppgfiklmfoaeaaGreatDoor
namespace Go.Proofs.YtppgfiklmfoaeaaGreatDoor
open Go Go.ChangeShapes Go.WideShapes Go.ChangeAt Go.RowKit Go.Sw Go.Sha Go.Esc Go.Json
theorem bulk_app {H:Type} (l r:List (DataW H)):Rows.uptoBulkAll (l++r)=Rows.uptoBulkAll l+Rows.uptoBulkAll r:=by
  induction l with
  | nil=>simp [Rows.uptoBulkAll]
  | cons x l ih=>simp only [List.cons_append,Rows.uptoBulkAll,ih]; omega
set_option maxRecDepth 100000 in
theorem slice_coreM {α H:Type} {enc:TypeId × Value→H} {W:World} {ts te:TypeId} {sz:Nat} (ht:Tryz.prog.underlying ts=some (.slice te)) (hc:Tryz.prog.cellsOf te=sz) (f:α→List Value) (Q:α→Prop) (m:α→Nat) (hf:∀ o,(f o).length=sz) {fuel:Nat} {cs:List Value} {x:DataW H × List MemPlace}
    (each:∀ (n:Nat) (c:List Value) (y:DataW H × List MemPlace),n<fuel→DataW.trod enc Tryz.prog W 0 (fun _=>true) true n te c=some y→∃ o,c=f o∧Q o∧m o≤Rows.uptoBulk y.1) (h:DataW.trod enc Tryz.prog W 0 (fun _=>true) true fuel ts cs=some x) :
    ∃ (a:Option Addr) (c:Nat) (l:List α),cs=[.slice a l.length c]∧Rd (SW W) a (l.flatMap f)∧l.length≤c∧(∀ o∈l,Q o)∧(l.map m).sum+1≤Rows.uptoBulk x.1:=by
  rcases DataW.trod_slice ht h with ⟨hcs,rfl⟩ | ⟨a,len,cap,elems,rest,n,rfl,hcs,rfl,_,hl,hm,hlen,hel,_,_⟩
  · exact ⟨none,0,[],hcs,.inl rfl,Nat.le_refl _,fun _ h=>absurd h List.not_mem_nil,by simp [Rows.uptoBulk]⟩
  · rw [hc] at hel
    have one:∀ i (hi:i<len),∃ o:α,Q o∧m o≤Rows.uptoBulk (elems[i]'(by omega)).1∧∀ j,j<sz→W.cell? ((a.add (i * sz)).add j)=(f o)[j]? := by
      intro i hi
      have h:=hel i hi
      rw [List.getElem?_eq_getElem (by omega)] at h
      obtain ⟨c,hc',ht'⟩:=Option.bind_eq_some_iff.1 h
      obtain ⟨o,rfl,ho,hb⟩:=each n c _ (Nat.lt_succ_self n) ht'
      exact ⟨o,ho,hb,(World.cells?_some hc').2.2⟩
    have build:∀ k,k≤len→∃ l:List α,l.length=k∧(∀ o∈l,Q o)∧(l.map m).sum≤Rows.uptoBulkAll ((elems.take k).map (·.1))∧∀ j u,(l.flatMap f)[j]? = some u→W.cell? (a.add j)=some u:=by
      intro k
      induction k with
      | zero=>intro _; exact ⟨[],rfl,fun _ h=>absurd h List.not_mem_nil,by simp,fun j u h=>by simp at h⟩
      | succ k ih =>
        intro hm1
        obtain ⟨l,h1,h2,hb0,h3⟩:=ih (by omega)
        obtain ⟨o,ho,hb,hc⟩:=one k (by omega)
        have hll:(l.flatMap f).length=k * sz:=by rw [row_flat_len hf,h1]
        refine ⟨l++[o],by simp [h1],fun x hx=>?_,?_,fun j u hu=>?_⟩
        · rcases List.mem_append.1 hx with hx | hx
          · exact h2 x hx
          · rw [List.mem_singleton.1 hx]; exact ho
        · rw [List.take_succ_eq_append_getElem (by omega),List.map_append,List.map_append,bulk_app,List.sum_append]
          simp only [List.map_cons,List.map_nil,List.sum_cons,List.sum_nil,Rows.uptoBulkAll]
          omega
        · rw [List.flatMap_append] at hu
          rcases Nat.lt_or_ge j (k * sz) with hlt | hge
          · rw [List.getElem?_append_left (by omega)] at hu
            exact h3 j u hu
          · rw [List.getElem?_append_right (by omega),hll] at hu
            simp only [List.flatMap_cons,List.flatMap_nil,List.append_nil] at hu
            have hj:j - k * sz<sz:=by
              rcases Nat.lt_or_ge (j - k * sz) sz with h | h
              · exact h
              · rw [List.getElem?_eq_none (by rw [hf]; exact h)] at hu; cases hu
            have h4:=hc (j - k * sz) hj
            rw [hu,add_addN a (k * sz) j hge] at h4
            exact h4
    obtain ⟨l,h1,h2,hb,h3⟩:=build len (Nat.le_refl _)
    refine ⟨some a,cap,l,by rw [h1]; exact hcs,?_,by omega,h2,?_⟩
    · by_cases h0:l.flatMap f=[]
      · rw [h0]; exact .inl rfl
      · exact (rd_cells h0 h3).2
    · rw [List.take_of_length_le (by omega)] at hb
      simp only [Rows.uptoBulk]
      omega
theorem sum_wtN (l:List (List UInt8)):(l.map fun n=>n.length+1).sum=wtN l:=by
  induction l with
  | nil=>rfl
  | cons n l ih=>rw [List.map_cons,List.sum_cons,ih]; rfl
theorem sum_wtL:∀ l:List JC,(l.map fun o=>wtJ o.x).sum=wtL (l.map (·.x))
  | []=>by simp [wtL]
  | o::l=>by rw [List.map_cons,List.sum_cons,sum_wtL l,List.map_cons,K0]
set_option maxRecDepth 100000 in
theorem json_coreM {H:Type} {enc:TypeId × Value→H} {W:World}:∀ (fuel:Nat) (cs:List Value) (x:DataW H × List MemPlace),DataW.trod enc Tryz.prog W 0 (fun _=>true) true fuel 28 cs=some x→∃ o:JC,cs=o.c∧o.ok W∧wtJ o.x≤Rows.uptoBulk x.1:=by
  intro fuel
  induction fuel using Nat.strongRecOn with
  | _ fuel ih =>
    intro cs x hf
    obtain ⟨xs,n,hfu,rfl,hl,hx,hs⟩:=DataW.trod_struct Tryz.underlying28 hf
    have hl4:cs.length=4:=by rw [hl]; kernel_rfl
    obtain ⟨c0,c1,c2,c3,rfl⟩:∃ c0 c1 c2 c3,cs=[c0,c1,c2,c3]:=by
      match cs,hl4 with
      | [c0,c1,c2,c3],_=>exact ⟨c0,c1,c2,c3,rfl⟩
    have hx4:xs.length=4:=by rw [hx]; rfl
    obtain ⟨x0,x1,x2,x3,rfl⟩:∃ x0 x1 x2 x3,xs=[x0,x1,x2,x3]:=by
      match xs,hx4 with
      | [x0,x1,x2,x3],_=>exact ⟨x0,x1,x2,x3,rfl⟩
    have h0:DataW.trod enc Tryz.prog W 0 (fun _=>true) true n 24 ((List.drop 0 [c0,c1,c2,c3]).take (Tryz.prog.cellsOf 24))=some x0:=hs 0 _ rfl
    rw [cells_kdT] at h0
    have h1:DataW.trod enc Tryz.prog W 0 (fun _=>true) true n 9 ((List.drop 1 [c0,c1,c2,c3]).take (Tryz.prog.cellsOf 9))=some x1:=hs 1 _ rfl
    rw [cells_strT] at h1
    have h2:DataW.trod enc Tryz.prog W 0 (fun _=>true) true n 25 ((List.drop 2 [c0,c1,c2,c3]).take (Tryz.prog.cellsOf 25))=some x2:=hs 2 _ rfl
    rw [cells_nsT] at h2
    have h3:DataW.trod enc Tryz.prog W 0 (fun _=>true) true n 26 ((List.drop 3 [c0,c1,c2,c3]).take (Tryz.prog.cellsOf 26))=some x3:=hs 3 _ rfl
    rw [cells_lsT] at h3
    simp only [List.drop_succ_cons,List.drop_zero,List.take_succ_cons,List.take_zero] at h0 h1 h2 h3
    obtain ⟨kd,e0,y0,w0⟩:=DataW.trod_int Tryz.underlying24 h0
    obtain ⟨tx,e1,y1,w1⟩:=DataW.trod_string Tryz.underlying9 h1
    obtain ⟨an,cn,ns,e2,hn1,hn2,_,hnb⟩:=slice_coreM (α:=List UInt8) Tryz.underlying25 cells_strT (fun n=>[Value.string (bk n)]) (fun _=>True) (fun n=>n.length+1) (fun _=>rfl) (fun m c y _ hm=>by
      obtain ⟨t,et,yt,_⟩:=DataW.trod_string Tryz.underlying9 hm
      exact ⟨t.data.toList,by rw [et],trivial,by rw [yt]; simp [Rows.uptoBulk]⟩) h2
    obtain ⟨al,cl,l,e3,hl1,hl2,hl3,hlb⟩:=slice_coreM (α:=JC) Tryz.underlying26 cells_jsT JC.c (JC.ok W) (fun o=>wtJ o.x) JC.len (fun m c y hm hy=>ih m (by omega) c y hy) h3
    injection e0 with e0 _
    injection e1 with e1 _
    injection e2 with e2 _
    injection e3 with e3 _
    subst e0 e1 e2 e3
    rw [strV_flat] at hn1
    refine ⟨⟨.mk kd tx.data.toList ns (l.map (·.x)),an,cn,al,cl⟩,?_,⟨?_,?_⟩,?_⟩
    · show _=[Value.int .i64 kd,.string (bk tx.data.toList),.slice an ns.length cn,.slice al (l.map (·.x)).length cl]
      rw [List.length_map]
    · exact .mk hn1 hl1 (jrdL_of l hl3)
    · show (l.map (·.x)).length≤cl
      rw [List.length_map]; exact hl2
    · rw [sum_wtN] at hnb; rw [sum_wtL] at hlb
      rw [y0,y1]
      show wtJ (.mk kd tx.data.toList ns (l.map (·.x)))≤_
      rw [wtJ_eq]
      simp only [List.map_cons,List.map_nil,Rows.uptoBulk,Rows.uptoBulkAll]
      omega
theorem wtJ_one (v:JV):1≤wtJ v:=by cases v; rw [wtJ_eq]; omega
theorem wtL_count:∀ l:List JV,l.length≤wtL l
  | []=>Nat.zero_le _
  | v::l=>by have:=wtL_count l; have:=wtJ_one v; rw [K0,List.length_cons]; omega
set_option maxRecDepth 100000 in
theorem open_jsons {H:Type} {enc:TypeId × Value→H} {W:World} {v:Value} {d:DataW H} {p:List MemPlace} {r:Reach} {b0:Nat} (hval:Value.okWide Tryz.prog W r b0 26 v) (h0:DataW.Trod enc Tryz.prog W 0 (fun _=>true) true 26 v d p) :
    ∃ (a:Option Addr) (c:Nat) (l:List JV) (cs:List Value),v=.slice a l.length c∧Rd (SW W) a cs∧JRdL (SW W) l cs∧wtL l+1≤Rows.uptoBulk d:=by
  obtain ⟨a0,len,cap,rfl⟩:=okWide_slice Tryz.underlying26 hval
  obtain ⟨fuel,hf⟩:=h0
  obtain ⟨a,c,l,e,h1,h2,h3,hb⟩:=slice_coreM (α:=JC) Tryz.underlying26 cells_jsT JC.c (JC.ok W) (fun o=>wtJ o.x) JC.len (fun m c y _ hy=>json_coreM m c y hy) hf
  rw [sum_wtL] at hb
  refine ⟨a,c,l.map (·.x),l.flatMap JC.c,?_,h1,jrdL_of l h3,hb⟩
  rw [List.length_map]
  simpa [Value.cells] using e
end Go.Proofs.YtppgfiklmfoaeaaGreatDoor
namespace Go.Proofs.YtppgfiklmfoaeaaGreatDoor
open Go Go.ChangeShapes Go.WideShapes Go.ChangeAt Go.RowKit Go.Sw
theorem and_tt {a b:Bool} (h:a=true) (h2:b=true):(a&&b)=true:=by rw [h,h2]; rfl
theorem cl_may:Tryz.prog.mayEnter=true:=by kernel_rfl
theorem cl_lift:Tryz.prog.liftsFinal=Rows.jsonParsesRow.lifted:=by kernel_rfl
theorem cl_make:Tryz.prog.make=some Rows.jsonParsesRow.make:=by kernel_rfl
theorem cl_heard:Tryz.prog.stopsHeard=true:=by kernel_rfl
theorem cl_keys:Tryz.prog.plainKeys=Rows.jsonParsesRow.plainKeys:=by kernel_rfl
end Go.Proofs.YtppgfiklmfoaeaaGreatDoor
namespace Go.Json
open Go.Lib Go.Esc Go.Sw
theorem blk_trim (l:List UInt8):Lib.trimLeftS l [32,9,10,13]=blk l:=by
  unfold Lib.trimLeftS blk
  congr 1
  funext b
  unfold wsB
  simp only [List.contains_cons,List.contains_nil,Bool.or_false,Bool.or_assoc]
theorem digs_all:∀ n:Fin 256,([48,49,50,51,52,53,54,55,56,57]:List UInt8).contains (UInt8.ofNat n.val)=dgB (UInt8.ofNat n.val):=by decide +kernel
theorem digs_has (b:UInt8):([48,49,50,51,52,53,54,55,56,57]:List UInt8).contains b=dgB b:=by
  have h:=digs_all ⟨b.toNat,b.toNat_lt⟩
  rwa [show UInt8.ofNat b.toNat=b by simp] at h
theorem digs_trim (l:List UInt8):(Lib.trimLeftS l [48,49,50,51,52,53,54,55,56,57]).length+digs l=l.length:=by
  unfold Lib.trimLeftS digs
  rw [show (fun x=>([48,49,50,51,52,53,54,55,56,57]:List UInt8).contains x)=dgB from funext digs_has]
  have:=congrArg List.length (List.takeWhile_append_dropWhile (p:=dgB) (l:=l))
  rw [List.length_append] at this
  omega
end Go.Json
namespace Go.Proofs.YtppgfiklmfoaeaaGreatDoor
open Go.Sw Go.Sha Go.Esc Go.RowKit Go.Json
def rdG (r:Nat) (q:RdS):Grp:=[(r,.cells #[.string (bk q.1),.int .i64 q.2] 78 (0,0))]
theorem trimB (s:ByteArray) (W0:World) (H:List Grp):Tri Tryz.prog 82 #[.string s,.string (ByteArray.mk #[32,9,10,13])] W0 H (fun v H'=>v=.string (bk (blk s.data.toList))∧H'=H) :=
  Tri_below (fun w _=>(Any.strings_TrimLeft_laid Tryz.lays161 (by kernel_rfl) s _ w (by decide) (ascii_of_all (by decide))).mono fun _ _ ⟨h1,h2⟩=>⟨by rw [h1,show Lib.trimLeftS s.data.toList (ByteArray.mk #[32,9,10,13]).data.toList=blk s.data.toList from blk_trim _],h2⟩)
theorem trimD (s:ByteArray) (W0:World) (H:List Grp):Tri Tryz.prog 82 #[.string s,.string (ByteArray.mk #[48,49,50,51,52,53,54,55,56,57])] W0 H (fun v H'=>v=.string (bk (Lib.trimLeftS s.data.toList [48,49,50,51,52,53,54,55,56,57]))∧H'=H) :=
  Tri_below (fun w _=>Any.strings_TrimLeft_laid Tryz.lays161 (by kernel_rfl) s _ w (by decide) (ascii_of_all (by decide)))
theorem jhas0_ (s t:ByteArray) (W0:World) (H:List Grp):Tri Tryz.prog 123 #[.string s,.string t] W0 H (fun v H'=>v=.bool (G4 s t)∧H'=H):=by
 refine C6 (args:=[.string s,.string t]) (n:=18) Tryz.func123 rfl rfl (Nat.le_of_ble_eq_true rfl) ?_
 refine A1 (B7 (E':=[⟨0,[],.string s⟩,⟨1,[],.string t⟩]) [0] [0,1] (k:=?_))
 refine A0 (A1 ?_)
 refine A2 (A4 (j:=9) [0,0,0,0,0,0,0,0,0] (k:=?_))
 refine F6 (ch:=[(10,true)]) (s:=s) (vl:=none) (vh:=(some (.int .i64 (t.size:Int)))) (l:=0) (h:=(t.size:Int)) (hb:=(fun hc=>by have hg0:=I5 (t:=10) (c:=[]) (b:=decide ((s.size:Int) ≥ (t.size:Int))) hc kr; (try simp at hg0); omega)) (k:=B0 [0,0,6,0] [4] (k:=?_))
 refine A0 (B5 ?_)
 refine B6 [.tmp 4] [.bool ((decide ((s.size:Int) ≥ (t.size:Int)))&&((s.extract 0 t.size).toList==t.toList))] (k:=?_)
 exact ⟨by unfold G4; rfl,rfl⟩
theorem jhas_ (s t:ByteArray) (W0:World) (H:List Grp):Tri Tryz.prog 77 #[.string s,.string t] W0 H (fun v H'=>v=.bool (G4 s t)∧H'=H):=by
 refine C6 (args:=[.string s,.string t]) (n:=8) Tryz.func77 rfl rfl (Nat.le_of_ble_eq_true rfl) ?_
 refine A1 (B7 (E':=[⟨0,[],.string s⟩,⟨1,[],.string t⟩]) [0] [0,1] (k:=?_))
 refine A0 (A1 ?_)
 refine A2 (A4 (j:=2) [0,0] (k:=?_))
 refine H4 Tryz.func123 (jhas0_ s t _ _) (B1 (E':=[⟨4,[],.bool (G4 s t)⟩]) [0] [4] (k:=?_))
 refine A0 (B5 ?_)
 refine B6 [.tmp 4] [.bool (G4 s t)] (k:=?_)
 exact ⟨rfl,rfl⟩
theorem jcut0_ (s t:ByteArray) (W0:World) (H:List Grp):Tri Tryz.prog 155 #[.string s,.string t] W0 H (fun v H'=>v=(if G4 s t then .tuple #[.string (s.extract t.size s.size),.bool true] else .tuple #[.string s,.bool false])∧H'=H):=by
 refine C6 (args:=[.string s,.string t]) (n:=15) Tryz.func155 rfl rfl (Nat.le_of_ble_eq_true rfl) ?_
 refine A1 (B7 (E':=[⟨0,[],.string s⟩,⟨1,[],.string t⟩]) [0,0] [0,1] (k:=?_))
 refine A0 (A1 ?_)
 refine A1 (A2 ?_)
 refine A4 (j:=2) [0,0] (k:=H4 Tryz.func123 (jhas0_ s t _ _) ?_)
 refine B0 [0] [0,1,9] (k:=A0 ?_)
 refine B2 (b:=!(G4 s t)) kr (fun hc1=>?_) (fun hc1=>?_)
 ·
  have hsp:G4 s t=false:=by simpa using hc1
  refine A1 (G_p [0,0,0] [4,5] (k:=?_))
  refine A0 (B5 ?_)
  refine A3 (B6 [.tmp 4,.tmp 5] [.string s,.bool false] (k:=?_))
  exact ⟨by rw [if_neg (by rw [hsp]; decide)]; rfl,rfl⟩
 ·
  have hsp:G4 s t=true:=by simpa using hc1
  have hle:t.size≤s.size:=by unfold G4 at hsp; simp only [Bool.and_eq_true,decide_eq_true_eq] at hsp; omega
  refine A8 (A0 ?_)
  refine A1 (A2 ?_)
  refine A4 (j:=3) [0,0,0] (k:=F6 (ch:=[]) (s:=s) (vl:=(some (.int .i64 (t.size:Int)))) (vh:=none) (l:=(t.size:Int)) (h:=(s.size:Int)) (hb:=(fun _=>by omega)) (k:=?_))
  refine B0 [0,0] [4,5] (k:=A0 ?_)
  refine B5 (B6 [.tmp 4,.tmp 5] [.string (s.extract t.size s.size),.bool true] (k:=?_))
  exact ⟨by rw [if_pos hsp]; rfl,rfl⟩
theorem jcut_ (s t:ByteArray) (W0:World) (H:List Grp):Tri Tryz.prog 124 #[.string s,.string t] W0 H (fun v H'=>v=(if G4 s t then .tuple #[.string (s.extract t.size s.size),.bool true] else .tuple #[.string s,.bool false])∧H'=H):=by
 refine C6 (args:=[.string s,.string t]) (n:=11) Tryz.func124 rfl rfl (Nat.le_of_ble_eq_true rfl) ?_
 refine A1 (B7 (E':=[⟨0,[],.string s⟩,⟨1,[],.string t⟩]) [0,0] [0,1] (k:=?_))
 refine A0 (A1 ?_)
 refine A2 (A4 (j:=2) [0,0] (k:=?_))
 refine D8 Tryz.func155 (jcut0_ s t _ _) ?_
 rintro _ _ ⟨rfl,rfl⟩
 cases hsp:G4 s t
 all_goals simp only [Bool.false_eq_true,if_false,if_true]
 ·
  refine B0 [0,0,0,0] [4,5] (k:=A0 ?_)
  refine B5 (B6 [.tmp 4,.tmp 5] [.string s,.bool false] (k:=?_))
  exact ⟨rfl,rfl⟩
 ·
  refine B0 [0,0,0,0] [4,5] (k:=A0 ?_)
  refine B5 (B6 [.tmp 4,.tmp 5] [.string (s.extract t.size s.size),.bool true] (k:=?_))
  exact ⟨rfl,rfl⟩
theorem jfault_ (r:Nat) (q:RdS) (n:Int) (W0:World) (H:List Grp):Tri Tryz.prog 48 #[pt r,.int .i64 n] W0 ([(r,.cells #[.string (bk q.1),.int .i64 q.2] 78 (0,0))]::H) (fun _ H'=>H'=rdG r (P6 n q)::H):=by
 refine C6 (args:=[pt r,.int .i64 n]) (n:=13) Tryz.func48 rfl rfl (Nat.le_of_ble_eq_true rfl) ?_
 refine A1 (A2 ?_)
 refine A4 (j:=3) [0,0,0] (k:=A5 (ch:=[]) (b:=r) (off:=1) (v:=.int .i64 q.2) (hA:=At.grp 0 0 rfl rfl) (k:=?_))
 refine B0 [0] [0,1,8] (k:=A0 ?_)
 refine B2 (b:=q.2==0) kr (fun hc1=>?_) (fun hc1=>?_)
 ·
  have hc:q.2=0:=by simpa using hc1
  refine A2 (A4 (j:=4) [0,0,0,0] (k:=?_))
  refine E9 (ch:=[]) (b:=r) (off:=1) (v:=.int .i64 n) (j:=0) ([(r,.cells #[.string (bk q.1),.int .i64 n] 78 (0,0))]::H) (hoff:=Nat.le_of_ble_eq_true rfl) (hfz:=(fun _ _=>E3)) (k:=B1 (E':=[]) [] [] (k:=?_))
  refine B6 [] [] (k:=?_)
  exact (by rw [fltR_yes hc]; rfl)
 ·
  have hc:¬ q.2=0:=by simpa using hc1
  refine A8 (B6 [] [] (k:=?_))
  exact (by rw [fltR_no hc]; rfl)
theorem N8 (r:Nat) (q:RdS) (W0:World) (H:List Grp):Tri Tryz.prog 47 #[pt r] W0 ([(r,.cells #[.string (bk q.1),.int .i64 q.2] 78 (0,0))]::H) (fun _ H'=>H'=rdG r (B3 q)::H):=by
 refine C6 (args:=[pt r]) (n:=10) Tryz.func47 rfl rfl (Nat.le_of_ble_eq_true rfl) ?_
 refine A2 (A4 (j:=4) [0,0,0,0] (k:=?_))
 refine A5 (ch:=[]) (b:=r) (off:=0) (v:=.string (bk q.1)) (hA:=At.grp 0 0 rfl rfl) (k:=H4 Tryz.func82 (trimB (bk q.1) _ _) ?_)
 refine A4 (j:=8) [0,0] (k:=E9 (ch:=[]) (b:=r) (off:=0) (v:=.string (bk (blk q.1))) (j:=0) ([(r,.cells #[.string (bk (blk q.1)),.int .i64 q.2] 78 (0,0))]::H) (hoff:=Nat.le_of_ble_eq_true rfl) (hfz:=(fun _ _=>E3)) (k:=?_))
 refine B1 (E':=[]) [] [] (k:=B6 [] [] (k:=?_))
 exact rfl
theorem jtake_ (r:Nat) (q:RdS) (w:ByteArray) (W0:World) (H:List Grp):Tri Tryz.prog 78 #[pt r,.string w] W0 ([(r,.cells #[.string (bk q.1),.int .i64 q.2] 78 (0,0))]::H) (fun v H'=>(q.1.take w.size=w.data.toList∧v=.bool true∧H'=rdG r (q.1.drop w.size,q.2)::H)∨(¬ q.1.take w.size=w.data.toList∧v=.bool false∧H'=rdG r q::H)):=by
 refine C6 (args:=[pt r,.string w]) (n:=22) Tryz.func78 rfl rfl (Nat.le_of_ble_eq_true rfl) ?_
 refine A1 (B7 (E':=[⟨0,[],pt r⟩,⟨1,[],.string w⟩]) [0] [0,1] (k:=?_))
 refine A0 (A1 ?_)
 refine A2 (A4 (j:=3) [0,0,0] (k:=?_))
 refine A5 (ch:=[]) (b:=r) (off:=0) (v:=.string (bk q.1)) (hA:=At.grp 0 0 rfl rfl) (k:=A4 (j:=5) [0] (k:=?_))
 refine D8 Tryz.func124 (jcut_ (bk q.1) w _ _) ?_
 rintro _ _ ⟨rfl,rfl⟩
 cases hsp:G4 (bk q.1) w
 all_goals simp only [Bool.false_eq_true,if_false,if_true]
 ·
  refine B0 [0,0,0,0,0] [0,5,6] (k:=A0 ?_)
  refine A1 (A1 ?_)
  refine G_p [0] [0,5,6,16] (k:=A0 ?_)
  refine C2 kr (A8 ?_)
  refine A0 (A1 ?_)
  refine B7 (E':=[⟨4,[],.bool false⟩]) [0,0] [4] (k:=A0 ?_)
  refine B5 (B6 [.tmp 4] [.bool false] (k:=?_))
  exact .inr ⟨(K6 _ _).1 hsp,rfl,rfl⟩
 ·
  refine B0 [0,0,0,0,0] [0,5,6] (k:=A0 ?_)
  refine A1 (A1 ?_)
  refine G_p [0] [0,5,6,16] (k:=A0 ?_)
  refine E8 kr (A2 ?_)
  refine A4 (j:=4) [0,0,0,0] (k:=E9 (ch:=[]) (b:=r) (off:=0) (v:=.string ((bk q.1).extract w.size (bk q.1).size)) (j:=0) ([(r,.cells #[.string ((bk q.1).extract w.size (bk q.1).size),.int .i64 q.2] 78 (0,0))]::H) (hoff:=Nat.le_of_ble_eq_true rfl) (hfz:=(fun _ _=>E3)) (k:=?_))
  refine B1 (E':=[⟨6,[],.bool true⟩]) [] [6] (k:=A0 ?_)
  refine A1 (B7 (E':=[⟨4,[],.bool true⟩]) [0,0] [4] (k:=?_))
  refine A0 (B5 ?_)
  refine B6 [.tmp 4] [.bool true] (k:=?_)
  exact .inl ⟨(L2 _ _).1 hsp,rfl,by rw [ext_bk]; rfl⟩
theorem jmust_ (r:Nat) (q:RdS) (c:UInt8) (W0:World) (H:List Grp):Tri Tryz.prog 125 #[pt r,.string (bk [c])] W0 ([(r,.cells #[.string (bk q.1),.int .i64 q.2] 78 (0,0))]::H) (fun _ H'=>H'=rdG r (D7 c q)::H):=by
 refine C6 (args:=[pt r,.string (bk [c])]) (n:=10) Tryz.func125 rfl rfl (Nat.le_of_ble_eq_true rfl) ?_
 refine A1 (A2 ?_)
 refine A4 (j:=2) [0,0] (k:=D8 Tryz.func78 (jtake_ r q (bk [c]) _ _) ?_)
 rintro _ _ (⟨hk1,rfl,rfl⟩ | ⟨hk1,rfl,rfl⟩)
 ·
  have hk1:q.1.take 1=[c]:=hk1
  refine B1 (E':=[⟨0,[],pt r⟩,⟨7,[],.bool false⟩]) [0] [0,7] (k:=A0 ?_)
  refine C2 kr (A8 ?_)
  refine B6 [] [] (k:=?_)
  exact (by rw [mustR_yes hk1]; rfl)
 ·
  have hk1:¬ q.1.take 1=[c]:=hk1
  refine B1 (E':=[⟨0,[],pt r⟩,⟨7,[],.bool true⟩]) [0] [0,7] (k:=A0 ?_)
  refine E8 kr (A2 ?_)
  refine A4 (j:=1) [0] (k:=D8 Tryz.func48 (jfault_ r q 70 _ _) ?_)
  rintro _ _ rfl
  refine B1 (E':=[]) [] [] (k:=B6 [] [] (k:=?_))
  exact (by rw [mustR_no hk1])
theorem jdigits0_ (s:ByteArray) (hs:s.size≤9223372036854775807) (W0:World) (H:List Grp):Tri Tryz.prog 127 #[.string s] W0 H (fun v H'=>v=.int .i64 (digs s.data.toList:Int)∧H'=H):=by
 have hdt:=digs_trim s.data.toList
 rw [E0] at hdt
 have hds:=C3 (Lib.trimLeftS s.data.toList [48,49,50,51,52,53,54,55,56,57])
 have hsz:s.size≤9223372036854775807:=hs
 refine C6 (args:=[.string s]) (n:=9) Tryz.func127 rfl rfl (Nat.le_of_ble_eq_true rfl) ?_
 refine A1 (B7 (E':=[⟨0,[],.string s⟩]) [0] [0] (k:=?_))
 refine A0 (A1 ?_)
 refine A2 (A4 (j:=3) [0,0,0] (k:=?_))
 refine H4 Tryz.func82 (trimD s _ _) (A4 (j:=6) [0,0] (k:=?_))
 refine D5 8 ((s.size:Int) - ((bk (Lib.trimLeftS s.data.toList [48,49,50,51,52,53,54,55,56,57])).size:Int)) (by omega) (by omega) kr (B0 [0] [2] (k:=?_))
 refine A0 (B5 ?_)
 refine B6 [.tmp 2] [.int .i64 ((s.size:Int) - ((bk (Lib.trimLeftS s.data.toList [48,49,50,51,52,53,54,55,56,57])).size:Int))] (k:=?_)
 exact ⟨congrArg (Value.int .i64) (by omega),rfl⟩
theorem jdigits_ (l:List UInt8) (k:Nat) (hl:l.length≤9223372036854775807) (W0:World) (H:List Grp):Tri Tryz.prog 127 #[.string ((bk l).extract k (bk l).size)] W0 H (fun v H'=>v=.int .i64 (digs (l.drop k):Int)∧H'=H):=by
  have h:=jdigits0_ ((bk l).extract k (bk l).size) (by rw [ext_bk,C3,List.length_drop]; omega) W0 H
  rwa [L9] at h
end Go.Proofs.YtppgfiklmfoaeaaGreatDoor
namespace Go.Proofs.YtppgfiklmfoaeaaGreatDoor
open Go.Sw Go.Sha Go.Esc Go.RowKit Go.Json
theorem u48 {b:UInt8}:(b.toNat:Int)=48 ↔ b=48:=u8_iff (n:=48) (by decide)
theorem u46 {b:UInt8}:(b.toNat:Int)=46 ↔ b=46:=u8_iff (n:=46) (by decide)
theorem u45 {b:UInt8}:(b.toNat:Int)=45 ↔ b=45:=u8_iff (n:=45) (by decide)
theorem u43 {b:UInt8}:(b.toNat:Int)=43 ↔ b=43:=u8_iff (n:=43) (by decide)
theorem u101 {b:UInt8}:(b.toNat:Int)=101 ↔ b=101:=u8_iff (n:=101) (by decide)
theorem u69 {b:UInt8}:(b.toNat:Int)=69 ↔ b=69:=u8_iff (n:=69) (by decide)
theorem u34 {b:UInt8}:(b.toNat:Int)=34 ↔ b=34:=u8_iff (n:=34) (by decide)
theorem u92 {b:UInt8}:(b.toNat:Int)=92 ↔ b=92:=u8_iff (n:=92) (by decide)
theorem jnumber_ (l:List UInt8) (hl:l.length≤1000000000000) (W0:World) (H:List Grp):Tri Tryz.prog 81 #[.string (bk l)] W0 H (fun v H'=>v=.int .i64 (F8 l:Int)∧H'=H):=by
 have hbz:=C3 l
 refine C6 (args:=[.string (bk l)]) (n:=92) Tryz.func81 rfl rfl (Nat.le_of_ble_eq_true rfl) ?_
 refine A1 (B7 (E':=[⟨0,[],.string (bk l)⟩]) [0] [0] (k:=?_))
 refine A0 (A1 ?_)
 refine G_p [0] [0,3] (k:=A0 ?_)
 refine A1 (A1 ?_)
 refine A2 (A4 (j:=1) [0] (k:=?_))
 refine H4 Tryz.func77 (jhas_ (bk l) (ByteArray.mk #[45]) _ _) (B0 [] [0,3,9] (k:=?_))
 refine A0 (G_join (T:=Nat) (fun ξ:Nat=>[⟨0,[],.string (bk l)⟩,⟨3,[],.int .i64 ((ξ:Nat):Int)⟩]) (fun ξ:Nat=>H) (fun ξ:Nat=>(ξ=sgn l)) ?_ ?_)
 ·
  refine B2 (b:=G4 (bk l) (ByteArray.mk #[45])) kr (fun hc1=>?_) (fun hc1=>?_)
  ·
   have hm:l.getD 0 0=45:=(take1 (by decide)).1 ((L2 _ _).1 hc1)
   refine G_p [0,0,0] [0,3] (k:=K4 (1) [0,3] kr (fun w h=>h) (by first | exact (if_pos hm).symm | exact (if_neg hm).symm))
  ·
   have hm:¬ l.getD 0 0=45:=fun hn=>(K6 _ _).1 hc1 ((take1 (by decide)).2 hn)
   refine A8 (K4 (0) [0,3] kr (fun w h=>h) (by first | exact (if_pos hm).symm | exact (if_neg hm).symm))
 ·
  rintro i hi
  have hil:i≤l.length:=by rw [hi]; exact sgn_le
  have hidl:=J7 l hil
  refine A0 (A1 ?_)
  refine A2 (A4 (j:=2) [0,0] (k:=?_))
  refine F6 (ch:=[]) (s:=(bk l)) (vl:=(some (.int .i64 ((i:Nat):Int)))) (vh:=none) (l:=((i:Nat):Int)) (h:=((bk l).size:Int)) (hb:=(fun _=>by omega)) (k:=H4 Tryz.func127 (jdigits_ l i (by omega) _ _) ?_)
  refine B0 [0] [0,3,4] (k:=A0 ?_)
  refine A1 (A1 ?_)
  refine A2 (A4 (j:=8) [0,0,0,0,0,0,0,0] (k:=?_))
  refine E4 (ch:=[(21,true),(18,false)]) (s:=(bk l)) (kd:=.i64) (j:=((i:Nat):Int)) (hb:=(fun hc=>by have hg0:=I5 (t:=21) (c:=[(18,false)]) (b:=decide ((digs (l.drop i):Int) > 1)) hc kr; have hg1:=I5 (t:=18) (c:=[]) (b:=(digs (l.drop i):Int)==0) (chB_tl hc) kr; (try simp at hg0 hg1); omega)) (k:=?_)
  have hb2:=D4 (bk l) ((i:Nat):Int)
  refine B0 [0,6,5] [0,3,4,27] (k:=A0 ?_)
  refine B2 (b:=((digs (l.drop i):Int)==0)||((decide ((digs (l.drop i):Int) > 1))&&((A7 (bk l) ((i:Nat):Int))==48))) kr (fun hc3=>?_) (fun hc3=>?_)
  ·
   simp only [Bool.and_eq_true,Bool.or_eq_true,decide_eq_true_eq,beq_iff_eq,gt_iff_lt,L6,u48] at hc3
   have hz:=hc3
   refine A1 (B7 (E':=[⟨2,[],.int .i64 0⟩]) [0] [2] (k:=?_))
   refine A0 (B5 ?_)
   refine A3 (B6 [.tmp 2] [.int .i64 0] (k:=?_))
   exact ⟨congrArg (fun n:Nat=>Value.int .i64 (n:Int)) (num_int hi (by rcases hz with h | h; exact .inl (by omega); exact .inr ⟨by omega,h.2⟩)).symm,rfl⟩
  ·
   simp only [Bool.and_eq_false_iff,Bool.or_eq_false_iff,decide_eq_false_iff_not,beq_eq_false_iff_ne,ne_eq,gt_iff_lt,L6,u48] at hc3
   have hz:=hc3
   obtain ⟨j,hj⟩:∃ j:Nat,j=i+digs (l.drop i):=⟨_,rfl⟩
   have hI:intP l=j:=int_ok hi hj (by omega) (by rintro ⟨h1,h2⟩; rcases hz.2 with h | h; omega; exact h h2)
   have hjl:=J7 l hil
   rw [← hj] at hjl
   have hj0:j≠0:=by omega
   refine A8 (A0 ?_)
   refine A1 ?_
   have hw4:IntKind.wrap .i64 (((i:Nat):Int)+(digs (l.drop i):Int))=((i:Nat):Int)+(digs (l.drop i):Int):=w64 (by omega) (by omega)
   refine A2 (C0 (E':=[⟨30,[],.int .i64 (((i:Nat):Int)+(digs (l.drop i):Int))⟩,⟨0,[],.string (bk l)⟩,⟨3,[],.int .i64 ((i:Nat):Int)⟩]) [0,0,0] (Eq.trans (b:=some [⟨30,[],.int .i64 (IntKind.wrap .i64 (((i:Nat):Int)+(digs (l.drop i):Int)))⟩,⟨0,[],.string (bk l)⟩,⟨3,[],.int .i64 ((i:Nat):Int)⟩]) kr (by simp only [hw4])) (j:=3) rfl ?_)
   refine C4 (E':=[⟨30,[],.int .i64 ((j:Nat):Int)⟩,⟨0,[],.string (bk l)⟩,⟨3,[],.int .i64 ((i:Nat):Int)⟩]) (by rw [show ((i:Nat):Int)+(digs (l.drop i):Int)=((j:Nat):Int) by omega]) (B0 [0] [0,3] (k:=?_))
   refine A0 (A1 ?_)
   refine A1 (A2 ?_)
   refine A4 (j:=2) [0,0] (k:=F6 (ch:=[]) (s:=(bk l)) (vl:=(some (.int .i64 ((j:Nat):Int)))) (vh:=none) (l:=((j:Nat):Int)) (h:=((bk l).size:Int)) (hb:=(fun _=>by omega)) (k:=?_))
   refine H4 Tryz.func77 (jhas_ ((bk l).extract j (bk l).size) (ByteArray.mk #[46]) _ _) (B0 [] [0,3,34] (k:=?_))
   refine A0 (G_joinR (T:=Nat) (fun ξ:Nat=>[⟨0,[],.string (bk l)⟩,⟨3,[],.int .i64 ((ξ:Nat):Int)⟩]) (fun ξ:Nat=>H) (fun ξ:Nat=>(ξ=Q7 l j)∧(ξ≠0)∧(ξ≤l.length)) ?_ ?_)
   ·
    refine B2 (b:=G4 ((bk l).extract j (bk l).size) (ByteArray.mk #[46])) kr (fun hc5=>?_) (fun hc5=>?_)
    ·
     have hd:l.getD j 0=46:=(take_get (by decide)).1 (by have h:=(L2 _ _).1 hc5; rwa [L9] at h)
     have hjlt:=get_lt hd (by decide)
     refine A1 (A2 ?_)
     refine A4 (j:=3) [0,0,0] (k:=D5 37 (((j:Nat):Int)+1) (by omega) (by omega) kr ?_)
     refine F6 (ch:=[]) (s:=(bk l)) (vl:=(some (.int .i64 (((j:Nat):Int)+1)))) (vh:=none) (l:=((j:Nat):Int)+1) (h:=((bk l).size:Int)) (hb:=(fun _=>by omega)) (k:=C4 (E':=[⟨38,[],.string ((bk l).extract (j+1) (bk l).size)⟩,⟨37,[],.int .i64 (((j:Nat):Int)+1)⟩,⟨36,[],.int .i64 ((j:Nat):Int)⟩,⟨35,[],.string (bk l)⟩,⟨0,[],.string (bk l)⟩,⟨3,[],.int .i64 ((j:Nat):Int)⟩,⟨34,[],.bool (G4 ((bk l).extract j (bk l).size) (ByteArray.mk #[46]))⟩]) (by have hz:([⟨38,[],.string ((bk l).extract (Int.toNat (((j:Nat):Int)+1)) (bk l).size)⟩,⟨37,[],.int .i64 (((j:Nat):Int)+1)⟩,⟨36,[],.int .i64 ((j:Nat):Int)⟩,⟨35,[],.string (bk l)⟩,⟨0,[],.string (bk l)⟩,⟨3,[],.int .i64 ((j:Nat):Int)⟩,⟨34,[],.bool (G4 ((bk l).extract j (bk l).size) (ByteArray.mk #[46]))⟩]:List Sl)=[⟨38,[],.string ((bk l).extract (j+1) (bk l).size)⟩,⟨37,[],.int .i64 (((j:Nat):Int)+1)⟩,⟨36,[],.int .i64 ((j:Nat):Int)⟩,⟨35,[],.string (bk l)⟩,⟨0,[],.string (bk l)⟩,⟨3,[],.int .i64 ((j:Nat):Int)⟩,⟨34,[],.bool (G4 ((bk l).extract j (bk l).size) (ByteArray.mk #[46]))⟩]:=(by rw [toNatJ]); exact Eq.trans kr hz) ?_)
     refine H4 Tryz.func127 (jdigits_ l (j+1) (by omega) _ _) (B0 [0] [0,3,5] (k:=?_))
     refine A0 (A1 ?_)
     refine A1 (B7 (E':=[⟨0,[],.string (bk l)⟩,⟨3,[],.int .i64 ((j:Nat):Int)⟩,⟨5,[],.int .i64 (digs (l.drop (j+1)):Int)⟩,⟨41,[],.bool ((digs (l.drop (j+1)):Int)==0)⟩]) [0,0] [0,3,5,41] (k:=?_))
     refine A0 (B2 (b:=(digs (l.drop (j+1)):Int)==0) kr (fun hc7=>?_) (fun hc7=>?_))
     ·
      simp only [beq_iff_eq] at hc7
      have hz:=hc7
      refine A1 (B7 (E':=[⟨2,[],.int .i64 0⟩]) [0] [2] (k:=?_))
      refine A0 (B5 ?_)
      refine A3 (N_joinRet ?_)
      refine A3 (B6 [.tmp 2] [.int .i64 0] (k:=?_))
      exact ⟨congrArg (fun n:Nat=>Value.int .i64 (n:Int)) (num_frac hI (frac_bad hd (by omega))).symm,rfl⟩
     ·
      simp only [beq_eq_false_iff_ne,ne_eq] at hc7
      have hz:=hc7
      have hjlt:=get_lt hd (by decide)
      obtain ⟨k,hjk⟩:∃ k:Nat,k=j+1+digs (l.drop (j+1)):=⟨_,rfl⟩
      have hkle:=J7 l (k:=j+1) (by omega)
      rw [← hjk] at hkle
      refine A8 (A0 ?_)
      refine A2 (A4 (j:=3) [0,0,0] (k:=?_))
      refine D5 44 (1+(digs (l.drop (j+1)):Int)) (by omega) (by omega) kr ?_
      have hw9:IntKind.wrap .i64 (((j:Nat):Int)+(1+(digs (l.drop (j+1)):Int)))=((j:Nat):Int)+(1+(digs (l.drop (j+1)):Int)):=w64 (by omega) (by omega)
      refine C0 (E':=[⟨45,[],.int .i64 (((j:Nat):Int)+(1+(digs (l.drop (j+1)):Int)))⟩,⟨0,[],.string (bk l)⟩,⟨3,[],.int .i64 ((j:Nat):Int)⟩]) [0] (Eq.trans (b:=some [⟨45,[],.int .i64 (IntKind.wrap .i64 (((j:Nat):Int)+(1+(digs (l.drop (j+1)):Int))))⟩,⟨0,[],.string (bk l)⟩,⟨3,[],.int .i64 ((j:Nat):Int)⟩]) kr (by simp only [hw9])) (j:=4) rfl (C4 (E':=[⟨45,[],.int .i64 ((k:Nat):Int)⟩,⟨0,[],.string (bk l)⟩,⟨3,[],.int .i64 ((j:Nat):Int)⟩]) (by rw [show ((j:Nat):Int)+(1+(digs (l.drop (j+1)):Int))=((k:Nat):Int) by omega]) ?_)
      refine B0 [0] [0,3] (k:=N_joinR (k) [0,3] kr (fun w h=>h) ⟨(by first | exact (frac_no hd).symm | exact hjk.trans (frac_ok hd (by omega)).symm),(by omega),(by omega)⟩)
    ·
     have hd:¬ l.getD j 0=46:=fun hn=>(K6 _ _).1 hc5 (by rw [L9]; exact (take_get (by decide)).2 hn)
     refine A8 (N_joinR (j) [0,3] kr (fun w h=>h) ⟨(by first | exact (frac_no hd).symm | exact hjk.trans (frac_ok hd (by omega)).symm),(by omega),(by omega)⟩)
   ·
    rintro k ⟨hk,hk0,hkl⟩
    refine A0 (A1 ?_)
    refine A1 (A2 ?_)
    refine A4 (j:=7) [0,0,0,0,0,0,0] (k:=E4 (ch:=[(50,true)]) (s:=(bk l)) (kd:=.i64) (j:=((k:Nat):Int)) (hb:=(fun hc=>by have hg0:=I5 (t:=50) (c:=[]) (b:=decide (((k:Nat):Int)<((bk l).size:Int))) hc kr; (try simp at hg0); omega)) (k:=?_))
    have hb10:=D4 (bk l) ((k:Nat):Int)
    refine A4 (j:=12) [0,0,0,0] (k:=E4 (ch:=[(55,false),(50,true)]) (s:=(bk l)) (kd:=.i64) (j:=((k:Nat):Int)) (hb:=(fun hc=>by have hg0:=I5 (t:=55) (c:=[(50,true)]) (b:=(A7 (bk l) ((k:Nat):Int))==101) hc kr; have hg1:=I5 (t:=50) (c:=[]) (b:=decide (((k:Nat):Int)<((bk l).size:Int))) (chB_tl hc) kr; (try simp at hg0 hg1); omega)) (k:=?_))
    have hb11:=D4 (bk l) ((k:Nat):Int)
    refine B0 [0,5,6] [0,3,61] (k:=A0 ?_)
    refine B2 (b:=(decide (((k:Nat):Int)<((bk l).size:Int)))&&(((A7 (bk l) ((k:Nat):Int))==101)||((A7 (bk l) ((k:Nat):Int))==69))) kr (fun hc12=>?_) (fun hc12=>?_)
    ·
     simp only [Bool.and_eq_true,Bool.or_eq_true,decide_eq_true_eq,beq_iff_eq,L6,u101,u69] at hc12
     have hz:=hc12
     refine A1 ?_
     have hw13:IntKind.wrap .i64 (((k:Nat):Int)+1)=((k:Nat):Int)+1:=w64 (by omega) (by omega)
     refine A2 (C0 (E':=[⟨63,[],.int .i64 (((k:Nat):Int)+1)⟩,⟨0,[],.string (bk l)⟩]) [0,0] (Eq.trans (b:=some [⟨63,[],.int .i64 (IntKind.wrap .i64 (((k:Nat):Int)+1))⟩,⟨0,[],.string (bk l)⟩]) kr (by simp only [hw13])) (j:=2) rfl ?_)
     refine C4 (E':=[⟨63,[],.int .i64 ((k+1:Nat):Int)⟩,⟨0,[],.string (bk l)⟩]) (by rw [show ((k:Nat):Int)+1=((k+1:Nat):Int) by omega]) (B0 [0] [0,6] (k:=?_))
     refine A0 (A1 ?_)
     refine A1 (A2 ?_)
     refine A4 (j:=7) [0,0,0,0,0,0,0] (k:=E4 (ch:=[(68,true)]) (s:=(bk l)) (kd:=.i64) (j:=((k+1:Nat):Int)) (hb:=(fun hc=>by have hg0:=I5 (t:=68) (c:=[]) (b:=decide (((k+1:Nat):Int)<((bk l).size:Int))) hc kr; (try simp at hg0); omega)) (k:=?_))
     have hb14:=D4 (bk l) ((k+1:Nat):Int)
     refine A4 (j:=12) [0,0,0,0] (k:=E4 (ch:=[(73,false),(68,true)]) (s:=(bk l)) (kd:=.i64) (j:=((k+1:Nat):Int)) (hb:=(fun hc=>by have hg0:=I5 (t:=73) (c:=[(68,true)]) (b:=(A7 (bk l) ((k+1:Nat):Int))==43) hc kr; have hg1:=I5 (t:=68) (c:=[]) (b:=decide (((k+1:Nat):Int)<((bk l).size:Int))) (chB_tl hc) kr; (try simp at hg0 hg1); omega)) (k:=?_))
     have hb15:=D4 (bk l) ((k+1:Nat):Int)
     refine B0 [0,5,6] [0,6,79] (k:=A0 ?_)
     refine G_join (T:=Nat) (fun ξ:Nat=>[⟨0,[],.string (bk l)⟩,⟨6,[],.int .i64 ((ξ:Nat):Int)⟩]) (fun ξ:Nat=>H) (fun ξ:Nat=>(ξ=sgn2 l (k+1))∧(ξ≤l.length)) ?_ ?_
     ·
      refine B2 (b:=(decide (((k+1:Nat):Int)<((bk l).size:Int)))&&(((A7 (bk l) ((k+1:Nat):Int))==43)||((A7 (bk l) ((k+1:Nat):Int))==45))) kr (fun hc16=>?_) (fun hc16=>?_)
      ·
       simp only [Bool.and_eq_true,Bool.or_eq_true,decide_eq_true_eq,beq_iff_eq,L6,u45,u43] at hc16
       have h5:=hc16
       have hw17:IntKind.wrap .i64 (((k+1:Nat):Int)+1)=((k+1:Nat):Int)+1:=w64 (by omega) (by omega)
       refine A2 (C0 (E':=[⟨81,[],.int .i64 (((k+1:Nat):Int)+1)⟩,⟨0,[],.string (bk l)⟩,⟨6,[],.int .i64 ((k+1:Nat):Int)⟩]) [0,0] (Eq.trans (b:=some [⟨81,[],.int .i64 (IntKind.wrap .i64 (((k+1:Nat):Int)+1))⟩,⟨0,[],.string (bk l)⟩,⟨6,[],.int .i64 ((k+1:Nat):Int)⟩]) kr (by simp only [hw17])) (j:=2) rfl ?_)
       refine C4 (E':=[⟨81,[],.int .i64 ((k+2:Nat):Int)⟩,⟨0,[],.string (bk l)⟩,⟨6,[],.int .i64 ((k+1:Nat):Int)⟩]) (by rw [show ((k+1:Nat):Int)+1=((k+2:Nat):Int) by omega]) (B0 [0] [0,6] (k:=?_))
       refine K4 (k+2) [0,6] kr (fun w h=>h) ⟨(by first | exact (sgn2_yes h5.2).symm | exact (sgn2_no (by rcases h5 with h | h; exact .inl (by omega); exact .inr (by rintro (h1 | h1); exact h.1 h1; exact h.2 h1))).symm),(by omega)⟩
      ·
       simp only [Bool.and_eq_false_iff,Bool.or_eq_false_iff,decide_eq_false_iff_not,beq_eq_false_iff_ne,ne_eq,L6,u45,u43] at hc16
       have h5:=hc16
       refine A8 (K4 (k+1) [0,6] kr (fun w h=>h) ⟨(by first | exact (sgn2_yes h5.2).symm | exact (sgn2_no (by rcases h5 with h | h; exact .inl (by omega); exact .inr (by rintro (h1 | h1); exact h.1 h1; exact h.2 h1))).symm),(by omega)⟩)
     ·
      rintro m ⟨hm2,hml⟩
      refine A0 (A1 ?_)
      refine A2 (A4 (j:=2) [0,0] (k:=?_))
      refine F6 (ch:=[]) (s:=(bk l)) (vl:=(some (.int .i64 ((m:Nat):Int)))) (vh:=none) (l:=((m:Nat):Int)) (h:=((bk l).size:Int)) (hb:=(fun _=>by omega)) (k:=H4 Tryz.func127 (jdigits_ l m (by omega) _ _) ?_)
      refine B0 [0] [6,7] (k:=A0 ?_)
      refine A1 (A1 ?_)
      refine G_p [0,0] [6,7,87] (k:=A0 ?_)
      refine B2 (b:=(digs (l.drop m):Int)==0) kr (fun hc18=>?_) (fun hc18=>?_)
      ·
       simp only [beq_iff_eq] at hc18
       have h6:=hc18
       refine A1 (B7 (E':=[⟨2,[],.int .i64 0⟩]) [0] [2] (k:=?_))
       refine A0 (B5 ?_)
       refine A3 (A3 ?_)
       refine B6 [.tmp 2] [.int .i64 0] (k:=?_)
       exact ⟨congrArg (fun n:Nat=>Value.int .i64 (n:Int)) ((num_exp hI hj0 hk hk0).trans (exp_bad hz.2 hm2 (by omega))).symm,rfl⟩
      ·
       simp only [beq_eq_false_iff_ne,ne_eq] at hc18
       obtain ⟨n,hn⟩:∃ n:Nat,n=m+digs (l.drop m):=⟨_,rfl⟩
       have hnl:=J7 l hml
       rw [← hn] at hnl
       have h6:=hc18
       refine A8 (A0 ?_)
       have hw19:IntKind.wrap .i64 (((m:Nat):Int)+(digs (l.drop m):Int))=((m:Nat):Int)+(digs (l.drop m):Int):=w64 (by omega) (by omega)
       refine A2 (C0 (E':=[⟨90,[],.int .i64 (((m:Nat):Int)+(digs (l.drop m):Int))⟩]) [0,0,0] (Eq.trans (b:=some [⟨90,[],.int .i64 (IntKind.wrap .i64 (((m:Nat):Int)+(digs (l.drop m):Int)))⟩]) kr (by simp only [hw19])) (j:=3) rfl ?_)
       refine C4 (E':=[⟨90,[],.int .i64 ((n:Nat):Int)⟩]) (by rw [show ((m:Nat):Int)+(digs (l.drop m):Int)=((n:Nat):Int) by omega]) (B1 (E':=[⟨3,[],.int .i64 ((n:Nat):Int)⟩]) [0] [3] (k:=?_))
       refine A0 (A1 ?_)
       refine B7 (E':=[⟨2,[],.int .i64 ((n:Nat):Int)⟩]) [0,0] [2] (k:=A0 ?_)
       refine B5 (B6 [.tmp 2] [.int .i64 ((n:Nat):Int)] (k:=?_))
       exact ⟨congrArg (fun n:Nat=>Value.int .i64 (n:Int)) ((num_exp hI hj0 hk hk0).trans ((exp_ok hz.2 hm2 (by omega)).trans hn.symm)).symm,rfl⟩
    ·
     simp only [Bool.and_eq_false_iff,Bool.or_eq_false_iff,decide_eq_false_iff_not,beq_eq_false_iff_ne,ne_eq,L6,u101,u69] at hc12
     have hz:=hc12
     refine A8 (A0 ?_)
     refine A1 (B7 (E':=[⟨2,[],.int .i64 ((k:Nat):Int)⟩]) [0,0] [2] (k:=?_))
     refine A0 (B5 ?_)
     refine B6 [.tmp 2] [.int .i64 ((k:Nat):Int)] (k:=?_)
     exact ⟨congrArg (fun n:Nat=>Value.int .i64 (n:Int)) ((num_exp hI hj0 hk hk0).trans (exp_no (by rcases hz with h | h; exact .inl (by omega); exact .inr (by rintro (h1 | h1); exact h.1 h1; exact h.2 h1)))).symm,rfl⟩
end Go.Proofs.YtppgfiklmfoaeaaGreatDoor
namespace Go.Proofs.YtppgfiklmfoaeaaGreatDoor
open Go.Sw Go.Sha Go.Esc Go.RowKit
theorem sz_drop (s:ByteArray) (k:Nat):(s.extract k s.size).size=s.size - k:=by rw [ByteArray.size_extract,Nat.min_self]
theorem w32i {x:Int} (h0:0≤x) (h1:x≤2147483647):IntKind.wrap .i32 x=x:=by
  have e:∀ y,IntKind.wrap .i32 y=if y % 4294967296<2147483648 then y % 4294967296 else y % 4294967296 - 4294967296:=by intro y; first | rfl | (simp [IntKind.wrap,IntKind.bits,IntKind.signed]; split <;> split <;> omega)
  rw [e]; split <;> omega
end Go.Proofs.YtppgfiklmfoaeaaGreatDoor
namespace Go.Proofs.YtppgfiklmfoaeaaGreatDoor
open Go.Sw Go.Sha Go.Esc Go.RowKit
theorem shl10 {x:Int} (h0:0≤x) (h1:x≤1000000):IntKind.wrap .i64 (x * 2 ^ 10)=x * 1024:=by
  rw [show (2:Int) ^ 10=1024 by decide]; exact w64 (by omega) (by omega)
theorem unit_ (s:ByteArray) (hs:s.size≤1000000000000) (W0:World) (H:List Grp) (hW:F2 W0):Tri Tryz.prog 175 #[.string s] W0 H (fun v H'=>v=.int .i64 (G9 s.data.toList)∧H'=H):=by
 refine C6 (args:=[.string s]) (n:=28) Tryz.func175 rfl rfl (Nat.le_of_ble_eq_true rfl) ?_
 refine A1 (B7 (E':=[⟨0,[],.string s⟩]) [0] [0] (k:=?_))
 refine A0 (A1 ?_)
 refine A1 (A2 ?_)
 refine A4 (j:=5) [0,0,0,0,0] (k:=E4 (ch:=[(8,false)]) (s:=s) (kd:=.i64) (j:=0) (hb:=(fun hc=>by have hg0:=I5 (t:=8) (c:=[]) (b:=decide ((s.size:Int)<6)) hc kr; (try simp at hg0); omega)) (k:=?_))
 have hb1:=D4 s 0
 refine A4 (j:=10) [0,5,0,0] (k:=E4 (ch:=[(13,false)]) (s:=s) (kd:=.i64) (j:=1) (hb:=(fun hc=>by have hg0:=I5 (t:=13) (c:=[]) (b:=(decide ((s.size:Int)<6))||((A7 s 0) != 92)) hc kr; (try simp at hg0); omega)) (k:=?_))
 have hb2:=D4 s 1
 refine B0 [0,5] [0,17] (k:=A0 ?_)
 refine B2 (b:=((decide ((s.size:Int)<6))||((A7 s 0) != 92))||((A7 s 1) != 117)) kr (fun hc3=>?_) (fun hc3=>?_)
 ·
  simp only [Bool.or_eq_true,decide_eq_true_eq,bne_iff_ne,ne_eq] at hc3
  refine A1 (B7 (E':=[⟨2,[],.int .i64 (-1)⟩]) [0] [2] (k:=?_))
  refine A0 (B5 ?_)
  refine A3 (B6 [.tmp 2] [.int .i64 (-1)] (k:=?_))
  exact ⟨congrArg (Value.int .i64) (unit_no (by omega)).symm,rfl⟩
 ·
  simp only [Bool.or_eq_false_iff,decide_eq_false_iff_not,bne_eq_false_iff_eq] at hc3
  obtain ⟨⟨hc1,hc2⟩,hc3⟩:=hc3
  refine A8 (A0 ?_)
  refine A1 (A2 ?_)
  refine A4 (j:=1) [0] (k:=F6 (ch:=[]) (s:=s) (vl:=(some (.int .i64 2))) (vh:=(some (.int .i64 6))) (l:=2) (h:=6) (hb:=(by omega)) (k:=?_))
  have hz:(s.extract 2 6).size=4:=by rw [ByteArray.size_extract]; omega
  refine D8 Tryz.func191 (parse16_ (s.extract 2 6) (by omega) (by omega) _ _ hW) ?_
  rintro _ _ ⟨⟨n,hV,hn0,hn1,rfl⟩ | ⟨hV,N,rfl⟩,rfl⟩
  ·
   have hp:=pow16 (show (s.extract 2 6).size≤7 by omega)
   refine B0 [0,0,0,0,0] [3,4] (k:=A0 ?_)
   refine A1 (A1 ?_)
   refine A2 (A4 (j:=1) [0] (k:=?_))
   refine GL_ifNil (ch:=[]) (v:=.nilIface) (e:=true) true (hv:=.inl ⟨rfl,rfl⟩) (k:=B0 [] [3,25] (k:=?_))
   refine A0 (C2 kr ?_)
   refine A8 (A0 ?_)
   refine A1 (A2 ?_)
   refine A4 (j:=2) [0,0] (k:=D5 27 n (by omega) (by omega) kr ?_)
   refine B1 (E':=[⟨2,[],.int .i64 n⟩]) [0] [2] (k:=A0 ?_)
   refine B5 (B6 [.tmp 2] [.int .i64 n] (k:=?_))
   exact ⟨congrArg (Value.int .i64) (by rw [unit_yes (by omega) hc2 hc3,hV]; rfl),rfl⟩
  ·
   refine B0 [0,0,0,0,0] [3,4] (k:=A0 ?_)
   refine A1 (A1 ?_)
   refine A2 (A4 (j:=1) [0] (k:=?_))
   refine GL_ifNil (ch:=[]) (v:=.iface 272 (pt N)) (e:=false) true (hv:=.inr ⟨⟨_,_,rfl⟩,rfl⟩) (k:=B0 [] [3,25] (k:=?_))
   refine A0 (E8 kr ?_)
   refine A1 (B7 (E':=[⟨2,[],.int .i64 (-1)⟩]) [0] [2] (k:=?_))
   refine A0 (B5 ?_)
   refine A3 (B6 [.tmp 2] [.int .i64 (-1)] (k:=?_))
   exact ⟨congrArg (Value.int .i64) (by rw [unit_yes (by omega) hc2 hc3,hV]; rfl),rfl⟩
theorem escape_ (s:ByteArray) (hs:s.size≤1000000000000) (W0:World) (H:List Grp) (hW:F2 W0):Tri Tryz.prog 156 #[.string s] W0 H (fun v H'=>v=.tuple #[.int .i64 (G2 s.data.toList).1,.int .i64 ((G2 s.data.toList).2:Int)]∧H'=H):=by
 refine C6 (args:=[.string s]) (n:=51) Tryz.func156 rfl rfl (Nat.le_of_ble_eq_true rfl) ?_
 refine A1 (B7 (E':=[⟨0,[],.string s⟩]) [0,0] [0] (k:=?_))
 refine A0 (A1 ?_)
 refine A1 (G_p [0,0,0] [0,9] (k:=?_))
 refine A0 (B2 (b:=decide ((s.size:Int)<2)) kr (fun hc1=>?_) (fun hc1=>?_))
 ·
  simp only [decide_eq_true_eq] at hc1
  refine A1 (G_p [0,0] [2,3] (k:=?_))
  refine A0 (B5 ?_)
  refine A3 (B6 [.tmp 2,.tmp 3] [.int .i64 (-1),.int .i64 0] (k:=?_))
  exact ⟨by rw [show G2 s.data.toList=(-1,0) from by unfold G2; rw [if_pos (by rw [E0]; omega)]]; rfl,rfl⟩
 ·
  simp only [decide_eq_false_iff_not] at hc1
  obtain ⟨b,hb⟩:∃ b:UInt8,b=s.data.toList.getD 1 0:=⟨_,rfl⟩
  have hbyte:A7 s 1=(b.toNat:Int):=by rw [byte1,hb]
  have h8:=one_at b
  refine A8 (A0 ?_)
  refine A1 (A1 ?_)
  refine A2 (A4 (j:=1) [0] (k:=?_))
  refine E4 (ch:=[]) (s:=s) (kd:=.i64) (j:=1) (hb:=(fun _=>by omega)) (k:=?_)
  have hb2:=D4 s 1
  refine C4 (E':=[⟨11,[],.int .u8 (b.toNat:Int)⟩,⟨10,[],.string s⟩,⟨0,[],.string s⟩,⟨9,[],.bool (decide ((s.size:Int)<2))⟩]) (by have hz:([⟨11,[],.int .u8 (A7 s 1)⟩,⟨10,[],.string s⟩,⟨0,[],.string s⟩,⟨9,[],.bool (decide ((s.size:Int)<2))⟩]:List Sl)=[⟨11,[],.int .u8 (b.toNat:Int)⟩,⟨10,[],.string s⟩,⟨0,[],.string s⟩,⟨9,[],.bool (decide ((s.size:Int)<2))⟩]:=(by rw [hbyte]); exact Eq.trans kr hz) (H4 Tryz.func168 (idx_ (ByteArray.mk #[34,92,47,98,102,110,114,116]) (b.toNat:Int) _ _) ?_)
  refine B0 [0] [0,4] (k:=A0 ?_)
  refine A1 (G_p [0,0] [0,4,14] (k:=?_))
  refine A0 (B2 (b:=decide ((bIdx (ByteArray.mk #[34,92,47,98,102,110,114,116]) (b.toNat:Int)) ≥ 0)) kr (fun hc3=>?_) (fun hc3=>?_))
  ·
   simp only [decide_eq_true_eq,ge_iff_le] at hc3
   have h9:=h8.2.1 hc3
   refine A1 (A2 ?_)
   refine A4 (j:=1) [0] (k:=E4 (ch:=[]) (s:=(ByteArray.mk #[34,92,47,8,12,10,13,9])) (kd:=.i64) (j:=bIdx (ByteArray.mk #[34,92,47,98,102,110,114,116]) (b.toNat:Int)) (hb:=(by intro _; exact ⟨by omega,by show _<(8:Int); omega⟩)) (k:=?_))
   have hb4:=D4 (ByteArray.mk #[34,92,47,8,12,10,13,9]) (bIdx (ByteArray.mk #[34,92,47,98,102,110,114,116]) (b.toNat:Int))
   refine A4 (j:=3) [0] (k:=D5 17 (A7 (ByteArray.mk #[34,92,47,8,12,10,13,9]) (bIdx (ByteArray.mk #[34,92,47,98,102,110,114,116]) (b.toNat:Int))) (by omega) (by omega) kr ?_)
   refine B0 [0,0] [2,3] (k:=A0 ?_)
   refine B5 (A3 ?_)
   refine B6 [.tmp 2,.tmp 3] [.int .i64 (A7 (ByteArray.mk #[34,92,47,8,12,10,13,9]) (bIdx (ByteArray.mk #[34,92,47,98,102,110,114,116]) (b.toNat:Int))),.int .i64 2] (k:=?_)
   exact ⟨by rw [show G2 s.data.toList=(O9 b,2) from by unfold G2; rw [if_neg (by rw [E0]; omega),← hb,if_pos h9.2],h9.1]; rfl,rfl⟩
  ·
   simp only [decide_eq_false_iff_not,ge_iff_le] at hc3
   have h9:=h8.2.2 hc3
   refine A8 (A0 ?_)
   refine A1 (A2 ?_)
   refine A4 (j:=1) [0] (k:=D8 Tryz.func175 (unit_ s (by (try simp only [ByteArray.size_extract]); omega) _ _ hW) ?_)
   rintro _ _ ⟨rfl,rfl⟩
   have hu133:=unitM_rng s.data.toList
   refine B0 [0] [0,5] (k:=A0 ?_)
   refine A1 (B9 ?_)
   refine A1 (G_p [0,0,0,0,0,6,0] [0,5,20] (k:=?_))
   refine A0 (B2 (b:=(decide ((G9 s.data.toList) ≥ 55296))&&(decide ((G9 s.data.toList)<56320))) kr (fun hc6=>?_) (fun hc6=>?_))
   ·
    simp only [Bool.and_eq_true,decide_eq_true_eq,ge_iff_le] at hc6
    have hl6:=unitM_len (l:=s.data.toList) (by omega)
    rw [E0] at hl6
    refine A1 (A2 ?_)
    refine A4 (j:=1) [0] (k:=F6 (ch:=[]) (s:=s) (vl:=(some (.int .i64 6))) (vh:=none) (l:=6) (h:=(s.size:Int)) (hb:=(fun _=>by omega)) (k:=?_))
    refine D8 Tryz.func175 (unit_ (s.extract 6 s.size) (by (try simp only [ByteArray.size_extract]); omega) _ _ hW) ?_
    rintro _ _ ⟨rfl,rfl⟩
    have hu136:=unitM_rng (s.extract 6 s.size).data.toList
    refine B1 (E':=[⟨5,[],.int .i64 (G9 s.data.toList)⟩,⟨6,[],.int .i64 (G9 (s.extract 6 s.size).data.toList)⟩]) [0] [5,6] (k:=A0 ?_)
    refine A1 (A1 ?_)
    refine G_p [0,0,0,0,0,5] [5,6,35] (k:=A0 ?_)
    refine B2 (b:=(decide ((G9 (s.extract 6 s.size).data.toList)<56320))||(decide ((G9 (s.extract 6 s.size).data.toList) > 57343))) kr (fun hc7=>?_) (fun hc7=>?_)
    ·
     simp only [Bool.or_eq_true,decide_eq_true_eq,gt_iff_lt] at hc7
     refine A1 (G_p [0,0] [2,3] (k:=?_))
     refine A0 (B5 ?_)
     refine A3 (B4 ?_)
     refine A3 (B6 [.tmp 2,.tmp 3] [.int .i64 (-1),.int .i64 0] (k:=?_))
     exact ⟨by rw [show G2 s.data.toList=(-1,0) from by unfold G2; rw [if_neg (by rw [E0]; omega),← hb,if_neg (by omega),if_pos (by omega),← L9,if_pos (by omega)]]; rfl,rfl⟩
    ·
     simp only [Bool.or_eq_false_iff,decide_eq_false_iff_not,gt_iff_lt] at hc7
     refine A8 (A0 ?_)
     refine A1 (A2 ?_)
     refine A4 (j:=2) [0,0] (k:=D5 37 ((G9 s.data.toList) - 55296) (by omega) (by omega) kr ?_)
     refine C0 (E':=[⟨38,[],.int .i64 (IntKind.wrap .i64 (((G9 s.data.toList) - 55296) * 2 ^ 10))⟩,⟨6,[],.int .i64 (G9 (s.extract 6 s.size).data.toList)⟩]) (j:=3) [0] (k:=C4 (E':=[⟨38,[],.int .i64 (((G9 s.data.toList) - 55296) * 1024)⟩,⟨6,[],.int .i64 (G9 (s.extract 6 s.size).data.toList)⟩]) (by rw [shl10 (by omega) (by omega)]) ?_)
     refine A4 (j:=4) [0] (k:=D5 39 (65536+(((G9 s.data.toList) - 55296) * 1024)) (by omega) (by omega) kr ?_)
     refine A4 (j:=6) [0,0] (k:=D5 41 ((65536+(((G9 s.data.toList) - 55296) * 1024))+(G9 (s.extract 6 s.size).data.toList)) (by omega) (by omega) kr ?_)
     refine A4 (j:=7) [0] (k:=D5 42 (((65536+(((G9 s.data.toList) - 55296) * 1024))+(G9 (s.extract 6 s.size).data.toList)) - 56320) (by omega) (by omega) kr ?_)
     refine B0 [0,0] [2,3] (k:=A0 ?_)
     refine B5 (B4 ?_)
     refine A3 (B6 [.tmp 2,.tmp 3] [.int .i64 (((65536+(((G9 s.data.toList) - 55296) * 1024))+(G9 (s.extract 6 s.size).data.toList)) - 56320),.int .i64 12] (k:=?_))
     exact ⟨by rw [show G2 s.data.toList=(65536+((G9 s.data.toList) - 55296) * 1024+G9 (s.extract 6 s.size).data.toList - 56320,12) from by unfold G2; rw [if_neg (by rw [E0]; omega),← hb,if_neg (by omega),if_pos (by omega),← L9,if_neg (by omega)]]; rfl,rfl⟩
   ·
    simp only [Bool.and_eq_false_iff,decide_eq_false_iff_not,ge_iff_le] at hc6
    refine A1 (B7 (E':=[⟨5,[],.int .i64 (G9 s.data.toList)⟩,⟨43,[],.bool ((decide ((G9 s.data.toList) ≥ 56320))&&(decide ((G9 s.data.toList)<57344)))⟩]) [0,0,0,0,0,6,0] [5,43] (k:=?_))
    refine A0 (B2 (b:=(decide ((G9 s.data.toList) ≥ 56320))&&(decide ((G9 s.data.toList)<57344))) kr (fun hc12=>?_) (fun hc12=>?_))
    ·
     simp only [Bool.and_eq_true,decide_eq_true_eq,ge_iff_le] at hc12
     refine A1 (G_p [0,0] [2,3] (k:=?_))
     refine A0 (B5 ?_)
     refine B4 (A3 ?_)
     refine B6 [.tmp 2,.tmp 3] [.int .i64 (-1),.int .i64 0] (k:=?_)
     exact ⟨by rw [show G2 s.data.toList=(-1,0) from by unfold G2; rw [if_neg (by rw [E0]; omega),← hb,if_neg (by omega),if_neg (by omega),if_pos (by omega)]]; rfl,rfl⟩
    ·
     simp only [Bool.and_eq_false_iff,decide_eq_false_iff_not,ge_iff_le] at hc12
     refine A8 (B8 ?_)
     refine A0 (A1 ?_)
     refine G_p [0,0,0] [2,3] (k:=A0 ?_)
     refine B5 (B6 [.tmp 2,.tmp 3] [.int .i64 (G9 s.data.toList),.int .i64 6] (k:=?_))
     exact ⟨by rw [show G2 s.data.toList=((G9 s.data.toList),6) from by unfold G2; rw [if_neg (by rw [E0]; omega),← hb,if_neg (by omega),if_neg (by omega),if_neg (by omega)]]; rfl,rfl⟩
theorem valid_ (s:ByteArray) (hs:s.size≤1000000000000) (W0:World) (H:List Grp) (hW:F2 W0):Tri Tryz.prog 59 #[.string s] W0 H (fun v H'=>v=.bool (D2 s.data.toList)∧H'=H):=by
 refine C6 (args:=[.string s]) (n:=5) Tryz.func59 rfl rfl (Nat.le_of_ble_eq_true rfl) ?_
 refine A1 (B7 (E':=[⟨0,[],.string s⟩]) [0] [0] (k:=?_))
 refine A0 (A1 ?_)
 refine A2 (A4 (j:=1) [0] (k:=?_))
 refine D8 Tryz.func97 (validStr s (by omega) _ _ hW) ?_
 rintro _ _ ⟨rfl,rfl⟩
 refine B1 (E':=[⟨2,[],.bool (D2 s.data.toList)⟩]) [0] [2] (k:=A0 ?_)
 refine B5 (B6 [.tmp 2] [.bool (D2 s.data.toList)] (k:=?_))
 exact ⟨rfl,rfl⟩
theorem unjson_ (s:ByteArray) (hs:s.size≤10000000000) (W0:World) (H:List Grp) (hW:F2 W0):Tri Tryz.prog 126 #[.string s] W0 H (fun v H'=>v=unjV (unjM s.data.toList)∧H'=H):=by
 refine C6 (args:=[.string s]) (n:=67) Tryz.func126 rfl rfl (Nat.le_of_ble_eq_true rfl) ?_
 refine A1 (B7 (E':=[⟨0,[],.string s⟩]) [0,0] [0] (k:=?_))
 refine A0 (A1 ?_)
 refine A1 (A2 ?_)
 refine A4 (j:=5) [0,0,0,0,0] (k:=E4 (ch:=[(11,false)]) (s:=s) (kd:=.i64) (j:=0) (hb:=(fun hc=>by have hg0:=I5 (t:=11) (c:=[]) (b:=decide ((s.size:Int)<2)) hc kr; (try simp at hg0); omega)) (k:=?_))
 have hb1:=D4 s 0
 have hw2:IntKind.wrap .i64 ((s.size:Int) - 1)=(s.size:Int) - 1:=w64 (by omega) (by omega)
 refine C0 (E':=[⟨20,[(16,false)],.int .i64 ((s.size:Int) - 1)⟩,⟨17,[(16,false)],.string s⟩,⟨16,[],.bool ((decide ((s.size:Int)<2))||((A7 s 0) != 34))⟩,⟨0,[],.string s⟩]) [0,5,0,0,0,0,0] (Eq.trans (b:=some [⟨20,[(16,false)],.int .i64 (IntKind.wrap .i64 ((s.size:Int) - 1))⟩,⟨17,[(16,false)],.string s⟩,⟨16,[],.bool ((decide ((s.size:Int)<2))||((A7 s 0) != 34))⟩,⟨0,[],.string s⟩]) kr (by simp only [hw2])) (j:=13) rfl (E4 (ch:=[(16,false)]) (s:=s) (kd:=.i64) (j:=(s.size:Int) - 1) (hb:=(fun hc=>by have hg0:=I5 (t:=16) (c:=[]) (b:=(decide ((s.size:Int)<2))||((A7 s 0) != 34)) hc kr; (try simp at hg0); omega)) (k:=?_))
 have hb3:=D4 s ((s.size:Int) - 1)
 refine A4 (j:=18) [0,5,0,0] (k:=F7 (ch:=[(24,false)]) (f:=59) (fst:=#[]) (caps:=#[]) (vs:=[.string s]) (v:=.bool (D2 s.data.toList)) (hf:=Tryz.func59) (hc:=(fun hc=>valid_ s (by omega) _ _ hW)) (k:=?_))
 refine B0 [0,5] [0,28] (k:=A0 ?_)
 refine B2 (b:=(((decide ((s.size:Int)<2))||((A7 s 0) != 34))||((A7 s ((s.size:Int) - 1)) != 34))||(!(D2 s.data.toList))) kr (fun hc4=>?_) (fun hc4=>?_)
 ·
  simp only [Bool.or_eq_true,Bool.not_eq_true',decide_eq_true_eq,bne_iff_ne,ne_eq] at hc4
  refine A1 (G_p [0,0] [2,3] (k:=?_))
  refine A0 (B5 ?_)
  refine A3 (B6 [.tmp 2,.tmp 3] [.string (ByteArray.mk #[]),.int .i64 20] (k:=?_))
  exact ⟨by rw [unj_no (by assumption)]; rfl,rfl⟩
 ·
  simp only [Bool.or_eq_false_iff,Bool.not_eq_false',decide_eq_false_iff_not,bne_eq_false_iff_eq] at hc4
  obtain ⟨⟨⟨hq1,hq2⟩,hq3⟩,hq4⟩:=hc4
  have hU0:=unj_yes hq1 hq2 hq3 hq4
  refine A8 (A0 ?_)
  refine A1 (A2 ?_)
  refine A4 (j:=4) [0,0,0,0] (k:=D5 32 ((s.size:Int) - 1) (by omega) (by omega) kr ?_)
  refine F6 (ch:=[]) (s:=s) (vl:=(some (.int .i64 1))) (vh:=(some (.int .i64 ((s.size:Int) - 1)))) (l:=1) (h:=(s.size:Int) - 1) (hb:=(fun _=>by omega)) (k:=B0 [0] [0] (k:=?_))
  refine A0 (A1 ?_)
  refine A2 (F5 (ch:=[]) (z:=.agg #[.pointer none,.slice none 0 0]) (k:=(fun b6=>?_)))
  refine J3 rfl (H':=([(b6,.cells #[.pointer none,.slice none 0 0] 87 (0,0))]::[]::H)) (fun w h=>h.flat (List.Perm.refl _)) (B0 [] [0,4] (k:=?_))
  refine A0 (A1 ?_)
  refine B9 (I6 (EI:=(fun ξ:Value × Value × Grp × ByteArray × ByteArray=>[⟨0,[],.string ξ.2.2.2.2⟩,⟨4,[],pt b6⟩])) (HI:=(fun ξ:Value × Value × Grp × ByteArray × ByteArray=>([(b6,.cells #[ξ.1,ξ.2.1] 87 (0,0))]::ξ.2.2.1::H))) (Φ:=(fun ξ:Value × Value × Grp × ByteArray × ByteArray=>(Bld b6 ξ.1)∧(O8 ξ.2.1 ξ.2.2.1 ξ.2.2.2.1)∧(ξ.2.2.2.2.size≤s.size)∧(ξ.2.2.2.1.size+4 * ξ.2.2.2.2.size≤4 * s.size)∧(unjM s.data.toList=(ujL ξ.2.2.2.2.data.toList).map (ξ.2.2.2.1.data.toList++·)))) (μ:=(fun ξ:Value × Value × Grp × ByteArray × ByteArray=>ξ.2.2.2.2.size)) (s0:=(.pointer none,.slice none 0 0,[],.empty,(s.extract 1 (Int.toNat (((s.size:Nat):Int) - 1))))) [0,4] kr rfl ⟨bld0,bown0,(by show (s.extract 1 _).size≤_; rw [ByteArray.size_extract]; omega),(by show 0+4 * (s.extract 1 _).size≤_; rw [ByteArray.size_extract]; omega),(by exact hU0)⟩ ?_)
  rintro ⟨p,v,g,t,sv⟩ ⟨hbp,hB,hz,hts,hT⟩
  dsimp only at hbp hB hz hts hT
  refine A1 (A1 ?_)
  refine G_p [0,0,0] [0,4,36] (k:=A0 ?_)
  refine B2 (b:=decide ((sv.size:Int) > 0)) kr (fun hc7=>?_) (fun hc7=>?_)
  ·
   simp only [decide_eq_true_eq,gt_iff_lt] at hc7
   have hpos:0<sv.size:=by omega
   obtain ⟨b,hb⟩:∃ b:UInt8,b=sv.data.toList.getD 0 0:=⟨_,rfl⟩
   have hbyte:A7 sv 0=(b.toNat:Int):=by rw [byte0,hb]
   refine A8 (A0 ?_)
   refine B9 (A1 ?_)
   refine A2 (A4 (j:=1) [0] (k:=?_))
   refine E4 (ch:=[]) (s:=sv) (kd:=.i64) (j:=0) (hb:=(fun _=>by omega)) (k:=?_)
   have hb8:=D4 sv 0
   refine C4 (E':=[⟨38,[],.int .u8 (b.toNat:Int)⟩,⟨37,[],.string sv⟩,⟨0,[],.string sv⟩,⟨4,[],pt b6⟩,⟨36,[],.bool (decide ((sv.size:Int) > 0))⟩]) (by have hz:([⟨38,[],.int .u8 (A7 sv 0)⟩,⟨37,[],.string sv⟩,⟨0,[],.string sv⟩,⟨4,[],pt b6⟩,⟨36,[],.bool (decide ((sv.size:Int) > 0))⟩]:List Sl)=[⟨38,[],.int .u8 (b.toNat:Int)⟩,⟨37,[],.string sv⟩,⟨0,[],.string sv⟩,⟨4,[],pt b6⟩,⟨36,[],.bool (decide ((sv.size:Int) > 0))⟩]:=(by rw [hbyte]); exact Eq.trans kr hz) (B0 [0] [0,4,5] (k:=?_))
   refine A0 (B9 ?_)
   refine A1 (G_p [0,0,0,0,0,5,0] [0,4,5,52] (k:=?_))
   refine A0 (B2 (b:=(decide ((b.toNat:Int)<32))||((b.toNat:Int)==34)) kr (fun hc9=>?_) (fun hc9=>?_))
   ·
    simp only [Bool.or_eq_true,decide_eq_true_eq,beq_iff_eq] at hc9
    refine A1 (G_p [0,0] [2,3] (k:=?_))
    refine A0 (B5 ?_)
    refine B4 (B4 ?_)
    refine A3 (B4 ?_)
    refine A3 (C1 (H':=H) (fun w h=>((h.erase 1).erase 0)) ?_)
    refine B6 [.tmp 2,.tmp 3] [.string (ByteArray.mk #[]),.int .i64 20] (k:=?_)
    exact ⟨by rw [hT,ujA hpos hb (by omega)]; rfl,rfl⟩
   ·
    simp only [Bool.or_eq_false_iff,decide_eq_false_iff_not,beq_eq_false_iff_ne,ne_eq] at hc9
    have hno:¬ ((b.toNat:Int)<32∨(b.toNat:Int)=34):=by omega
    refine A1 (G_p [0,0,0] [0,4,5,59] (k:=?_))
    refine A0 (B2 (b:=(b.toNat:Int) != 92) kr (fun hc10=>?_) (fun hc10=>?_))
    ·
     simp only [bne_iff_ne,ne_eq] at hc10
     have hne:=hc10
     refine A1 (A2 ?_)
     refine A4 (j:=1) [0] (k:=D8 Tryz.func92 (J6 b6 (p) (v) g t b hbp hB (by omega) _ _) ?_)
     rintro _ _ ⟨v11,g12,hB13,rfl⟩
     refine B1 (E':=[⟨0,[],.string sv⟩,⟨4,[],pt b6⟩]) [] [0,4] (k:=A0 ?_)
     refine A2 (A4 (j:=1) [0] (k:=?_))
     refine F6 (ch:=[]) (s:=sv) (vl:=(some (.int .i64 1))) (vh:=none) (l:=1) (h:=(sv.size:Int)) (hb:=(fun _=>by omega)) (k:=B0 [0] [0,4] (k:=?_))
     refine B8 (B8 ?_)
     refine E6 (s':=(pt b6,v11,g12,(t++⟨#[b]⟩),sv.extract 1 sv.size)) [0,4] kr rfl ⟨bld1,hB13,(by dsimp only; rw [sz_drop]; omega),(by dsimp only; simp only [F3,sz1]; have h3:=sz_drop sv 1; omega),(by dsimp only; rw [hT,ujB hpos hb hno hne,map_one (c:=(t++⟨#[b]⟩).data.toList) (D9 _ _)])⟩ (by dsimp only; rw [sz_drop]; omega)
    ·
     simp only [bne_eq_false_iff_eq] at hc10
     have he92:=hc10
     refine A1 (A2 ?_)
     refine A4 (j:=1) [0] (k:=D8 Tryz.func156 (escape_ sv (by omega) _ _ hW) ?_)
     rintro _ _ ⟨rfl,rfl⟩
     refine B0 [0,0,0,0,0] [0,4,6,7] (k:=A0 ?_)
     refine A1 (A1 ?_)
     refine B7 (E':=[⟨0,[],.string sv⟩,⟨4,[],pt b6⟩,⟨6,[],.int .i64 ((G2 sv.data.toList).1)⟩,⟨7,[],.int .i64 ((G2 sv.data.toList).2:Int)⟩,⟨45,[],.bool (decide (((G2 sv.data.toList).1)<0))⟩]) [0,0] [0,4,6,7,45] (k:=A0 ?_)
     refine B2 (b:=decide (((G2 sv.data.toList).1)<0)) kr (fun hc14=>?_) (fun hc14=>?_)
     ·
      simp only [decide_eq_true_eq] at hc14
      refine A1 (G_p [0,0] [2,3] (k:=?_))
      refine A0 (B5 ?_)
      refine A3 (B4 ?_)
      refine B4 (A3 ?_)
      refine B4 (A3 ?_)
      refine C1 (H':=H) (fun w h=>((h.erase 1).erase 0)) (B6 [.tmp 2,.tmp 3] [.string (ByteArray.mk #[]),.int .i64 20] (k:=?_))
      exact ⟨by rw [hT,(ujC hpos hb he92).1 (by omega)]; rfl,rfl⟩
     ·
      simp only [decide_eq_false_iff_not] at hc14
      have hep:=escM_pos (l:=sv.data.toList) (by omega)
      have hep2:=hep.2.1
      rw [E0] at hep2
      have hri:=hep.2.2
      unfold isR at hri
      refine A8 (A0 ?_)
      refine A1 (A2 ?_)
      refine C0 (E':=[⟨47,[],.int .i32 (IntKind.wrap .i32 ((G2 sv.data.toList).1))⟩,⟨0,[],.string sv⟩,⟨4,[],pt b6⟩,⟨7,[],.int .i64 ((G2 sv.data.toList).2:Int)⟩]) (j:=2) [0,0] (k:=C4 (E':=[⟨47,[],.int .i32 ((G2 sv.data.toList).1)⟩,⟨0,[],.string sv⟩,⟨4,[],pt b6⟩,⟨7,[],.int .i64 ((G2 sv.data.toList).2:Int)⟩]) (by rw [w32i (by omega) (by omega)]) ?_)
      refine D8 Tryz.func136 (writeRune b6 (p) (v) g t ((G2 sv.data.toList).1) hbp hB hep.2.2 (by omega) _ _) ?_
      rintro _ _ ⟨v15,g16,hB17,rfl⟩
      refine B0 [] [0,4,7] (k:=A0 ?_)
      refine A2 (A4 (j:=2) [0,0] (k:=?_))
      refine F6 (ch:=[]) (s:=sv) (vl:=(some (.int .i64 ((G2 sv.data.toList).2:Int)))) (vh:=none) (l:=((G2 sv.data.toList).2:Int)) (h:=(sv.size:Int)) (hb:=(fun _=>by omega)) (k:=C4 (E':=[⟨51,[],.string (sv.extract (G2 sv.data.toList).2 sv.size)⟩,⟨50,[],.int .i64 ((G2 sv.data.toList).2:Int)⟩,⟨49,[],.string sv⟩,⟨0,[],.string sv⟩,⟨4,[],pt b6⟩,⟨7,[],.int .i64 ((G2 sv.data.toList).2:Int)⟩]) (by have hz:([⟨51,[],.string (sv.extract (Int.toNat ((G2 sv.data.toList).2:Int)) sv.size)⟩,⟨50,[],.int .i64 ((G2 sv.data.toList).2:Int)⟩,⟨49,[],.string sv⟩,⟨0,[],.string sv⟩,⟨4,[],pt b6⟩,⟨7,[],.int .i64 ((G2 sv.data.toList).2:Int)⟩]:List Sl)=[⟨51,[],.string (sv.extract (G2 sv.data.toList).2 sv.size)⟩,⟨50,[],.int .i64 ((G2 sv.data.toList).2:Int)⟩,⟨49,[],.string sv⟩,⟨0,[],.string sv⟩,⟨4,[],pt b6⟩,⟨7,[],.int .i64 ((G2 sv.data.toList).2:Int)⟩]:=(by rw [Int.toNat_natCast]); exact Eq.trans kr hz) ?_)
      refine B0 [0] [0,4] (k:=B8 ?_)
      refine B8 (E6 (s':=(pt b6,v15,g16,(t++encB ((G2 sv.data.toList).1)),sv.extract (G2 sv.data.toList).2 sv.size)) [0,4] kr rfl ⟨bld1,hB17,(by dsimp only; rw [sz_drop]; omega),(by dsimp only; simp only [F3]; have h3:=sz_drop sv (G2 sv.data.toList).2; have h4:=encB_size (G2 sv.data.toList).1; omega),(by dsimp only; rw [hT,(ujC hpos hb he92).2 (by omega),map_app (c:=(t++encB (G2 sv.data.toList).1).data.toList) (by rw [D9,J5])])⟩ (by dsimp only; rw [sz_drop]; omega))
  ·
   simp only [decide_eq_false_iff_not,gt_iff_lt] at hc7
   refine G3 (A9 ?_)
   refine A9 (C5 ?_)
   refine A0 (A1 ?_)
   refine A2 (D8 Tryz.func53 (Q9 b6 (p) (v) g t hB (by omega) _ _) ?_)
   rintro _ _ ⟨rfl,rfl⟩
   refine B0 [0,0] [2,3] (k:=A0 ?_)
   refine B5 (C1 (H':=H) (fun w h=>(h.erase 0)) ?_)
   refine B6 [.tmp 2,.tmp 3] [.string t,.int .i64 0] (k:=?_)
   exact ⟨by rw [hT,List.eq_nil_of_length_eq_zero (show sv.data.toList.length=0 by rw [E0]; omega),ujL_nil]; show _=unjV (some (t.data.toList++[])); rw [List.append_nil]; rfl,rfl⟩
end Go.Proofs.YtppgfiklmfoaeaaGreatDoor
namespace Go.Proofs.YtppgfiklmfoaeaaGreatDoor
open Go.Sw Go.Sha Go.Esc Go.RowKit Go.Json
theorem unj_cases {l:List UInt8} {v:Value} {H1 H:List Grp} (h:v=unjV (unjM l)∧H1=H):((∃ t,unjM l=some t∧v=.tuple #[.string (bk t),.int .i64 0])∨(unjM l=none∧v=.tuple #[.string (ByteArray.mk #[]),.int .i64 20]))∧H1=H:=by
  refine ⟨?_,h.2⟩
  have h1:=h.1
  cases hq:unjM l with
  | none=>rw [hq] at h1; exact .inr ⟨rfl,h1⟩
  | some t=>rw [hq] at h1; exact .inl ⟨t,rfl,h1⟩
theorem rdG_flt (r:Nat) (n:Int) (l l2:List UInt8) (e:Int):rdG r (l2,(P6 n (l,e)).2)=rdG r (P6 n (l2,e)):=rfl
theorem jtext_ (r:Nat) (q:RdS) (hl:q.1.length≤1000000) (W0:World) (H:List Grp) (hW:F2 W0):Tri Tryz.prog 80 #[pt r] W0 ([(r,.cells #[.string (bk q.1),.int .i64 q.2] 78 (0,0))]::H) (fun v H'=>v=.string (bk (C8 q).1)∧H'=rdG r (C8 q).2::H):=by
  have hbz:=C3 q.1
  refine C6 (args:=[pt r]) (n:=76) Tryz.func80 rfl rfl (Nat.le_of_ble_eq_true rfl) ?_
  refine A1 (B7 (E':=[⟨0,[],pt r⟩]) [0] [0] (k:=?_))
  refine A0 (A1 ?_)
  refine B7 (E':=[⟨0,[],pt r⟩,⟨3,[],.int .i64 1⟩]) [0] [0,3] (k:=A0 ?_)
  refine A1 (B9 ?_)
  refine I6 (EI:=(fun ξ:Nat=>[⟨0,[],pt r⟩,⟨3,[],.int .i64 ((ξ:Nat):Int)⟩])) (HI:=(fun ξ:Nat=>([(r,.cells #[.string (bk q.1),.int .i64 q.2] 78 (0,0))]::H))) (Φ:=(fun ξ:Nat=>(1≤ξ)∧(ξ≤q.1.length+2)∧(1+qL (q.1.drop 1)=ξ+qL (q.1.drop ξ)))) (μ:=(fun ξ:Nat=>q.1.length+2 - ξ)) (s0:=(1)) [0,3] kr rfl ⟨(Nat.le_refl _),(Nat.le_add_left _ _),rfl⟩ ?_
  rintro e ⟨he1,hel,hT⟩
  refine A1 (A1 ?_)
  refine A2 (A4 (j:=4) [0,0,0,0] (k:=?_))
  refine A5 (ch:=[]) (b:=r) (off:=0) (v:=.string (bk q.1)) (hA:=At.grp 0 0 rfl rfl) (k:=A4 (j:=11) [0,0,0,0,0,0] (k:=?_))
  refine A5 (ch:=[(13,true)]) (b:=r) (off:=0) (v:=.string (bk q.1)) (hA:=At.grp 0 0 rfl rfl) (k:=A4 (j:=13) [0] (k:=?_))
  refine E4 (ch:=[(13,true)]) (s:=(bk q.1)) (kd:=.i64) (j:=((e:Nat):Int)) (hb:=(fun hc=>by have hg0:=I5 (t:=13) (c:=[]) (b:=decide (((e:Nat):Int)<((bk q.1).size:Int))) hc kr; (try simp at hg0); omega)) (k:=?_)
  have hb1:=D4 (bk q.1) ((e:Nat):Int)
  refine B0 [0,6] [0,3,21] (k:=A0 ?_)
  refine B2 (b:=(decide (((e:Nat):Int)<((bk q.1).size:Int)))&&((A7 (bk q.1) ((e:Nat):Int)) != 34)) kr (fun hc2=>?_) (fun hc2=>?_)
  ·
    simp only [Bool.and_eq_true,decide_eq_true_eq,bne_iff_ne,ne_eq,L6,u34] at hc2
    have h1:=hc2
    refine A8 (A0 ?_)
    refine B9 (A1 ?_)
    refine A1 (A2 ?_)
    refine A4 (j:=3) [0,0,0] (k:=A5 (ch:=[]) (b:=r) (off:=0) (v:=.string (bk q.1)) (hA:=At.grp 0 0 rfl rfl) (k:=?_))
    refine A4 (j:=5) [0] (k:=E4 (ch:=[]) (s:=(bk q.1)) (kd:=.i64) (j:=((e:Nat):Int)) (hb:=(fun _=>by omega)) (k:=?_))
    have hb3:=D4 (bk q.1) ((e:Nat):Int)
    refine B0 [0] [0,3,28] (k:=A0 ?_)
    refine B2 (b:=(A7 (bk q.1) ((e:Nat):Int))==92) kr (fun hc4=>?_) (fun hc4=>?_)
    ·
      simp only [beq_iff_eq,L6,u92] at hc4
      have h2:=hc4
      have hw5:IntKind.wrap .i64 (((e:Nat):Int)+1)=((e:Nat):Int)+1:=w64 (by omega) (by omega)
      refine A2 (C0 (E':=[⟨30,[],.int .i64 (((e:Nat):Int)+1)⟩,⟨0,[],pt r⟩,⟨3,[],.int .i64 ((e:Nat):Int)⟩]) [0,0] (Eq.trans (b:=some [⟨30,[],.int .i64 (IntKind.wrap .i64 (((e:Nat):Int)+1))⟩,⟨0,[],pt r⟩,⟨3,[],.int .i64 ((e:Nat):Int)⟩]) kr (by simp only [hw5])) (j:=2) rfl ?_)
      refine C4 (E':=[⟨30,[],.int .i64 ((e+1:Nat):Int)⟩,⟨0,[],pt r⟩,⟨3,[],.int .i64 ((e:Nat):Int)⟩]) (by rw [show ((e:Nat):Int)+1=((e+1:Nat):Int) by omega]) (B0 [0] [0,3] (k:=?_))
      refine A0 ?_
      have hw6:IntKind.wrap .i64 (((e+1:Nat):Int)+1)=((e+1:Nat):Int)+1:=w64 (by omega) (by omega)
      refine A2 (C0 (E':=[⟨32,[],.int .i64 (((e+1:Nat):Int)+1)⟩,⟨0,[],pt r⟩,⟨3,[],.int .i64 ((e+1:Nat):Int)⟩]) [0,0] (Eq.trans (b:=some [⟨32,[],.int .i64 (IntKind.wrap .i64 (((e+1:Nat):Int)+1))⟩,⟨0,[],pt r⟩,⟨3,[],.int .i64 ((e+1:Nat):Int)⟩]) kr (by simp only [hw6])) (j:=2) rfl ?_)
      refine C4 (E':=[⟨32,[],.int .i64 ((e+2:Nat):Int)⟩,⟨0,[],pt r⟩,⟨3,[],.int .i64 ((e+1:Nat):Int)⟩]) (by rw [show ((e+1:Nat):Int)+1=((e+2:Nat):Int) by omega]) (B0 [0] [0,3] (k:=?_))
      refine B8 (E6 (s':=(e+2)) [0,3] kr rfl ⟨(by (try dsimp only); omega),(by (try dsimp only); omega),(by (try dsimp only); first | (rw [hT,qL_two (by omega) h2]; omega) | (rw [hT,qL_one (by omega) (by first | exact h1.2 | (rcases h1 with ⟨h1,h1b⟩; exact h1b)) h2]; omega))⟩ (by (try dsimp only); omega))
    ·
      simp only [beq_eq_false_iff_ne,ne_eq,L6,u92] at hc4
      have h2:=hc4
      refine A8 (A0 ?_)
      have hw7:IntKind.wrap .i64 (((e:Nat):Int)+1)=((e:Nat):Int)+1:=w64 (by omega) (by omega)
      refine A2 (C0 (E':=[⟨32,[],.int .i64 (((e:Nat):Int)+1)⟩,⟨0,[],pt r⟩,⟨3,[],.int .i64 ((e:Nat):Int)⟩]) [0,0] (Eq.trans (b:=some [⟨32,[],.int .i64 (IntKind.wrap .i64 (((e:Nat):Int)+1))⟩,⟨0,[],pt r⟩,⟨3,[],.int .i64 ((e:Nat):Int)⟩]) kr (by simp only [hw7])) (j:=2) rfl ?_)
      refine C4 (E':=[⟨32,[],.int .i64 ((e+1:Nat):Int)⟩,⟨0,[],pt r⟩,⟨3,[],.int .i64 ((e:Nat):Int)⟩]) (by rw [show ((e:Nat):Int)+1=((e+1:Nat):Int) by omega]) (B0 [0] [0,3] (k:=?_))
      refine B8 (E6 (s':=(e+1)) [0,3] kr rfl ⟨(by (try dsimp only); omega),(by (try dsimp only); omega),(by (try dsimp only); first | (rw [hT,qL_two (by omega) h2]; omega) | (rw [hT,qL_one (by omega) (by first | exact h1.2 | (rcases h1 with ⟨h1,h1b⟩; exact h1b)) h2]; omega))⟩ (by (try dsimp only); omega))
  ·
    simp only [Bool.and_eq_false_iff,decide_eq_false_iff_not,bne_eq_false_iff_eq,L6,u34] at hc2
    have h1:=hc2
    have hE:1+qL (q.1.drop 1)=e:=by
      rw [hT]
      rcases h1 with h | h
      · rw [qL_out (by omega)]; omega
      · rcases Nat.lt_or_ge e q.1.length with h3 | h3
        · rw [qL_quote h3 h]; omega
        · rw [qL_out h3]; omega
    refine G3 (A9 ?_)
    refine A9 (C5 ?_)
    refine A0 (A1 ?_)
    refine A1 (A2 ?_)
    refine A4 (j:=4) [0,0,0,0] (k:=A5 (ch:=[]) (b:=r) (off:=0) (v:=.string (bk q.1)) (hA:=At.grp 0 0 rfl rfl) (k:=?_))
    refine A4 (j:=11) [0,0,0,0,0,0] (k:=A5 (ch:=[(40,false)]) (b:=r) (off:=0) (v:=.string (bk q.1)) (hA:=At.grp 0 0 rfl rfl) (k:=?_))
    refine E4 (ch:=[(40,false)]) (s:=(bk q.1)) (kd:=.i64) (j:=0) (hb:=(fun hc=>by have hg0:=I5 (t:=40) (c:=[]) (b:=decide (((e:Nat):Int) ≥ ((bk q.1).size:Int))) hc kr; (try simp at hg0); omega)) (k:=?_)
    have hb8:=D4 (bk q.1) 0
    refine B0 [0,5] [0,3,47] (k:=A0 ?_)
    refine B2 (b:=(decide (((e:Nat):Int) ≥ ((bk q.1).size:Int)))||((A7 (bk q.1) 0) != 34)) kr (fun hc9=>?_) (fun hc9=>?_)
    ·
      simp only [Bool.or_eq_true,decide_eq_true_eq,bne_iff_ne,ne_eq,ge_iff_le,I3,u34] at hc9
      have hz:=hc9
      refine A1 (A2 ?_)
      refine A4 (j:=1) [0] (k:=D8 Tryz.func48 (jfault_ r q 70 _ _) ?_)
      rintro _ _ rfl
      refine B1 (E':=[]) [] [] (k:=A0 ?_)
      refine A1 (B7 (E':=[⟨2,[],.string (ByteArray.mk #[])⟩]) [0] [2] (k:=?_))
      refine A0 (B5 ?_)
      refine A3 (B6 [.tmp 2] [.string (ByteArray.mk #[])] (k:=?_))
      exact ⟨by rw [textR_no hE (by rcases hz with h | h; exact .inl (by omega); exact .inr h)]; rfl,by rw [textR_no hE (by rcases hz with h | h; exact .inl (by omega); exact .inr h)]⟩
    ·
      simp only [Bool.or_eq_false_iff,decide_eq_false_iff_not,bne_eq_false_iff_eq,ge_iff_le,I3,u34] at hc9
      have hz:=hc9
      refine A8 (A0 ?_)
      refine A1 (A2 ?_)
      refine A4 (j:=3) [0,0,0] (k:=A5 (ch:=[]) (b:=r) (off:=0) (v:=.string (bk q.1)) (hA:=At.grp 0 0 rfl rfl) (k:=?_))
      refine A4 (j:=6) [0,0] (k:=D5 56 (((e:Nat):Int)+1) (by omega) (by omega) kr ?_)
      refine F6 (ch:=[]) (s:=(bk q.1)) (vl:=none) (vh:=(some (.int .i64 (((e:Nat):Int)+1)))) (l:=0) (h:=((e:Nat):Int)+1) (hb:=(fun _=>by omega)) (k:=C4 (E':=[⟨57,[],.string ((bk q.1).extract 0 (e+1))⟩,⟨56,[],.int .i64 (((e:Nat):Int)+1)⟩,⟨55,[],.int .i64 ((e:Nat):Int)⟩,⟨54,[],.string (bk q.1)⟩,⟨53,[],pt r⟩,⟨52,[],pt r⟩,⟨51,[],pt r⟩,⟨0,[],pt r⟩,⟨3,[],.int .i64 ((e:Nat):Int)⟩,⟨47,[],.bool ((decide (((e:Nat):Int) ≥ ((bk q.1).size:Int)))||((A7 (bk q.1) 0) != 34))⟩]) (by have hz:([⟨57,[],.string ((bk q.1).extract 0 (Int.toNat (((e:Nat):Int)+1)))⟩,⟨56,[],.int .i64 (((e:Nat):Int)+1)⟩,⟨55,[],.int .i64 ((e:Nat):Int)⟩,⟨54,[],.string (bk q.1)⟩,⟨53,[],pt r⟩,⟨52,[],pt r⟩,⟨51,[],pt r⟩,⟨0,[],pt r⟩,⟨3,[],.int .i64 ((e:Nat):Int)⟩,⟨47,[],.bool ((decide (((e:Nat):Int) ≥ ((bk q.1).size:Int)))||((A7 (bk q.1) 0) != 34))⟩]:List Sl)=[⟨57,[],.string ((bk q.1).extract 0 (e+1))⟩,⟨56,[],.int .i64 (((e:Nat):Int)+1)⟩,⟨55,[],.int .i64 ((e:Nat):Int)⟩,⟨54,[],.string (bk q.1)⟩,⟨53,[],pt r⟩,⟨52,[],pt r⟩,⟨51,[],pt r⟩,⟨0,[],pt r⟩,⟨3,[],.int .i64 ((e:Nat):Int)⟩,⟨47,[],.bool ((decide (((e:Nat):Int) ≥ ((bk q.1).size:Int)))||((A7 (bk q.1) 0) != 34))⟩]:=(by rw [toNatJ]); exact Eq.trans kr hz) ?_)
      refine D8 (vs:=[.string ((bk q.1).extract 0 (e+1))]) Tryz.func126 ((Tri.post (unjson_ ((bk q.1).extract 0 (e+1)) (by rw [ext_bkT,C3,List.length_take]; omega) _ _ hW) fun v H1 h=>⟨H1,unj_cases h,fun _ h=>h⟩)) ?_
      rintro _ _ ⟨⟨t,hV,rfl⟩ | ⟨hV,rfl⟩,rfl⟩
      all_goals rw [ext_take] at hV
      ·
        refine B0 [0,0,0,0,0] [0,3,4,5] (k:=A0 ?_)
        refine A1 (A1 ?_)
        refine G_p [0,0] [0,3,4,62] (k:=A0 ?_)
        refine C2 kr (A8 ?_)
        refine A0 (A1 ?_)
        refine A2 (A4 (j:=4) [0,0,0,0] (k:=?_))
        refine A5 (ch:=[]) (b:=r) (off:=0) (v:=.string (bk q.1)) (hA:=At.grp 0 0 rfl rfl) (k:=A4 (j:=7) [0,0] (k:=?_))
        refine D5 71 (((e:Nat):Int)+1) (by omega) (by omega) kr (F6 (ch:=[]) (s:=(bk q.1)) (vl:=(some (.int .i64 (((e:Nat):Int)+1)))) (vh:=none) (l:=((e:Nat):Int)+1) (h:=((bk q.1).size:Int)) (hb:=(fun _=>by omega)) (k:=?_))
        refine C4 (E':=[⟨72,[],.string ((bk q.1).extract (e+1) (bk q.1).size)⟩,⟨71,[],.int .i64 (((e:Nat):Int)+1)⟩,⟨70,[],.int .i64 ((e:Nat):Int)⟩,⟨69,[],.string (bk q.1)⟩,⟨68,[],pt r⟩,⟨67,[],pt r⟩,⟨66,[],pt r⟩,⟨65,[],pt r⟩,⟨0,[],pt r⟩,⟨3,[],.int .i64 ((e:Nat):Int)⟩,⟨4,[],.string (bk t)⟩,⟨62,[],.bool false⟩]) (by have hz:([⟨72,[],.string ((bk q.1).extract (Int.toNat (((e:Nat):Int)+1)) (bk q.1).size)⟩,⟨71,[],.int .i64 (((e:Nat):Int)+1)⟩,⟨70,[],.int .i64 ((e:Nat):Int)⟩,⟨69,[],.string (bk q.1)⟩,⟨68,[],pt r⟩,⟨67,[],pt r⟩,⟨66,[],pt r⟩,⟨65,[],pt r⟩,⟨0,[],pt r⟩,⟨3,[],.int .i64 ((e:Nat):Int)⟩,⟨4,[],.string (bk t)⟩,⟨62,[],.bool false⟩]:List Sl)=[⟨72,[],.string ((bk q.1).extract (e+1) (bk q.1).size)⟩,⟨71,[],.int .i64 (((e:Nat):Int)+1)⟩,⟨70,[],.int .i64 ((e:Nat):Int)⟩,⟨69,[],.string (bk q.1)⟩,⟨68,[],pt r⟩,⟨67,[],pt r⟩,⟨66,[],pt r⟩,⟨65,[],pt r⟩,⟨0,[],pt r⟩,⟨3,[],.int .i64 ((e:Nat):Int)⟩,⟨4,[],.string (bk t)⟩,⟨62,[],.bool false⟩]:=(by rw [toNatJ]); exact Eq.trans kr hz) (A4 (j:=10) [0,0] (k:=?_))
        refine E9 (ch:=[]) (b:=r) (off:=0) (v:=.string ((bk q.1).extract (e+1) (bk q.1).size)) (j:=0) ([(r,.cells #[.string ((bk q.1).extract (e+1) (bk q.1).size),.int .i64 q.2] 78 (0,0))]::H) (hoff:=Nat.le_of_ble_eq_true rfl) (hfz:=(fun _ _=>E3)) (k:=B1 (E':=[⟨4,[],.string (bk t)⟩]) [] [4] (k:=?_))
        refine A0 (A1 ?_)
        refine B7 (E':=[⟨2,[],.string (bk t)⟩]) [0,0] [2] (k:=A0 ?_)
        refine B5 (B6 [.tmp 2] [.string (bk t)] (k:=?_))
        exact ⟨by rw [textR_some hE (by omega) hz.2 hV]; rfl,by rw [textR_some hE (by omega) hz.2 hV,ext_bk]; rfl⟩
      ·
        refine B0 [0,0,0,0,0] [0,3,4,5] (k:=A0 ?_)
        refine A1 (A1 ?_)
        refine G_p [0,0] [0,3,4,62] (k:=A0 ?_)
        refine E8 kr (A2 ?_)
        refine A4 (j:=1) [0] (k:=D8 Tryz.func48 (jfault_ r q 70 _ _) ?_)
        rintro _ _ rfl
        refine B0 [] [0,3,4] (k:=A0 ?_)
        refine A1 (A2 ?_)
        refine A4 (j:=4) [0,0,0,0] (k:=A5 (ch:=[]) (b:=r) (off:=0) (v:=.string (bk q.1)) (hA:=At.grp 0 0 rfl rfl) (k:=?_))
        refine A4 (j:=7) [0,0] (k:=D5 71 (((e:Nat):Int)+1) (by omega) (by omega) kr ?_)
        refine F6 (ch:=[]) (s:=(bk q.1)) (vl:=(some (.int .i64 (((e:Nat):Int)+1)))) (vh:=none) (l:=((e:Nat):Int)+1) (h:=((bk q.1).size:Int)) (hb:=(fun _=>by omega)) (k:=C4 (E':=[⟨72,[],.string ((bk q.1).extract (e+1) (bk q.1).size)⟩,⟨71,[],.int .i64 (((e:Nat):Int)+1)⟩,⟨70,[],.int .i64 ((e:Nat):Int)⟩,⟨69,[],.string (bk q.1)⟩,⟨68,[],pt r⟩,⟨67,[],pt r⟩,⟨66,[],pt r⟩,⟨65,[],pt r⟩,⟨0,[],pt r⟩,⟨3,[],.int .i64 ((e:Nat):Int)⟩,⟨4,[],.string (ByteArray.mk #[])⟩]) (by have hz:([⟨72,[],.string ((bk q.1).extract (Int.toNat (((e:Nat):Int)+1)) (bk q.1).size)⟩,⟨71,[],.int .i64 (((e:Nat):Int)+1)⟩,⟨70,[],.int .i64 ((e:Nat):Int)⟩,⟨69,[],.string (bk q.1)⟩,⟨68,[],pt r⟩,⟨67,[],pt r⟩,⟨66,[],pt r⟩,⟨65,[],pt r⟩,⟨0,[],pt r⟩,⟨3,[],.int .i64 ((e:Nat):Int)⟩,⟨4,[],.string (ByteArray.mk #[])⟩]:List Sl)=[⟨72,[],.string ((bk q.1).extract (e+1) (bk q.1).size)⟩,⟨71,[],.int .i64 (((e:Nat):Int)+1)⟩,⟨70,[],.int .i64 ((e:Nat):Int)⟩,⟨69,[],.string (bk q.1)⟩,⟨68,[],pt r⟩,⟨67,[],pt r⟩,⟨66,[],pt r⟩,⟨65,[],pt r⟩,⟨0,[],pt r⟩,⟨3,[],.int .i64 ((e:Nat):Int)⟩,⟨4,[],.string (ByteArray.mk #[])⟩]:=(by rw [toNatJ]); exact Eq.trans kr hz) ?_)
        refine A4 (j:=10) [0,0] (k:=E9 (ch:=[]) (b:=r) (off:=0) (v:=.string ((bk q.1).extract (e+1) (bk q.1).size)) (j:=0) ([(r,.cells #[.string ((bk q.1).extract (e+1) (bk q.1).size),.int .i64 ((P6 70 q).2)] 78 (0,0))]::H) (hoff:=Nat.le_of_ble_eq_true rfl) (hfz:=(fun _ _=>E3)) (k:=?_))
        refine B1 (E':=[⟨4,[],.string (ByteArray.mk #[])⟩]) [] [4] (k:=A0 ?_)
        refine A1 (B7 (E':=[⟨2,[],.string (ByteArray.mk #[])⟩]) [0,0] [2] (k:=?_))
        refine A0 (B5 ?_)
        refine B6 [.tmp 2] [.string (ByteArray.mk #[])] (k:=?_)
        exact ⟨by rw [textR_none hE (by omega) hz.2 hV]; rfl,by rw [textR_none hE (by omega) hz.2 hV,ext_bk]; exact congrArg (·::H) (rdG_flt _ _ _ _ _)⟩
end Go.Proofs.YtppgfiklmfoaeaaGreatDoor
namespace Go.Proofs.YtppgfiklmfoaeaaGreatDoor
open Go.Sw Go.Sha Go.Esc Go.RowKit Go.Json
theorem jmembersF_ (lv:Nat) (d:Int) (hd:0≤d∧d≤24) (r:Nat) (q:RdS) (hl:q.1.length≤1000000) (hval:∀ (q:RdS),q.1.length≤1000000→∀ (W0:World) (H:List Grp),F2 W0→Tri Tryz.prog 46 #[pt r,.int .i64 (d+1)] W0 (rdG r q::H) (fun v H2=>∃ c g,JRep 9 28 (C7 lv q).1 c g∧v=.agg c.toArray∧H2=rdG r (C7 lv q).2::g::H)) (W0:World) (H:List Grp) (hW:F2 W0):Tri Tryz.prog 79 #[pt r,.agg #[.int .i64 5,.string (ByteArray.mk #[]),.slice none 0 0,.slice none 0 0],.string (ByteArray.mk #[93]),.int .i64 d] W0 ([(r,.cells #[.string (bk q.1),.int .i64 q.2] 78 (0,0))]::H) (fun v H2=>∃ c g,JRep 9 28 (mbR (C7 lv) false q).1 c g∧v=.agg c.toArray∧H2=rdG r (mbR (C7 lv) false q).2::g::H):=by
 refine C6 (args:=[pt r,.agg #[.int .i64 5,.string (ByteArray.mk #[]),.slice none 0 0,.slice none 0 0],.string (ByteArray.mk #[93]),.int .i64 d]) (n:=61) Tryz.func79 rfl rfl (Nat.le_of_ble_eq_true rfl) ?_
 refine A1 (A2 ?_)
 refine G7 (ch:=[]) (v:=.agg #[.int .i64 5,.string (ByteArray.mk #[]),.slice none 0 0,.slice none 0 0]) (k:=(fun b1=>?_))
 refine F5 (ch:=[]) (z:=.agg #[.int .i64 0,.string (ByteArray.mk #[]),.slice none 0 0,.slice none 0 0]) (k:=(fun b2=>?_))
 refine B0 [] [0,2,3,5,8] (k:=A0 ?_)
 refine A1 (A2 ?_)
 refine A4 (j:=1) [0] (k:=J3 rfl (H':=([(r,.cells #[.string (bk q.1),.int .i64 q.2] 78 (0,0))]::[(b2,.cells #[.int .i64 0,.string (ByteArray.mk #[]),.slice none 0 0,.slice none 0 0] 28 (0,0))]::[(b1,.cells #[.int .i64 5,.string (ByteArray.mk #[]),.slice none 0 0,.slice none 0 0] 28 (0,0))]::H)) (fun w h=>(h.front (j:=2) rfl)) ?_)
 refine D8 Tryz.func47 (N8 r q  _ _) ?_
 rintro _ _ rfl
 refine B0 [] [0,2,3,5,8] (k:=A0 ?_)
 refine A1 (A1 ?_)
 refine A2 (A4 (j:=2) [0,0] (k:=?_))
 refine D8 Tryz.func78 (jtake_ r (B3 q) (ByteArray.mk #[93]) _ _) ?_
 rintro _ _ (⟨hk3,rfl,rfl⟩ | ⟨hk3,rfl,rfl⟩)
 ·
  have hk3:(B3 q).1.take 1=[93]:=hk3
  have hB:mbR (C7 lv) false q=_:=mbR_end (obj:=false) hk3
  refine B0 [] [0,2,3,5,8,13] (k:=A0 ?_)
  refine E8 kr (A1 ?_)
  refine A2 (D3 (ch:=[]) (b:=b1) (off:=0) (l:=[.int .i64 5,.string (ByteArray.mk #[]),.slice none 0 0,.slice none 0 0]) (hA:=At.grp 2 0 rfl rfl) (k:=?_))
  refine E9 (ch:=[]) (b:=b2) (off:=0) (v:=.agg #[.int .i64 5,.string (ByteArray.mk #[]),.slice none 0 0,.slice none 0 0]) (j:=1) ([(r,.cells #[.string (bk ((B3 q).1.drop 1,(B3 q).2).1),.int .i64 (((B3 q).1.drop 1,(B3 q).2).2)] 78 (0,0))]::[(b2,.cells #[.int .i64 5,.string (ByteArray.mk #[]),.slice none 0 0,.slice none 0 0] 28 (0,0))]::[(b1,.cells #[.int .i64 5,.string (ByteArray.mk #[]),.slice none 0 0,.slice none 0 0] 28 (0,0))]::H) (hoff:=Nat.le_of_ble_eq_true rfl) (hfz:=(fun _ _=>E3)) (k:=B1 (E':=[⟨8,[],pt b2⟩]) [] [8] (k:=?_))
  refine A0 (B5 ?_)
  refine A3 (C1 (H':=([(r,.cells #[.string (bk ((B3 q).1.drop 1,(B3 q).2).1),.int .i64 (((B3 q).1.drop 1,(B3 q).2).2)] 78 (0,0))]::[(b2,.cells #[.int .i64 5,.string (ByteArray.mk #[]),.slice none 0 0,.slice none 0 0] 28 (0,0))]::[]::H)) (fun w h=>Sat.flat (h.erase 2) (List.Perm.refl _)) ?_)
  refine L5 [.cell 8 28] [.agg #[.int .i64 5,.string (ByteArray.mk #[]),.slice none 0 0,.slice none 0 0]] rfl (.cons (.agg (b:=b2) (off:=0) (l:=[.int .i64 5,.string (ByteArray.mk #[]),.slice none 0 0,.slice none 0 0]) kr kr kr (At.grp 1 0 rfl rfl) kr) (.nil)) rfl ⟨([(r,.cells #[.string (bk ((B3 q).1.drop 1,(B3 q).2).1),.int .i64 (((B3 q).1.drop 1,(B3 q).2).2)] 78 (0,0))]::[]::H),?_,fun w h=>(h.erase 1)⟩
  rw [hB]; exact ⟨_,_,.mk (ns:=[]) (l:=[]) Go.Sw.Own.nil Go.Sw.Own.nil .nil,rfl,rfl⟩
 ·
  have hk3:¬ (B3 q).1.take 1=[93]:=hk3
  have hB0:¬ (blk q.1).take 1=[Q0 false]:=hk3
  refine B0 [] [0,2,3,5,8,13] (k:=A0 ?_)
  refine C2 kr (A8 ?_)
  refine A0 (A1 ?_)
  refine B9 (G_heap (H':=([(r,.cells #[.string (bk (B3 q).1),.int .i64 ((B3 q).2)] 78 (0,0))]::[(b1,.cells #[.int .i64 5,.string (ByteArray.mk #[]),.slice none 0 0,.slice none 0 0] 28 (0,0))]::[(b2,.cells #[.int .i64 0,.string (ByteArray.mk #[]),.slice none 0 0,.slice none 0 0] 28 (0,0))]::[]::[]::H)) (fun w h=>Sat.flat (((h.front (j:=1) rfl).front (j:=2) rfl).front (j:=2) rfl) (List.Perm.refl _)) ?_)
  refine I6 (EI:=(fun ξ:Nat × RdS × List JV × Nat × Option Addr × Nat × Grp × List Value × Grp=>[⟨0,[],pt r⟩,⟨2,[],.string (ByteArray.mk #[93])⟩,⟨3,[],.int .i64 d⟩,⟨5,[],pt b1⟩,⟨8,[],pt b2⟩])) (HI:=(fun ξ:Nat × RdS × List JV × Nat × Option Addr × Nat × Grp × List Value × Grp=>([(r,.cells #[.string (bk ξ.2.1.1),.int .i64 ξ.2.1.2] 78 (0,0))]::[(b1,.cells #[.int .i64 5,.string (ByteArray.mk #[]),.slice none 0 0,.slice ξ.2.2.2.2.1 ξ.2.2.2.1 ξ.2.2.2.2.2.1] 28 (0,0))]::[(b2,.cells #[.int .i64 0,.string (ByteArray.mk #[]),.slice none 0 0,.slice none 0 0] 28 (0,0))]::ξ.2.2.2.2.2.2.1::ξ.2.2.2.2.2.2.2.2::H))) (Φ:=(fun ξ:Nat × RdS × List JV × Nat × Option Addr × Nat × Grp × List Value × Grp=>(ξ.2.1.2=0→ξ.2.1.1.length<ξ.1)∧(memR (C7 lv) false ((blk q.1).length+1) [] [] (B3 q)=memR (C7 lv) false ξ.1 [] ξ.2.2.1 ξ.2.1)∧(Go.Sw.Own 28 4 (.slice ξ.2.2.2.2.1 ξ.2.2.2.1 ξ.2.2.2.2.2.1) ξ.2.2.2.2.2.2.1 ξ.2.2.2.1 ξ.2.2.2.2.2.2.2.1)∧(ξ.2.2.2.1=ξ.2.2.1.length)∧(JRepL 9 28 ξ.2.2.1 ξ.2.2.2.2.2.2.2.1 ξ.2.2.2.2.2.2.2.2)∧(ξ.2.2.2.1+ξ.1≤1000001))) (μ:=(fun ξ:Nat × RdS × List JV × Nat × Option Addr × Nat × Grp × List Value × Grp=>ξ.1)) (s0:=(((blk q.1).length+1),(B3 q),[],0,none,0,[],[],[])) [0,2,3,5,8] kr rfl ⟨(by intro _; show (blk q.1).length<_; omega),rfl,Go.Sw.Own.nil,rfl,.nil,(by show 0+_≤_; have:=J8 q.1; omega)⟩ ?_
  rintro ⟨n,q2,vs,nl,la,lc,gl,cs,gs⟩ ⟨hn,hT,hL,hnl,hP,hb⟩
  dsimp only at hn hT hL hnl hP hb
  refine A1 (A1 ?_)
  refine A2 (A4 (j:=3) [0,0,0] (k:=?_))
  refine A5 (ch:=[]) (b:=r) (off:=1) (v:=.int .i64 q2.2) (hA:=At.grp 0 0 rfl rfl) (k:=B0 [0] [0,2,3,5,8,19] (k:=?_))
  refine A0 (B2 (b:=q2.2==0) kr (fun hc4=>?_) (fun hc4=>?_))
  ·
   have hq0:q2.2=0:=by simpa using hc4
   have hnq:=hn hq0
   obtain ⟨m,rfl⟩:∃ m,n=m+1:=⟨n - 1,by omega⟩
   have hbl:=blkR_le q2
   refine A8 (A0 ?_)
   refine B9 (A1 ?_)
   refine A2 (A4 (j:=1) [0] (k:=?_))
   refine D8 Tryz.func47 (N8 r q2  _ _) ?_
   rintro _ _ rfl
   refine B0 [] [0,2,3,5,8] (k:=A0 ?_)
   refine A1 (A1 ?_)
   refine A2 (A4 (j:=1) [0] (k:=?_))
   refine A5 (ch:=[]) (b:=b1) (off:=0) (v:=.int .i64 5) (hA:=At.grp 1 0 rfl rfl) (k:=B0 [0] [0,2,3,5,8,24] (k:=?_))
   refine A0 (C2 kr ?_)
   refine A8 (A0 ?_)
   refine A1 (G_join (T:=Option Addr × Nat × Grp × List Value × Grp) (fun ξ:Option Addr × Nat × Grp × List Value × Grp=>[⟨0,[],pt r⟩,⟨2,[],.string (ByteArray.mk #[93])⟩,⟨3,[],.int .i64 d⟩,⟨5,[],pt b1⟩,⟨8,[],pt b2⟩]) (fun ξ:Option Addr × Nat × Grp × List Value × Grp=>([(r,.cells #[.string (bk ((C7 lv (B3 q2)).2).1),.int .i64 (((C7 lv (B3 q2)).2).2)] 78 (0,0))]::[(b1,.cells #[.int .i64 5,.string (ByteArray.mk #[]),.slice none 0 0,.slice ξ.1 (nl+1) ξ.2.1] 28 (0,0))]::[(b2,.cells #[.int .i64 0,.string (ByteArray.mk #[]),.slice none 0 0,.slice none 0 0] 28 (0,0))]::ξ.2.2.1::gs::ξ.2.2.2.2::H)) (fun ξ:Option Addr × Nat × Grp × List Value × Grp=>(Go.Sw.Own 28 4 (.slice ξ.1 (nl+1) ξ.2.1) ξ.2.2.1 (nl+1) (cs++ξ.2.2.2.1))∧(JRep 9 28 (C7 lv (B3 q2)).1 ξ.2.2.2.1 ξ.2.2.2.2)) ?_ ?_)
   ·
    refine P9 ([(b2,.cells #[.int .i64 0,.string (ByteArray.mk #[]),.slice none 0 0,.slice none 0 0] 28 (0,0))]::gs::H) kr (GH_p (fuel:=6) [(0,0),(2,0),(3,0),(4,0)] (fun w h=>(((h.erase 3).erase 1).erase 0)) (k:=?_))
    refine GH_wi 48 (d+1) (by omega) (by omega) kr (GH_eff2 1 5 (k:=?_) (k':=?_))
    ·
     refine A5 (ch:=[]) (b:=b1) (off:=3) (v:=.slice la nl lc) (hA:=At.grp 1 0 rfl rfl) (k:=F0 kr (fun w h=>(((h.erase 3).erase 1).erase 0)) ?_)
     refine H5 5 (k:=D8 Tryz.func46 (hval (B3 q2) (by omega) _ _ hW) ?_)
     rintro _ _ ⟨vc6,gv6,hJ6,rfl,rfl⟩
     obtain ⟨vk6,vt6,van6,vn6,vcn6,val6,vm6,vcl6,rfl⟩:=hJ6.shape
     refine F0 kr (fun w h=>((((h.erase 4).erase 2).erase 1).erase 0)) (M2 (gv6::[(b2,.cells #[.int .i64 0,.string (ByteArray.mk #[]),.slice none 0 0,.slice none 0 0] 28 (0,0))]::gs::H) (fun w h=>(h.erase 0)) ?_)
     refine H5 6 (k:=C9 (ch:=[]) (e:=28) (l:=[(0,.agg #[.int .i64 vk6,.string vt6,.slice van6 vn6 vcn6,.slice val6 vm6 vcl6])]) (c:=[.int .i64 vk6,.string vt6,.slice van6 vn6 vcn6,.slice val6 vm6 vcl6]) (k:=(fun b7=>?_)))
     refine F0 kr (fun w h=>((((h.erase 5).erase 3).erase 1).erase 0)) (M2 ([(b7,.cells #[.int .i64 vk6,.string vt6,.slice van6 vn6 vcn6,.slice val6 vm6 vcl6] 28 (0,0))]::gv6::[(b2,.cells #[.int .i64 0,.string (ByteArray.mk #[]),.slice none 0 0,.slice none 0 0] 28 (0,0))]::gs::H) (fun w h=>(h.erase 0)) ?_)
     refine H5 7 (k:=G0 (i:=7) (ch:=[]) (t:=26) (tx:=26) (e:=28) (inf:=Tryz.t28) (s:=.slice la nl lc) (x:=.slice (some ⟨b7,0,none⟩) 1 1) (n:=nl) (m:=1) (j:=5) (cs:=cs) (news:=[.int .i64 vk6,.string vt6,.slice van6 vn6 vcn6,.slice val6 vm6 vcl6]) (g:=gl) (S:=(inG [(b7,.cells #[.int .i64 vk6,.string vt6,.slice van6 vn6 vcn6,.slice val6 vm6 vcl6] 28 (0,0))])) rfl rfl rfl rfl kr kr kr rfl rfl (.inl ⟨28,kr⟩) (fun ⟨_,h⟩=>by cases h) (fun _=>⟨28,kr⟩) kr kr kr rfl hL (SrcOf.slice _ _ _ _ Rd.lit (fun h=>by cases h)) (F9 0 rfl) kr (by intro u hu; simp only [List.mem_cons,List.not_mem_nil,or_false] at hu; rcases hu with rfl | rfl | rfl | rfl <;> rfl) (by omega) (by show (nl+1) * 72≤140737488355328; omega) (fun v8 g9 hO10=>?_))
     obtain ⟨a11,cap12,rfl,hcap13,hrd14⟩:=hO10.shape
     refine F0 kr (fun w h=>(((h.erase 5).erase 3).erase 1)) (GH_p (fuel:=1) [(8,0)] (fun w h=>(((h.erase 5).erase 3).erase 1)) (k:=?_))
     refine H5 9 (k:=E9 (ch:=[]) (b:=b1) (off:=3) (v:=.slice a11 (nl+1) cap12) (j:=3) ([(b7,.cells #[.int .i64 vk6,.string vt6,.slice van6 vn6 vcn6,.slice val6 vm6 vcl6] 28 (0,0))]::[(r,.cells #[.string (bk ((C7 lv (B3 q2)).2).1),.int .i64 (((C7 lv (B3 q2)).2).2)] 78 (0,0))]::gv6::[(b1,.cells #[.int .i64 5,.string (ByteArray.mk #[]),.slice none 0 0,.slice a11 (nl+1) cap12] 28 (0,0))]::[(b2,.cells #[.int .i64 0,.string (ByteArray.mk #[]),.slice none 0 0,.slice none 0 0] 28 (0,0))]::g9::gs::H) (hoff:=Nat.le_of_ble_eq_true rfl) (hfz:=(fun _ _=>E3)) (k:=?_))
     refine F0 kr (fun w h=>(((h.erase 5).erase 3).erase 1)) (N3 (E':=[⟨0,[],pt r⟩,⟨2,[],.string (ByteArray.mk #[93])⟩,⟨3,[],.int .i64 d⟩,⟨5,[],pt b1⟩,⟨8,[],pt b2⟩]) [0,2,3,5,8] (k:=?_))
     refine K4 (a11,cap12,g9,[.int .i64 vk6,.string vt6,.slice van6 vn6 vcn6,.slice val6 vm6 vcl6],gv6) [0,2,3,5,8] kr (fun w h=>(((((((h.front (j:=2) rfl).front (j:=6) rfl).front (j:=6) rfl).front (j:=6) rfl).front (j:=6) rfl).front (j:=6) rfl).erase 6)) ⟨hO10,hJ6⟩
    ·
     refine D8 Tryz.func46 (hval (B3 q2) (by omega) _ _ hW) ?_
     rintro _ _ ⟨vc15,gv15,hJ15,rfl,rfl⟩
     obtain ⟨vk15,vt15,van15,vn15,vcn15,val15,vm15,vcl15,rfl⟩:=hJ15.shape
     refine F0 kr (fun w h=>((((h.erase 4).erase 2).erase 1).erase 0)) (M2 (gv15::[(b2,.cells #[.int .i64 0,.string (ByteArray.mk #[]),.slice none 0 0,.slice none 0 0] 28 (0,0))]::gs::H) (fun w h=>(h.erase 0)) ?_)
     refine GH_eff2 1 6 (k:=?_) (k':=?_)
     ·
      refine A5 (ch:=[]) (b:=b1) (off:=3) (v:=.slice la nl lc) (hA:=At.grp 2 0 rfl rfl) (k:=F0 kr (fun w h=>(((h.erase 4).erase 2).erase 0)) ?_)
      refine H5 6 (k:=C9 (ch:=[]) (e:=28) (l:=[(0,.agg #[.int .i64 vk15,.string vt15,.slice van15 vn15 vcn15,.slice val15 vm15 vcl15])]) (c:=[.int .i64 vk15,.string vt15,.slice van15 vn15 vcn15,.slice val15 vm15 vcl15]) (k:=(fun b16=>?_)))
      refine F0 kr (fun w h=>((((h.erase 5).erase 3).erase 1).erase 0)) (M2 ([(b16,.cells #[.int .i64 vk15,.string vt15,.slice van15 vn15 vcn15,.slice val15 vm15 vcl15] 28 (0,0))]::gv15::[(b2,.cells #[.int .i64 0,.string (ByteArray.mk #[]),.slice none 0 0,.slice none 0 0] 28 (0,0))]::gs::H) (fun w h=>(h.erase 0)) ?_)
      refine H5 7 (k:=G0 (i:=7) (ch:=[]) (t:=26) (tx:=26) (e:=28) (inf:=Tryz.t28) (s:=.slice la nl lc) (x:=.slice (some ⟨b16,0,none⟩) 1 1) (n:=nl) (m:=1) (j:=5) (cs:=cs) (news:=[.int .i64 vk15,.string vt15,.slice van15 vn15 vcn15,.slice val15 vm15 vcl15]) (g:=gl) (S:=(inG [(b16,.cells #[.int .i64 vk15,.string vt15,.slice van15 vn15 vcn15,.slice val15 vm15 vcl15] 28 (0,0))])) rfl rfl rfl rfl kr kr kr rfl rfl (.inl ⟨28,kr⟩) (fun ⟨_,h⟩=>by cases h) (fun _=>⟨28,kr⟩) kr kr kr rfl hL (SrcOf.slice _ _ _ _ Rd.lit (fun h=>by cases h)) (F9 0 rfl) kr (by intro u hu; simp only [List.mem_cons,List.not_mem_nil,or_false] at hu; rcases hu with rfl | rfl | rfl | rfl <;> rfl) (by omega) (by show (nl+1) * 72≤140737488355328; omega) (fun v17 g18 hO19=>?_))
      obtain ⟨a20,cap21,rfl,hcap22,hrd23⟩:=hO19.shape
      refine F0 kr (fun w h=>(((h.erase 5).erase 3).erase 1)) (GH_p (fuel:=1) [(8,0)] (fun w h=>(((h.erase 5).erase 3).erase 1)) (k:=?_))
      refine H5 9 (k:=E9 (ch:=[]) (b:=b1) (off:=3) (v:=.slice a20 (nl+1) cap21) (j:=3) ([(b16,.cells #[.int .i64 vk15,.string vt15,.slice van15 vn15 vcn15,.slice val15 vm15 vcl15] 28 (0,0))]::[(r,.cells #[.string (bk ((C7 lv (B3 q2)).2).1),.int .i64 (((C7 lv (B3 q2)).2).2)] 78 (0,0))]::gv15::[(b1,.cells #[.int .i64 5,.string (ByteArray.mk #[]),.slice none 0 0,.slice a20 (nl+1) cap21] 28 (0,0))]::[(b2,.cells #[.int .i64 0,.string (ByteArray.mk #[]),.slice none 0 0,.slice none 0 0] 28 (0,0))]::g18::gs::H) (hoff:=Nat.le_of_ble_eq_true rfl) (hfz:=(fun _ _=>E3)) (k:=?_))
      refine F0 kr (fun w h=>(((h.erase 5).erase 3).erase 1)) (N3 (E':=[⟨0,[],pt r⟩,⟨2,[],.string (ByteArray.mk #[93])⟩,⟨3,[],.int .i64 d⟩,⟨5,[],pt b1⟩,⟨8,[],pt b2⟩]) [0,2,3,5,8] (k:=?_))
      refine K4 (a20,cap21,g18,[.int .i64 vk15,.string vt15,.slice van15 vn15 vcn15,.slice val15 vm15 vcl15],gv15) [0,2,3,5,8] kr (fun w h=>(((((((h.front (j:=2) rfl).front (j:=6) rfl).front (j:=6) rfl).front (j:=6) rfl).front (j:=6) rfl).front (j:=6) rfl).erase 6)) ⟨hO19,hJ15⟩
     ·
      refine C9 (ch:=[]) (e:=28) (l:=[(0,.agg #[.int .i64 vk15,.string vt15,.slice van15 vn15 vcn15,.slice val15 vm15 vcl15])]) (c:=[.int .i64 vk15,.string vt15,.slice van15 vn15 vcn15,.slice val15 vm15 vcl15]) (k:=(fun b24=>?_))
      refine F0 kr (fun w h=>((((h.erase 5).erase 3).erase 1).erase 0)) (M2 ([(b24,.cells #[.int .i64 vk15,.string vt15,.slice van15 vn15 vcn15,.slice val15 vm15 vcl15] 28 (0,0))]::gv15::[(b2,.cells #[.int .i64 0,.string (ByteArray.mk #[]),.slice none 0 0,.slice none 0 0] 28 (0,0))]::gs::H) (fun w h=>(h.erase 0)) ?_)
      refine H5 1 (k:=A5 (ch:=[]) (b:=b1) (off:=3) (v:=.slice la nl lc) (hA:=At.grp 3 0 rfl rfl) (k:=?_))
      refine F0 kr (fun w h=>(((h.erase 5).erase 3).erase 1)) (H5 7 (k:=?_))
      refine G0 (i:=7) (ch:=[]) (t:=26) (tx:=26) (e:=28) (inf:=Tryz.t28) (s:=.slice la nl lc) (x:=.slice (some ⟨b24,0,none⟩) 1 1) (n:=nl) (m:=1) (j:=5) (cs:=cs) (news:=[.int .i64 vk15,.string vt15,.slice van15 vn15 vcn15,.slice val15 vm15 vcl15]) (g:=gl) (S:=(inG [(b24,.cells #[.int .i64 vk15,.string vt15,.slice van15 vn15 vcn15,.slice val15 vm15 vcl15] 28 (0,0))])) rfl rfl rfl rfl kr kr kr rfl rfl (.inl ⟨28,kr⟩) (fun ⟨_,h⟩=>by cases h) (fun _=>⟨28,kr⟩) kr kr kr rfl hL (SrcOf.slice _ _ _ _ Rd.lit (fun h=>by cases h)) (F9 0 rfl) kr (by intro u hu; simp only [List.mem_cons,List.not_mem_nil,or_false] at hu; rcases hu with rfl | rfl | rfl | rfl <;> rfl) (by omega) (by show (nl+1) * 72≤140737488355328; omega) (fun v25 g26 hO27=>?_)
      obtain ⟨a28,cap29,rfl,hcap30,hrd31⟩:=hO27.shape
      refine F0 kr (fun w h=>(((h.erase 5).erase 3).erase 1)) (GH_p (fuel:=1) [(8,0)] (fun w h=>(((h.erase 5).erase 3).erase 1)) (k:=?_))
      refine H5 9 (k:=E9 (ch:=[]) (b:=b1) (off:=3) (v:=.slice a28 (nl+1) cap29) (j:=3) ([(b24,.cells #[.int .i64 vk15,.string vt15,.slice van15 vn15 vcn15,.slice val15 vm15 vcl15] 28 (0,0))]::[(r,.cells #[.string (bk ((C7 lv (B3 q2)).2).1),.int .i64 (((C7 lv (B3 q2)).2).2)] 78 (0,0))]::gv15::[(b1,.cells #[.int .i64 5,.string (ByteArray.mk #[]),.slice none 0 0,.slice a28 (nl+1) cap29] 28 (0,0))]::[(b2,.cells #[.int .i64 0,.string (ByteArray.mk #[]),.slice none 0 0,.slice none 0 0] 28 (0,0))]::g26::gs::H) (hoff:=Nat.le_of_ble_eq_true rfl) (hfz:=(fun _ _=>E3)) (k:=?_))
      refine F0 kr (fun w h=>(((h.erase 5).erase 3).erase 1)) (N3 (E':=[⟨0,[],pt r⟩,⟨2,[],.string (ByteArray.mk #[93])⟩,⟨3,[],.int .i64 d⟩,⟨5,[],pt b1⟩,⟨8,[],pt b2⟩]) [0,2,3,5,8] (k:=?_))
      refine K4 (a28,cap29,g26,[.int .i64 vk15,.string vt15,.slice van15 vn15 vcn15,.slice val15 vm15 vcl15],gv15) [0,2,3,5,8] kr (fun w h=>(((((((h.front (j:=2) rfl).front (j:=6) rfl).front (j:=6) rfl).front (j:=6) rfl).front (j:=6) rfl).front (j:=6) rfl).erase 6)) ⟨hO27,hJ15⟩
   ·
    rintro ⟨ya,yc,yg,c,gv⟩ ⟨hyo,hJ⟩
    dsimp only at hyo hJ
    refine A0 (A1 ?_)
    refine A2 (A4 (j:=1) [0] (k:=?_))
    refine D8 Tryz.func47 (N8 r ((C7 lv (B3 q2)).2)  _ _) ?_
    rintro _ _ rfl
    refine B0 [] [0,2,3,5,8] (k:=A0 ?_)
    refine A1 (A1 ?_)
    refine A2 (A4 (j:=2) [0,0] (k:=?_))
    refine D8 Tryz.func78 (jtake_ r (B3 ((C7 lv (B3 q2)).2)) (ByteArray.mk #[93]) _ _) ?_
    rintro _ _ (⟨hk32,rfl,rfl⟩ | ⟨hk32,rfl,rfl⟩)
    ·
     have hk32:(B3 ((C7 lv (B3 q2)).2)).1.take 1=[93]:=hk32
     have hM:memR (C7 lv) false ((blk q.1).length+1) [] [] (B3 q)=(([],vs++[(C7 lv (B3 q2)).1]),((blk (C7 lv (B3 q2)).2.1).drop 1,(C7 lv (B3 q2)).2.2)):=hT.trans (memR_last hq0 (fun h=>by cases h) (show (blk (C7 lv (B3 q2)).2.1).take 1=[Q0 false] from hk32))
     refine B0 [] [0,2,3,5,8,57] (k:=A0 ?_)
     refine E8 kr (G3 ?_)
     refine A9 (R1 rfl ?_)
     refine A9 (C5 ?_)
     refine A0 (A1 ?_)
     refine A2 (D3 (ch:=[]) (b:=b1) (off:=0) (l:=[.int .i64 5,.string (ByteArray.mk #[]),.slice none 0 0,.slice ya (nl+1) yc]) (hA:=At.grp 1 0 rfl rfl) (k:=?_))
     refine E9 (ch:=[]) (b:=b2) (off:=0) (v:=.agg #[.int .i64 5,.string (ByteArray.mk #[]),.slice none 0 0,.slice ya (nl+1) yc]) (j:=2) ([(r,.cells #[.string (bk ((B3 ((C7 lv (B3 q2)).2)).1.drop 1,(B3 ((C7 lv (B3 q2)).2)).2).1),.int .i64 (((B3 ((C7 lv (B3 q2)).2)).1.drop 1,(B3 ((C7 lv (B3 q2)).2)).2).2)] 78 (0,0))]::[(b1,.cells #[.int .i64 5,.string (ByteArray.mk #[]),.slice none 0 0,.slice ya (nl+1) yc] 28 (0,0))]::[(b2,.cells #[.int .i64 5,.string (ByteArray.mk #[]),.slice none 0 0,.slice ya (nl+1) yc] 28 (0,0))]::yg::gs::gv::H) (hoff:=Nat.le_of_ble_eq_true rfl) (hfz:=(fun _ _=>E3)) (k:=B1 (E':=[⟨8,[],pt b2⟩]) [] [8] (k:=?_))
     refine A0 (B5 ?_)
     refine C1 (H':=([(r,.cells #[.string (bk ((B3 ((C7 lv (B3 q2)).2)).1.drop 1,(B3 ((C7 lv (B3 q2)).2)).2).1),.int .i64 (((B3 ((C7 lv (B3 q2)).2)).1.drop 1,(B3 ((C7 lv (B3 q2)).2)).2).2)] 78 (0,0))]::[(b2,.cells #[.int .i64 5,.string (ByteArray.mk #[]),.slice none 0 0,.slice ya (nl+1) yc] 28 (0,0))]::([]++(yg++(gs++gv)))::H)) (fun w h=>Sat.flat (h.erase 1) (List.Perm.of_eq (by simp []))) (L5 [.cell 8 28] [.agg #[.int .i64 5,.string (ByteArray.mk #[]),.slice none 0 0,.slice ya (nl+1) yc]] rfl (.cons (.agg (b:=b2) (off:=0) (l:=[.int .i64 5,.string (ByteArray.mk #[]),.slice none 0 0,.slice ya (nl+1) yc]) kr kr kr (At.grp 1 0 rfl rfl) kr) (.nil)) rfl ⟨([(r,.cells #[.string (bk ((B3 ((C7 lv (B3 q2)).2)).1.drop 1,(B3 ((C7 lv (B3 q2)).2)).2).1),.int .i64 (((B3 ((C7 lv (B3 q2)).2)).1.drop 1,(B3 ((C7 lv (B3 q2)).2)).2).2)] 78 (0,0))]::([]++(yg++(gs++gv)))::H),?_,fun w h=>(h.erase 1)⟩)
     subst hnl; rw [mbR_mem hB0 hM]; exact ⟨_,_,.mk (ns:=[]) Go.Sw.Own.nil (by rw [List.length_append]; exact hyo) (hP.snoc hJ),(by simp only [List.length_append]; rfl),rfl⟩
    ·
     have hk32:¬ (B3 ((C7 lv (B3 q2)).2)).1.take 1=[93]:=hk32
     have hE:¬ (blk (C7 lv (B3 q2)).2.1).take 1=[Q0 false]:=hk32
     refine B0 [] [0,2,3,5,8,57] (k:=A0 ?_)
     refine C2 kr (A8 ?_)
     refine A0 (A2 ?_)
     refine A4 (j:=1) [0] (k:=D8 Tryz.func125 (jmust_ r (B3 ((C7 lv (B3 q2)).2)) 44 _ _) ?_)
     rintro _ _ rfl
     refine B0 [] [0,2,3,5,8] (k:=B8 ?_)
     refine C1 (H':=([(r,.cells #[.string (bk (D7 44 (B3 ((C7 lv (B3 q2)).2))).1),.int .i64 ((D7 44 (B3 ((C7 lv (B3 q2)).2))).2)] 78 (0,0))]::[(b1,.cells #[.int .i64 5,.string (ByteArray.mk #[]),.slice none 0 0,.slice ya (nl+1) yc] 28 (0,0))]::[(b2,.cells #[.int .i64 0,.string (ByteArray.mk #[]),.slice none 0 0,.slice none 0 0] 28 (0,0))]::yg::(gs++gv)::H)) (fun w h=>Sat.flat h (List.Perm.of_eq (by simp [rdG]))) (E6 (s':=(m,(D7 44 (B3 (C7 lv (B3 q2)).2)),(vs++[(C7 lv (B3 q2)).1]),(nl+1),ya,yc,yg,(cs++c),(gs++gv))) [0,2,3,5,8] kr rfl ⟨(by dsimp only; intro h0; have:=round_len (lv:=lv) (obj:=false) (ns:=[]) (q:=q2) h0; have h9:=hn hq0; exact Nat.lt_of_lt_of_le this (Nat.le_of_lt_succ h9)),(by dsimp only; rw [hT]; exact memR_next hq0 (fun h=>by cases h) (show ¬ (blk (C7 lv (B3 q2)).2.1).take 1=[Q0 false] from hE)),hyo,(by dsimp only; rw [List.length_append,hnl]; rfl),(by dsimp only; exact hP.snoc hJ),(by dsimp only; omega)⟩ (by dsimp only; omega))
  ·
   have hq0:¬ q2.2=0:=by simpa using hc4
   have hM:=hT.trans (memR_end hq0)
   refine G3 (A9 ?_)
   refine A9 (C5 ?_)
   refine A0 (A1 ?_)
   refine A2 (D3 (ch:=[]) (b:=b1) (off:=0) (l:=[.int .i64 5,.string (ByteArray.mk #[]),.slice none 0 0,.slice la nl lc]) (hA:=At.grp 1 0 rfl rfl) (k:=?_))
   refine E9 (ch:=[]) (b:=b2) (off:=0) (v:=.agg #[.int .i64 5,.string (ByteArray.mk #[]),.slice none 0 0,.slice la nl lc]) (j:=2) ([(r,.cells #[.string (bk q2.1),.int .i64 q2.2] 78 (0,0))]::[(b1,.cells #[.int .i64 5,.string (ByteArray.mk #[]),.slice none 0 0,.slice la nl lc] 28 (0,0))]::[(b2,.cells #[.int .i64 5,.string (ByteArray.mk #[]),.slice none 0 0,.slice la nl lc] 28 (0,0))]::gl::gs::H) (hoff:=Nat.le_of_ble_eq_true rfl) (hfz:=(fun _ _=>E3)) (k:=B1 (E':=[⟨8,[],pt b2⟩]) [] [8] (k:=?_))
   refine A0 (B5 ?_)
   refine C1 (H':=([(r,.cells #[.string (bk q2.1),.int .i64 q2.2] 78 (0,0))]::[(b2,.cells #[.int .i64 5,.string (ByteArray.mk #[]),.slice none 0 0,.slice la nl lc] 28 (0,0))]::([]++(gl++gs))::H)) (fun w h=>Sat.flat (h.erase 1) (List.Perm.of_eq (by simp []))) (L5 [.cell 8 28] [.agg #[.int .i64 5,.string (ByteArray.mk #[]),.slice none 0 0,.slice la nl lc]] rfl (.cons (.agg (b:=b2) (off:=0) (l:=[.int .i64 5,.string (ByteArray.mk #[]),.slice none 0 0,.slice la nl lc]) kr kr kr (At.grp 1 0 rfl rfl) kr) (.nil)) rfl ⟨([(r,.cells #[.string (bk q2.1),.int .i64 q2.2] 78 (0,0))]::([]++(gl++gs))::H),?_,fun w h=>(h.erase 1)⟩)
   subst hnl; rw [mbR_mem hB0 hM]; exact ⟨_,_,.mk (ns:=[]) Go.Sw.Own.nil hL hP,rfl,rfl⟩
theorem jmembersT_ (lv:Nat) (d:Int) (hd:0≤d∧d≤24) (r:Nat) (q:RdS) (hl:q.1.length≤1000000) (hval:∀ (q:RdS),q.1.length≤1000000→∀ (W0:World) (H:List Grp),F2 W0→Tri Tryz.prog 46 #[pt r,.int .i64 (d+1)] W0 (rdG r q::H) (fun v H2=>∃ c g,JRep 9 28 (C7 lv q).1 c g∧v=.agg c.toArray∧H2=rdG r (C7 lv q).2::g::H)) (W0:World) (H:List Grp) (hW:F2 W0):Tri Tryz.prog 79 #[pt r,.agg #[.int .i64 6,.string (ByteArray.mk #[]),.slice none 0 0,.slice none 0 0],.string (ByteArray.mk #[125]),.int .i64 d] W0 ([(r,.cells #[.string (bk q.1),.int .i64 q.2] 78 (0,0))]::H) (fun v H2=>∃ c g,JRep 9 28 (mbR (C7 lv) true q).1 c g∧v=.agg c.toArray∧H2=rdG r (mbR (C7 lv) true q).2::g::H):=by
 refine C6 (args:=[pt r,.agg #[.int .i64 6,.string (ByteArray.mk #[]),.slice none 0 0,.slice none 0 0],.string (ByteArray.mk #[125]),.int .i64 d]) (n:=61) Tryz.func79 rfl rfl (Nat.le_of_ble_eq_true rfl) ?_
 refine A1 (A2 ?_)
 refine G7 (ch:=[]) (v:=.agg #[.int .i64 6,.string (ByteArray.mk #[]),.slice none 0 0,.slice none 0 0]) (k:=(fun b1=>?_))
 refine F5 (ch:=[]) (z:=.agg #[.int .i64 0,.string (ByteArray.mk #[]),.slice none 0 0,.slice none 0 0]) (k:=(fun b2=>?_))
 refine B0 [] [0,2,3,5,8] (k:=A0 ?_)
 refine A1 (A2 ?_)
 refine A4 (j:=1) [0] (k:=J3 rfl (H':=([(r,.cells #[.string (bk q.1),.int .i64 q.2] 78 (0,0))]::[(b2,.cells #[.int .i64 0,.string (ByteArray.mk #[]),.slice none 0 0,.slice none 0 0] 28 (0,0))]::[(b1,.cells #[.int .i64 6,.string (ByteArray.mk #[]),.slice none 0 0,.slice none 0 0] 28 (0,0))]::H)) (fun w h=>(h.front (j:=2) rfl)) ?_)
 refine D8 Tryz.func47 (N8 r q  _ _) ?_
 rintro _ _ rfl
 refine B0 [] [0,2,3,5,8] (k:=A0 ?_)
 refine A1 (A1 ?_)
 refine A2 (A4 (j:=2) [0,0] (k:=?_))
 refine D8 Tryz.func78 (jtake_ r (B3 q) (ByteArray.mk #[125]) _ _) ?_
 rintro _ _ (⟨hk3,rfl,rfl⟩ | ⟨hk3,rfl,rfl⟩)
 ·
  have hk3:(B3 q).1.take 1=[125]:=hk3
  have hB:mbR (C7 lv) true q=_:=mbR_end (obj:=true) hk3
  refine B0 [] [0,2,3,5,8,13] (k:=A0 ?_)
  refine E8 kr (A1 ?_)
  refine A2 (D3 (ch:=[]) (b:=b1) (off:=0) (l:=[.int .i64 6,.string (ByteArray.mk #[]),.slice none 0 0,.slice none 0 0]) (hA:=At.grp 2 0 rfl rfl) (k:=?_))
  refine E9 (ch:=[]) (b:=b2) (off:=0) (v:=.agg #[.int .i64 6,.string (ByteArray.mk #[]),.slice none 0 0,.slice none 0 0]) (j:=1) ([(r,.cells #[.string (bk ((B3 q).1.drop 1,(B3 q).2).1),.int .i64 (((B3 q).1.drop 1,(B3 q).2).2)] 78 (0,0))]::[(b2,.cells #[.int .i64 6,.string (ByteArray.mk #[]),.slice none 0 0,.slice none 0 0] 28 (0,0))]::[(b1,.cells #[.int .i64 6,.string (ByteArray.mk #[]),.slice none 0 0,.slice none 0 0] 28 (0,0))]::H) (hoff:=Nat.le_of_ble_eq_true rfl) (hfz:=(fun _ _=>E3)) (k:=B1 (E':=[⟨8,[],pt b2⟩]) [] [8] (k:=?_))
  refine A0 (B5 ?_)
  refine A3 (C1 (H':=([(r,.cells #[.string (bk ((B3 q).1.drop 1,(B3 q).2).1),.int .i64 (((B3 q).1.drop 1,(B3 q).2).2)] 78 (0,0))]::[(b2,.cells #[.int .i64 6,.string (ByteArray.mk #[]),.slice none 0 0,.slice none 0 0] 28 (0,0))]::[]::H)) (fun w h=>Sat.flat (h.erase 2) (List.Perm.refl _)) ?_)
  refine L5 [.cell 8 28] [.agg #[.int .i64 6,.string (ByteArray.mk #[]),.slice none 0 0,.slice none 0 0]] rfl (.cons (.agg (b:=b2) (off:=0) (l:=[.int .i64 6,.string (ByteArray.mk #[]),.slice none 0 0,.slice none 0 0]) kr kr kr (At.grp 1 0 rfl rfl) kr) (.nil)) rfl ⟨([(r,.cells #[.string (bk ((B3 q).1.drop 1,(B3 q).2).1),.int .i64 (((B3 q).1.drop 1,(B3 q).2).2)] 78 (0,0))]::[]::H),?_,fun w h=>(h.erase 1)⟩
  rw [hB]; exact ⟨_,_,.mk (ns:=[]) (l:=[]) Go.Sw.Own.nil Go.Sw.Own.nil .nil,rfl,rfl⟩
 ·
  have hk3:¬ (B3 q).1.take 1=[125]:=hk3
  have hB0:¬ (blk q.1).take 1=[Q0 true]:=hk3
  refine B0 [] [0,2,3,5,8,13] (k:=A0 ?_)
  refine C2 kr (A8 ?_)
  refine A0 (A1 ?_)
  refine B9 (G_heap (H':=([(r,.cells #[.string (bk (B3 q).1),.int .i64 ((B3 q).2)] 78 (0,0))]::[(b1,.cells #[.int .i64 6,.string (ByteArray.mk #[]),.slice none 0 0,.slice none 0 0] 28 (0,0))]::[(b2,.cells #[.int .i64 0,.string (ByteArray.mk #[]),.slice none 0 0,.slice none 0 0] 28 (0,0))]::[]::[]::[]::H)) (fun w h=>Sat.flat (((h.front (j:=1) rfl).front (j:=2) rfl).front (j:=2) rfl) (List.Perm.refl _)) ?_)
  refine I6 (EI:=(fun ξ:Nat × RdS × List JV × Nat × Option Addr × Nat × Grp × List Value × Grp × List (List UInt8) × Nat × Option Addr × Nat × Grp=>[⟨0,[],pt r⟩,⟨2,[],.string (ByteArray.mk #[125])⟩,⟨3,[],.int .i64 d⟩,⟨5,[],pt b1⟩,⟨8,[],pt b2⟩])) (HI:=(fun ξ:Nat × RdS × List JV × Nat × Option Addr × Nat × Grp × List Value × Grp × List (List UInt8) × Nat × Option Addr × Nat × Grp=>([(r,.cells #[.string (bk ξ.2.1.1),.int .i64 ξ.2.1.2] 78 (0,0))]::[(b1,.cells #[.int .i64 6,.string (ByteArray.mk #[]),.slice ξ.2.2.2.2.2.2.2.2.2.2.2.1 ξ.2.2.2.2.2.2.2.2.2.2.1 ξ.2.2.2.2.2.2.2.2.2.2.2.2.1,.slice ξ.2.2.2.2.1 ξ.2.2.2.1 ξ.2.2.2.2.2.1] 28 (0,0))]::[(b2,.cells #[.int .i64 0,.string (ByteArray.mk #[]),.slice none 0 0,.slice none 0 0] 28 (0,0))]::ξ.2.2.2.2.2.2.2.2.2.2.2.2.2::ξ.2.2.2.2.2.2.1::ξ.2.2.2.2.2.2.2.2.1::H))) (Φ:=(fun ξ:Nat × RdS × List JV × Nat × Option Addr × Nat × Grp × List Value × Grp × List (List UInt8) × Nat × Option Addr × Nat × Grp=>(ξ.2.1.2=0→ξ.2.1.1.length<ξ.1)∧(memR (C7 lv) true ((blk q.1).length+1) [] [] (B3 q)=memR (C7 lv) true ξ.1 ξ.2.2.2.2.2.2.2.2.2.1 ξ.2.2.1 ξ.2.1)∧(Go.Sw.Own 28 4 (.slice ξ.2.2.2.2.1 ξ.2.2.2.1 ξ.2.2.2.2.2.1) ξ.2.2.2.2.2.2.1 ξ.2.2.2.1 ξ.2.2.2.2.2.2.2.1)∧(ξ.2.2.2.1=ξ.2.2.1.length)∧(JRepL 9 28 ξ.2.2.1 ξ.2.2.2.2.2.2.2.1 ξ.2.2.2.2.2.2.2.2.1)∧(ξ.2.2.2.1+ξ.1≤1000001)∧(Go.Sw.Own 9 1 (.slice ξ.2.2.2.2.2.2.2.2.2.2.2.1 ξ.2.2.2.2.2.2.2.2.2.2.1 ξ.2.2.2.2.2.2.2.2.2.2.2.2.1) ξ.2.2.2.2.2.2.2.2.2.2.2.2.2 ξ.2.2.2.2.2.2.2.2.2.2.1 (E7 ξ.2.2.2.2.2.2.2.2.2.1))∧(ξ.2.2.2.2.2.2.2.2.2.2.1=ξ.2.2.2.2.2.2.2.2.2.1.length)∧(ξ.2.2.2.2.2.2.2.2.2.2.1+ξ.1≤1000001))) (μ:=(fun ξ:Nat × RdS × List JV × Nat × Option Addr × Nat × Grp × List Value × Grp × List (List UInt8) × Nat × Option Addr × Nat × Grp=>ξ.1)) (s0:=(((blk q.1).length+1),(B3 q),[],0,none,0,[],[],[],[],0,none,0,[])) [0,2,3,5,8] kr rfl ⟨(by intro _; show (blk q.1).length<_; omega),rfl,Go.Sw.Own.nil,rfl,.nil,(by show 0+_≤_; have:=J8 q.1; omega),Go.Sw.Own.nil,rfl,(by show 0+_≤_; have:=J8 q.1; omega)⟩ ?_
  rintro ⟨n,q2,vs,nl,la,lc,gl,cs,gs,ns,nn,na,nc,gn⟩ ⟨hn,hT,hL,hnl,hP,hb,hN,hnn,hb2⟩
  dsimp only at hn hT hL hnl hP hb hN hnn hb2
  refine A1 (A1 ?_)
  refine A2 (A4 (j:=3) [0,0,0] (k:=?_))
  refine A5 (ch:=[]) (b:=r) (off:=1) (v:=.int .i64 q2.2) (hA:=At.grp 0 0 rfl rfl) (k:=B0 [0] [0,2,3,5,8,19] (k:=?_))
  refine A0 (B2 (b:=q2.2==0) kr (fun hc4=>?_) (fun hc4=>?_))
  ·
   have hq0:q2.2=0:=by simpa using hc4
   have hnq:=hn hq0
   obtain ⟨m,rfl⟩:∃ m,n=m+1:=⟨n - 1,by omega⟩
   have hbl:=blkR_le q2
   refine A8 (A0 ?_)
   refine B9 (A1 ?_)
   refine A2 (A4 (j:=1) [0] (k:=?_))
   refine D8 Tryz.func47 (N8 r q2  _ _) ?_
   rintro _ _ rfl
   refine B0 [] [0,2,3,5,8] (k:=A0 ?_)
   refine A1 (A1 ?_)
   refine A2 (A4 (j:=1) [0] (k:=?_))
   refine A5 (ch:=[]) (b:=b1) (off:=0) (v:=.int .i64 6) (hA:=At.grp 1 0 rfl rfl) (k:=B0 [0] [0,2,3,5,8,24] (k:=?_))
   refine A0 (E8 kr ?_)
   refine A1 (A1 ?_)
   refine A2 (A4 (j:=3) [0,0,0] (k:=?_))
   refine A5 (ch:=[]) (b:=r) (off:=0) (v:=.string (bk (B3 q2).1)) (hA:=At.grp 0 0 rfl rfl) (k:=H4 Tryz.func77 (jhas_ (bk (B3 q2).1) (ByteArray.mk #[34]) _ _) ?_)
   refine B0 [0] [0,2,3,5,8,30] (k:=A0 ?_)
   refine B2 (b:=!(G4 (bk (B3 q2).1) (ByteArray.mk #[34]))) kr (fun hc5=>?_) (fun hc5=>?_)
   ·
    have hs:G4 (bk (B3 q2).1) (ByteArray.mk #[34])=false:=by simpa using hc5
    have ht:¬ (blk q2.1).take 1=[34]:=(K6 _ _).1 hs
    have h34:¬ (blk q2.1).getD 0 0=34:=fun hn=>ht ((take1 (by decide)).2 hn)
    have hM:=hT.trans (memR_bad hq0 h34)
    refine A1 (A2 ?_)
    refine A4 (j:=1) [0] (k:=D8 Tryz.func48 (jfault_ r (B3 q2) 70 _ _) ?_)
    rintro _ _ rfl
    refine B1 (E':=[⟨5,[],pt b1⟩,⟨8,[],pt b2⟩]) [] [5,8] (k:=A0 ?_)
    refine G3 (A9 ?_)
    refine A9 (R1 rfl ?_)
    refine A9 (C5 ?_)
    refine A0 (A1 ?_)
    refine A2 (D3 (ch:=[]) (b:=b1) (off:=0) (l:=[.int .i64 6,.string (ByteArray.mk #[]),.slice na nn nc,.slice la nl lc]) (hA:=At.grp 1 0 rfl rfl) (k:=?_))
    refine E9 (ch:=[]) (b:=b2) (off:=0) (v:=.agg #[.int .i64 6,.string (ByteArray.mk #[]),.slice na nn nc,.slice la nl lc]) (j:=2) ([(r,.cells #[.string (bk (B3 q2).1),.int .i64 ((P6 70 (B3 q2)).2)] 78 (0,0))]::[(b1,.cells #[.int .i64 6,.string (ByteArray.mk #[]),.slice na nn nc,.slice la nl lc] 28 (0,0))]::[(b2,.cells #[.int .i64 6,.string (ByteArray.mk #[]),.slice na nn nc,.slice la nl lc] 28 (0,0))]::gn::gl::gs::H) (hoff:=Nat.le_of_ble_eq_true rfl) (hfz:=(fun _ _=>E3)) (k:=B1 (E':=[⟨8,[],pt b2⟩]) [] [8] (k:=?_))
    refine A0 (B5 ?_)
    refine C1 (H':=([(r,.cells #[.string (bk (B3 q2).1),.int .i64 ((P6 70 (B3 q2)).2)] 78 (0,0))]::[(b2,.cells #[.int .i64 6,.string (ByteArray.mk #[]),.slice na nn nc,.slice la nl lc] 28 (0,0))]::(gn++(gl++gs))::H)) (fun w h=>Sat.flat (h.erase 1) (List.Perm.of_eq (by simp []))) (L5 [.cell 8 28] [.agg #[.int .i64 6,.string (ByteArray.mk #[]),.slice na nn nc,.slice la nl lc]] rfl (.cons (.agg (b:=b2) (off:=0) (l:=[.int .i64 6,.string (ByteArray.mk #[]),.slice na nn nc,.slice la nl lc]) kr kr kr (At.grp 1 0 rfl rfl) kr) (.nil)) rfl ⟨([(r,.cells #[.string (bk (B3 q2).1),.int .i64 ((P6 70 (B3 q2)).2)] 78 (0,0))]::(gn++(gl++gs))::H),?_,fun w h=>(h.erase 1)⟩)
    subst hnl; subst hnn; rw [mbR_mem hB0 hM]; exact ⟨_,_,.mk hN hL hP,rfl,rfl⟩
   ·
    have hs:G4 (bk (B3 q2).1) (ByteArray.mk #[34])=true:=by simpa using hc5
    have ht:(blk q2.1).take 1=[34]:=(L2 _ _).1 hs
    have h34:(blk q2.1).getD 0 0=34:=(take1 (by decide)).1 ht
    refine A8 (A0 ?_)
    refine A1 (G_join (T:=Option Addr × Nat × Grp) (fun ξ:Option Addr × Nat × Grp=>[⟨0,[],pt r⟩,⟨2,[],.string (ByteArray.mk #[125])⟩,⟨3,[],.int .i64 d⟩,⟨5,[],pt b1⟩,⟨8,[],pt b2⟩]) (fun ξ:Option Addr × Nat × Grp=>([(r,.cells #[.string (bk ((C8 (B3 q2)).2).1),.int .i64 (((C8 (B3 q2)).2).2)] 78 (0,0))]::[(b1,.cells #[.int .i64 6,.string (ByteArray.mk #[]),.slice ξ.1 (nn+1) ξ.2.1,.slice la nl lc] 28 (0,0))]::[(b2,.cells #[.int .i64 0,.string (ByteArray.mk #[]),.slice none 0 0,.slice none 0 0] 28 (0,0))]::ξ.2.2::gl::gs::H)) (fun ξ:Option Addr × Nat × Grp=>(Go.Sw.Own 9 1 (.slice ξ.1 (nn+1) ξ.2.1) ξ.2.2 (nn+1) (E7 ns++E7 [(C8 (B3 q2)).1]))) ?_ ?_)
    ·
     refine P9 ([(b2,.cells #[.int .i64 0,.string (ByteArray.mk #[]),.slice none 0 0,.slice none 0 0] 28 (0,0))]::gs::H) kr (GH_p (fuel:=6) [(0,0),(2,0)] (fun w h=>((((h.erase 4).erase 3).erase 1).erase 0)) (k:=?_))
     refine GH_eff2 1 3 (k:=?_) (k':=?_)
     ·
      refine A5 (ch:=[]) (b:=b1) (off:=2) (v:=.slice na nn nc) (hA:=At.grp 1 0 rfl rfl) (k:=F0 kr (fun w h=>((((h.erase 4).erase 3).erase 1).erase 0)) ?_)
      refine H5 3 (k:=D8 Tryz.func80 (jtext_ r (B3 q2) (by have:=blkR_le q2; omega) _ _ hW) ?_)
      rintro _ _ ⟨rfl,rfl⟩
      refine F0 kr (fun w h=>((((h.erase 4).erase 3).erase 1).erase 0)) (H5 4 (k:=?_))
      refine C9 (ch:=[]) (e:=9) (l:=[(0,.string (bk (C8 (B3 q2)).1))]) (c:=[.string (bk (C8 (B3 q2)).1)]) (k:=(fun b6=>?_))
      refine F0 kr (fun w h=>(((((h.erase 5).erase 4).erase 2).erase 1).erase 0)) (M2 ([(b6,.cells #[.string (bk (C8 (B3 q2)).1)] 9 (0,0))]::[(b2,.cells #[.int .i64 0,.string (ByteArray.mk #[]),.slice none 0 0,.slice none 0 0] 28 (0,0))]::gs::H) (fun w h=>(h.erase 0)) ?_)
      refine H5 5 (k:=G0 (i:=5) (ch:=[]) (t:=25) (tx:=25) (e:=9) (inf:=Tryz.t9) (s:=.slice na nn nc) (x:=.slice (some ⟨b6,0,none⟩) 1 1) (n:=nn) (m:=1) (j:=4) (cs:=(E7 ns)) (news:=[.string (bk (C8 (B3 q2)).1)]) (g:=gn) (S:=(inG [(b6,.cells #[.string (bk (C8 (B3 q2)).1)] 9 (0,0))])) rfl rfl rfl rfl kr kr kr rfl rfl (.inl ⟨9,kr⟩) (fun ⟨_,h⟩=>by cases h) (fun _=>⟨9,kr⟩) kr kr kr rfl hN (SrcOf.slice _ _ _ _ Rd.lit (fun h=>by cases h)) (F9 0 rfl) kr (by intro u hu; rcases List.mem_singleton.1 hu with rfl; rfl) (by omega) (by show (nn+1) * 16≤140737488355328; omega) (fun v7 g8 hO9=>?_))
      obtain ⟨a10,cap11,rfl,hcap12,hrd13⟩:=hO9.shape
      refine F0 kr (fun w h=>((((h.erase 5).erase 4).erase 2).erase 1)) (GH_p (fuel:=1) [(6,0)] (fun w h=>((((h.erase 5).erase 4).erase 2).erase 1)) (k:=?_))
      refine H5 7 (k:=E9 (ch:=[]) (b:=b1) (off:=2) (v:=.slice a10 (nn+1) cap11) (j:=2) ([(b6,.cells #[.string (bk (C8 (B3 q2)).1)] 9 (0,0))]::[(r,.cells #[.string (bk ((C8 (B3 q2)).2).1),.int .i64 (((C8 (B3 q2)).2).2)] 78 (0,0))]::[(b1,.cells #[.int .i64 6,.string (ByteArray.mk #[]),.slice a10 (nn+1) cap11,.slice la nl lc] 28 (0,0))]::[(b2,.cells #[.int .i64 0,.string (ByteArray.mk #[]),.slice none 0 0,.slice none 0 0] 28 (0,0))]::g8::gl::gs::H) (hoff:=Nat.le_of_ble_eq_true rfl) (hfz:=(fun _ _=>E3)) (k:=?_))
      refine F0 kr (fun w h=>((((h.erase 5).erase 4).erase 2).erase 1)) (N3 (E':=[⟨0,[],pt r⟩,⟨2,[],.string (ByteArray.mk #[125])⟩,⟨3,[],.int .i64 d⟩,⟨5,[],pt b1⟩,⟨8,[],pt b2⟩]) [0,2,3,5,8] (k:=?_))
      refine K4 (a10,cap11,g8) [0,2,3,5,8] kr (fun w h=>(h.erase 0)) hO9
     ·
      refine D8 Tryz.func80 (jtext_ r (B3 q2) (by have:=blkR_le q2; omega) _ _ hW) ?_
      rintro _ _ ⟨rfl,rfl⟩
      refine F0 kr (fun w h=>((((h.erase 4).erase 3).erase 1).erase 0)) (GH_eff2 1 4 (k:=?_) (k':=?_))
      ·
       refine A5 (ch:=[]) (b:=b1) (off:=2) (v:=.slice na nn nc) (hA:=At.grp 1 0 rfl rfl) (k:=F0 kr (fun w h=>((((h.erase 4).erase 3).erase 1).erase 0)) ?_)
       refine H5 4 (k:=C9 (ch:=[]) (e:=9) (l:=[(0,.string (bk (C8 (B3 q2)).1))]) (c:=[.string (bk (C8 (B3 q2)).1)]) (k:=(fun b14=>?_)))
       refine F0 kr (fun w h=>(((((h.erase 5).erase 4).erase 2).erase 1).erase 0)) (M2 ([(b14,.cells #[.string (bk (C8 (B3 q2)).1)] 9 (0,0))]::[(b2,.cells #[.int .i64 0,.string (ByteArray.mk #[]),.slice none 0 0,.slice none 0 0] 28 (0,0))]::gs::H) (fun w h=>(h.erase 0)) ?_)
       refine H5 5 (k:=G0 (i:=5) (ch:=[]) (t:=25) (tx:=25) (e:=9) (inf:=Tryz.t9) (s:=.slice na nn nc) (x:=.slice (some ⟨b14,0,none⟩) 1 1) (n:=nn) (m:=1) (j:=4) (cs:=(E7 ns)) (news:=[.string (bk (C8 (B3 q2)).1)]) (g:=gn) (S:=(inG [(b14,.cells #[.string (bk (C8 (B3 q2)).1)] 9 (0,0))])) rfl rfl rfl rfl kr kr kr rfl rfl (.inl ⟨9,kr⟩) (fun ⟨_,h⟩=>by cases h) (fun _=>⟨9,kr⟩) kr kr kr rfl hN (SrcOf.slice _ _ _ _ Rd.lit (fun h=>by cases h)) (F9 0 rfl) kr (by intro u hu; rcases List.mem_singleton.1 hu with rfl; rfl) (by omega) (by show (nn+1) * 16≤140737488355328; omega) (fun v15 g16 hO17=>?_))
       obtain ⟨a18,cap19,rfl,hcap20,hrd21⟩:=hO17.shape
       refine F0 kr (fun w h=>((((h.erase 5).erase 4).erase 2).erase 1)) (GH_p (fuel:=1) [(6,0)] (fun w h=>((((h.erase 5).erase 4).erase 2).erase 1)) (k:=?_))
       refine H5 7 (k:=E9 (ch:=[]) (b:=b1) (off:=2) (v:=.slice a18 (nn+1) cap19) (j:=2) ([(b14,.cells #[.string (bk (C8 (B3 q2)).1)] 9 (0,0))]::[(r,.cells #[.string (bk ((C8 (B3 q2)).2).1),.int .i64 (((C8 (B3 q2)).2).2)] 78 (0,0))]::[(b1,.cells #[.int .i64 6,.string (ByteArray.mk #[]),.slice a18 (nn+1) cap19,.slice la nl lc] 28 (0,0))]::[(b2,.cells #[.int .i64 0,.string (ByteArray.mk #[]),.slice none 0 0,.slice none 0 0] 28 (0,0))]::g16::gl::gs::H) (hoff:=Nat.le_of_ble_eq_true rfl) (hfz:=(fun _ _=>E3)) (k:=?_))
       refine F0 kr (fun w h=>((((h.erase 5).erase 4).erase 2).erase 1)) (N3 (E':=[⟨0,[],pt r⟩,⟨2,[],.string (ByteArray.mk #[125])⟩,⟨3,[],.int .i64 d⟩,⟨5,[],pt b1⟩,⟨8,[],pt b2⟩]) [0,2,3,5,8] (k:=?_))
       refine K4 (a18,cap19,g16) [0,2,3,5,8] kr (fun w h=>(h.erase 0)) hO17
      ·
       refine C9 (ch:=[]) (e:=9) (l:=[(0,.string (bk (C8 (B3 q2)).1))]) (c:=[.string (bk (C8 (B3 q2)).1)]) (k:=(fun b22=>?_))
       refine F0 kr (fun w h=>(((((h.erase 5).erase 4).erase 2).erase 1).erase 0)) (M2 ([(b22,.cells #[.string (bk (C8 (B3 q2)).1)] 9 (0,0))]::[(b2,.cells #[.int .i64 0,.string (ByteArray.mk #[]),.slice none 0 0,.slice none 0 0] 28 (0,0))]::gs::H) (fun w h=>(h.erase 0)) ?_)
       refine H5 1 (k:=A5 (ch:=[]) (b:=b1) (off:=2) (v:=.slice na nn nc) (hA:=At.grp 2 0 rfl rfl) (k:=?_))
       refine F0 kr (fun w h=>((((h.erase 5).erase 4).erase 2).erase 1)) (H5 5 (k:=?_))
       refine G0 (i:=5) (ch:=[]) (t:=25) (tx:=25) (e:=9) (inf:=Tryz.t9) (s:=.slice na nn nc) (x:=.slice (some ⟨b22,0,none⟩) 1 1) (n:=nn) (m:=1) (j:=4) (cs:=(E7 ns)) (news:=[.string (bk (C8 (B3 q2)).1)]) (g:=gn) (S:=(inG [(b22,.cells #[.string (bk (C8 (B3 q2)).1)] 9 (0,0))])) rfl rfl rfl rfl kr kr kr rfl rfl (.inl ⟨9,kr⟩) (fun ⟨_,h⟩=>by cases h) (fun _=>⟨9,kr⟩) kr kr kr rfl hN (SrcOf.slice _ _ _ _ Rd.lit (fun h=>by cases h)) (F9 0 rfl) kr (by intro u hu; rcases List.mem_singleton.1 hu with rfl; rfl) (by omega) (by show (nn+1) * 16≤140737488355328; omega) (fun v23 g24 hO25=>?_)
       obtain ⟨a26,cap27,rfl,hcap28,hrd29⟩:=hO25.shape
       refine F0 kr (fun w h=>((((h.erase 5).erase 4).erase 2).erase 1)) (GH_p (fuel:=1) [(6,0)] (fun w h=>((((h.erase 5).erase 4).erase 2).erase 1)) (k:=?_))
       refine H5 7 (k:=E9 (ch:=[]) (b:=b1) (off:=2) (v:=.slice a26 (nn+1) cap27) (j:=2) ([(b22,.cells #[.string (bk (C8 (B3 q2)).1)] 9 (0,0))]::[(r,.cells #[.string (bk ((C8 (B3 q2)).2).1),.int .i64 (((C8 (B3 q2)).2).2)] 78 (0,0))]::[(b1,.cells #[.int .i64 6,.string (ByteArray.mk #[]),.slice a26 (nn+1) cap27,.slice la nl lc] 28 (0,0))]::[(b2,.cells #[.int .i64 0,.string (ByteArray.mk #[]),.slice none 0 0,.slice none 0 0] 28 (0,0))]::g24::gl::gs::H) (hoff:=Nat.le_of_ble_eq_true rfl) (hfz:=(fun _ _=>E3)) (k:=?_))
       refine F0 kr (fun w h=>((((h.erase 5).erase 4).erase 2).erase 1)) (N3 (E':=[⟨0,[],pt r⟩,⟨2,[],.string (ByteArray.mk #[125])⟩,⟨3,[],.int .i64 d⟩,⟨5,[],pt b1⟩,⟨8,[],pt b2⟩]) [0,2,3,5,8] (k:=?_))
       refine K4 (a26,cap27,g24) [0,2,3,5,8] kr (fun w h=>(h.erase 0)) hO25
    ·
     rintro ⟨xa,xc,xg⟩ hxo
     dsimp only at hxo
     refine A0 (A1 ?_)
     refine A2 (A4 (j:=1) [0] (k:=?_))
     refine D8 Tryz.func47 (N8 r ((C8 (B3 q2)).2)  _ _) ?_
     rintro _ _ rfl
     refine B0 [] [0,2,3,5,8] (k:=A0 ?_)
     refine A2 (A4 (j:=1) [0] (k:=?_))
     refine D8 Tryz.func125 (jmust_ r (B3 ((C8 (B3 q2)).2)) 58 _ _) ?_
     rintro _ _ rfl
     refine B0 [] [0,2,3,5,8] (k:=A0 ?_)
     refine A1 (G_join (T:=Option Addr × Nat × Grp × List Value × Grp) (fun ξ:Option Addr × Nat × Grp × List Value × Grp=>[⟨0,[],pt r⟩,⟨2,[],.string (ByteArray.mk #[125])⟩,⟨3,[],.int .i64 d⟩,⟨5,[],pt b1⟩,⟨8,[],pt b2⟩]) (fun ξ:Option Addr × Nat × Grp × List Value × Grp=>([(r,.cells #[.string (bk ((C7 lv (D7 58 (B3 (C8 (B3 q2)).2))).2).1),.int .i64 (((C7 lv (D7 58 (B3 (C8 (B3 q2)).2))).2).2)] 78 (0,0))]::[(b1,.cells #[.int .i64 6,.string (ByteArray.mk #[]),.slice xa (nn+1) xc,.slice ξ.1 (nl+1) ξ.2.1] 28 (0,0))]::[(b2,.cells #[.int .i64 0,.string (ByteArray.mk #[]),.slice none 0 0,.slice none 0 0] 28 (0,0))]::xg::ξ.2.2.1::gs::ξ.2.2.2.2::H)) (fun ξ:Option Addr × Nat × Grp × List Value × Grp=>(Go.Sw.Own 28 4 (.slice ξ.1 (nl+1) ξ.2.1) ξ.2.2.1 (nl+1) (cs++ξ.2.2.2.1))∧(JRep 9 28 (C7 lv (D7 58 (B3 (C8 (B3 q2)).2))).1 ξ.2.2.2.1 ξ.2.2.2.2)) ?_ ?_)
     ·
      refine P9 ([(b2,.cells #[.int .i64 0,.string (ByteArray.mk #[]),.slice none 0 0,.slice none 0 0] 28 (0,0))]::gs::H) kr (GH_p (fuel:=6) [(0,0),(2,0),(3,0),(4,0)] (fun w h=>((((h.erase 4).erase 3).erase 1).erase 0)) (k:=?_))
      refine GH_wi 48 (d+1) (by omega) (by omega) kr (GH_eff2 1 5 (k:=?_) (k':=?_))
      ·
       refine A5 (ch:=[]) (b:=b1) (off:=3) (v:=.slice la nl lc) (hA:=At.grp 1 0 rfl rfl) (k:=F0 kr (fun w h=>((((h.erase 4).erase 3).erase 1).erase 0)) ?_)
       refine H5 5 (k:=D8 Tryz.func46 (hval (D7 58 (B3 ((C8 (B3 q2)).2))) (by have:=nameq_le q2; omega) _ _ hW) ?_)
       rintro _ _ ⟨vc31,gv31,hJ31,rfl,rfl⟩
       obtain ⟨vk31,vt31,van31,vn31,vcn31,val31,vm31,vcl31,rfl⟩:=hJ31.shape
       refine F0 kr (fun w h=>(((((h.erase 5).erase 4).erase 2).erase 1).erase 0)) (M2 (gv31::[(b2,.cells #[.int .i64 0,.string (ByteArray.mk #[]),.slice none 0 0,.slice none 0 0] 28 (0,0))]::gs::H) (fun w h=>(h.erase 0)) ?_)
       refine H5 6 (k:=C9 (ch:=[]) (e:=28) (l:=[(0,.agg #[.int .i64 vk31,.string vt31,.slice van31 vn31 vcn31,.slice val31 vm31 vcl31])]) (c:=[.int .i64 vk31,.string vt31,.slice van31 vn31 vcn31,.slice val31 vm31 vcl31]) (k:=(fun b32=>?_)))
       refine F0 kr (fun w h=>(((((h.erase 6).erase 5).erase 3).erase 1).erase 0)) (M2 ([(b32,.cells #[.int .i64 vk31,.string vt31,.slice van31 vn31 vcn31,.slice val31 vm31 vcl31] 28 (0,0))]::gv31::[(b2,.cells #[.int .i64 0,.string (ByteArray.mk #[]),.slice none 0 0,.slice none 0 0] 28 (0,0))]::gs::H) (fun w h=>(h.erase 0)) ?_)
       refine H5 7 (k:=G0 (i:=7) (ch:=[]) (t:=26) (tx:=26) (e:=28) (inf:=Tryz.t28) (s:=.slice la nl lc) (x:=.slice (some ⟨b32,0,none⟩) 1 1) (n:=nl) (m:=1) (j:=6) (cs:=cs) (news:=[.int .i64 vk31,.string vt31,.slice van31 vn31 vcn31,.slice val31 vm31 vcl31]) (g:=gl) (S:=(inG [(b32,.cells #[.int .i64 vk31,.string vt31,.slice van31 vn31 vcn31,.slice val31 vm31 vcl31] 28 (0,0))])) rfl rfl rfl rfl kr kr kr rfl rfl (.inl ⟨28,kr⟩) (fun ⟨_,h⟩=>by cases h) (fun _=>⟨28,kr⟩) kr kr kr rfl hL (SrcOf.slice _ _ _ _ Rd.lit (fun h=>by cases h)) (F9 0 rfl) kr (by intro u hu; simp only [List.mem_cons,List.not_mem_nil,or_false] at hu; rcases hu with rfl | rfl | rfl | rfl <;> rfl) (by omega) (by show (nl+1) * 72≤140737488355328; omega) (fun v33 g34 hO35=>?_))
       obtain ⟨a36,cap37,rfl,hcap38,hrd39⟩:=hO35.shape
       refine F0 kr (fun w h=>((((h.erase 6).erase 5).erase 3).erase 1)) (GH_p (fuel:=1) [(8,0)] (fun w h=>((((h.erase 6).erase 5).erase 3).erase 1)) (k:=?_))
       refine H5 9 (k:=E9 (ch:=[]) (b:=b1) (off:=3) (v:=.slice a36 (nl+1) cap37) (j:=3) ([(b32,.cells #[.int .i64 vk31,.string vt31,.slice van31 vn31 vcn31,.slice val31 vm31 vcl31] 28 (0,0))]::[(r,.cells #[.string (bk ((C7 lv (D7 58 (B3 ((C8 (B3 q2)).2)))).2).1),.int .i64 (((C7 lv (D7 58 (B3 ((C8 (B3 q2)).2)))).2).2)] 78 (0,0))]::gv31::[(b1,.cells #[.int .i64 6,.string (ByteArray.mk #[]),.slice xa (nn+1) xc,.slice a36 (nl+1) cap37] 28 (0,0))]::[(b2,.cells #[.int .i64 0,.string (ByteArray.mk #[]),.slice none 0 0,.slice none 0 0] 28 (0,0))]::xg::g34::gs::H) (hoff:=Nat.le_of_ble_eq_true rfl) (hfz:=(fun _ _=>E3)) (k:=?_))
       refine F0 kr (fun w h=>((((h.erase 6).erase 5).erase 3).erase 1)) (N3 (E':=[⟨0,[],pt r⟩,⟨2,[],.string (ByteArray.mk #[125])⟩,⟨3,[],.int .i64 d⟩,⟨5,[],pt b1⟩,⟨8,[],pt b2⟩]) [0,2,3,5,8] (k:=?_))
       refine K4 (a36,cap37,g34,[.int .i64 vk31,.string vt31,.slice van31 vn31 vcn31,.slice val31 vm31 vcl31],gv31) [0,2,3,5,8] kr (fun w h=>((((((((h.front (j:=2) rfl).front (j:=7) rfl).front (j:=7) rfl).front (j:=7) rfl).front (j:=7) rfl).front (j:=7) rfl).front (j:=7) rfl).erase 7)) ⟨hO35,hJ31⟩
      ·
       refine D8 Tryz.func46 (hval (D7 58 (B3 ((C8 (B3 q2)).2))) (by have:=nameq_le q2; omega) _ _ hW) ?_
       rintro _ _ ⟨vc40,gv40,hJ40,rfl,rfl⟩
       obtain ⟨vk40,vt40,van40,vn40,vcn40,val40,vm40,vcl40,rfl⟩:=hJ40.shape
       refine F0 kr (fun w h=>(((((h.erase 5).erase 4).erase 2).erase 1).erase 0)) (M2 (gv40::[(b2,.cells #[.int .i64 0,.string (ByteArray.mk #[]),.slice none 0 0,.slice none 0 0] 28 (0,0))]::gs::H) (fun w h=>(h.erase 0)) ?_)
       refine GH_eff2 1 6 (k:=?_) (k':=?_)
       ·
        refine A5 (ch:=[]) (b:=b1) (off:=3) (v:=.slice la nl lc) (hA:=At.grp 2 0 rfl rfl) (k:=F0 kr (fun w h=>((((h.erase 5).erase 4).erase 2).erase 0)) ?_)
        refine H5 6 (k:=C9 (ch:=[]) (e:=28) (l:=[(0,.agg #[.int .i64 vk40,.string vt40,.slice van40 vn40 vcn40,.slice val40 vm40 vcl40])]) (c:=[.int .i64 vk40,.string vt40,.slice van40 vn40 vcn40,.slice val40 vm40 vcl40]) (k:=(fun b41=>?_)))
        refine F0 kr (fun w h=>(((((h.erase 6).erase 5).erase 3).erase 1).erase 0)) (M2 ([(b41,.cells #[.int .i64 vk40,.string vt40,.slice van40 vn40 vcn40,.slice val40 vm40 vcl40] 28 (0,0))]::gv40::[(b2,.cells #[.int .i64 0,.string (ByteArray.mk #[]),.slice none 0 0,.slice none 0 0] 28 (0,0))]::gs::H) (fun w h=>(h.erase 0)) ?_)
        refine H5 7 (k:=G0 (i:=7) (ch:=[]) (t:=26) (tx:=26) (e:=28) (inf:=Tryz.t28) (s:=.slice la nl lc) (x:=.slice (some ⟨b41,0,none⟩) 1 1) (n:=nl) (m:=1) (j:=6) (cs:=cs) (news:=[.int .i64 vk40,.string vt40,.slice van40 vn40 vcn40,.slice val40 vm40 vcl40]) (g:=gl) (S:=(inG [(b41,.cells #[.int .i64 vk40,.string vt40,.slice van40 vn40 vcn40,.slice val40 vm40 vcl40] 28 (0,0))])) rfl rfl rfl rfl kr kr kr rfl rfl (.inl ⟨28,kr⟩) (fun ⟨_,h⟩=>by cases h) (fun _=>⟨28,kr⟩) kr kr kr rfl hL (SrcOf.slice _ _ _ _ Rd.lit (fun h=>by cases h)) (F9 0 rfl) kr (by intro u hu; simp only [List.mem_cons,List.not_mem_nil,or_false] at hu; rcases hu with rfl | rfl | rfl | rfl <;> rfl) (by omega) (by show (nl+1) * 72≤140737488355328; omega) (fun v42 g43 hO44=>?_))
        obtain ⟨a45,cap46,rfl,hcap47,hrd48⟩:=hO44.shape
        refine F0 kr (fun w h=>((((h.erase 6).erase 5).erase 3).erase 1)) (GH_p (fuel:=1) [(8,0)] (fun w h=>((((h.erase 6).erase 5).erase 3).erase 1)) (k:=?_))
        refine H5 9 (k:=E9 (ch:=[]) (b:=b1) (off:=3) (v:=.slice a45 (nl+1) cap46) (j:=3) ([(b41,.cells #[.int .i64 vk40,.string vt40,.slice van40 vn40 vcn40,.slice val40 vm40 vcl40] 28 (0,0))]::[(r,.cells #[.string (bk ((C7 lv (D7 58 (B3 ((C8 (B3 q2)).2)))).2).1),.int .i64 (((C7 lv (D7 58 (B3 ((C8 (B3 q2)).2)))).2).2)] 78 (0,0))]::gv40::[(b1,.cells #[.int .i64 6,.string (ByteArray.mk #[]),.slice xa (nn+1) xc,.slice a45 (nl+1) cap46] 28 (0,0))]::[(b2,.cells #[.int .i64 0,.string (ByteArray.mk #[]),.slice none 0 0,.slice none 0 0] 28 (0,0))]::xg::g43::gs::H) (hoff:=Nat.le_of_ble_eq_true rfl) (hfz:=(fun _ _=>E3)) (k:=?_))
        refine F0 kr (fun w h=>((((h.erase 6).erase 5).erase 3).erase 1)) (N3 (E':=[⟨0,[],pt r⟩,⟨2,[],.string (ByteArray.mk #[125])⟩,⟨3,[],.int .i64 d⟩,⟨5,[],pt b1⟩,⟨8,[],pt b2⟩]) [0,2,3,5,8] (k:=?_))
        refine K4 (a45,cap46,g43,[.int .i64 vk40,.string vt40,.slice van40 vn40 vcn40,.slice val40 vm40 vcl40],gv40) [0,2,3,5,8] kr (fun w h=>((((((((h.front (j:=2) rfl).front (j:=7) rfl).front (j:=7) rfl).front (j:=7) rfl).front (j:=7) rfl).front (j:=7) rfl).front (j:=7) rfl).erase 7)) ⟨hO44,hJ40⟩
       ·
        refine C9 (ch:=[]) (e:=28) (l:=[(0,.agg #[.int .i64 vk40,.string vt40,.slice van40 vn40 vcn40,.slice val40 vm40 vcl40])]) (c:=[.int .i64 vk40,.string vt40,.slice van40 vn40 vcn40,.slice val40 vm40 vcl40]) (k:=(fun b49=>?_))
        refine F0 kr (fun w h=>(((((h.erase 6).erase 5).erase 3).erase 1).erase 0)) (M2 ([(b49,.cells #[.int .i64 vk40,.string vt40,.slice van40 vn40 vcn40,.slice val40 vm40 vcl40] 28 (0,0))]::gv40::[(b2,.cells #[.int .i64 0,.string (ByteArray.mk #[]),.slice none 0 0,.slice none 0 0] 28 (0,0))]::gs::H) (fun w h=>(h.erase 0)) ?_)
        refine H5 1 (k:=A5 (ch:=[]) (b:=b1) (off:=3) (v:=.slice la nl lc) (hA:=At.grp 3 0 rfl rfl) (k:=?_))
        refine F0 kr (fun w h=>((((h.erase 6).erase 5).erase 3).erase 1)) (H5 7 (k:=?_))
        refine G0 (i:=7) (ch:=[]) (t:=26) (tx:=26) (e:=28) (inf:=Tryz.t28) (s:=.slice la nl lc) (x:=.slice (some ⟨b49,0,none⟩) 1 1) (n:=nl) (m:=1) (j:=6) (cs:=cs) (news:=[.int .i64 vk40,.string vt40,.slice van40 vn40 vcn40,.slice val40 vm40 vcl40]) (g:=gl) (S:=(inG [(b49,.cells #[.int .i64 vk40,.string vt40,.slice van40 vn40 vcn40,.slice val40 vm40 vcl40] 28 (0,0))])) rfl rfl rfl rfl kr kr kr rfl rfl (.inl ⟨28,kr⟩) (fun ⟨_,h⟩=>by cases h) (fun _=>⟨28,kr⟩) kr kr kr rfl hL (SrcOf.slice _ _ _ _ Rd.lit (fun h=>by cases h)) (F9 0 rfl) kr (by intro u hu; simp only [List.mem_cons,List.not_mem_nil,or_false] at hu; rcases hu with rfl | rfl | rfl | rfl <;> rfl) (by omega) (by show (nl+1) * 72≤140737488355328; omega) (fun v50 g51 hO52=>?_)
        obtain ⟨a53,cap54,rfl,hcap55,hrd56⟩:=hO52.shape
        refine F0 kr (fun w h=>((((h.erase 6).erase 5).erase 3).erase 1)) (GH_p (fuel:=1) [(8,0)] (fun w h=>((((h.erase 6).erase 5).erase 3).erase 1)) (k:=?_))
        refine H5 9 (k:=E9 (ch:=[]) (b:=b1) (off:=3) (v:=.slice a53 (nl+1) cap54) (j:=3) ([(b49,.cells #[.int .i64 vk40,.string vt40,.slice van40 vn40 vcn40,.slice val40 vm40 vcl40] 28 (0,0))]::[(r,.cells #[.string (bk ((C7 lv (D7 58 (B3 ((C8 (B3 q2)).2)))).2).1),.int .i64 (((C7 lv (D7 58 (B3 ((C8 (B3 q2)).2)))).2).2)] 78 (0,0))]::gv40::[(b1,.cells #[.int .i64 6,.string (ByteArray.mk #[]),.slice xa (nn+1) xc,.slice a53 (nl+1) cap54] 28 (0,0))]::[(b2,.cells #[.int .i64 0,.string (ByteArray.mk #[]),.slice none 0 0,.slice none 0 0] 28 (0,0))]::xg::g51::gs::H) (hoff:=Nat.le_of_ble_eq_true rfl) (hfz:=(fun _ _=>E3)) (k:=?_))
        refine F0 kr (fun w h=>((((h.erase 6).erase 5).erase 3).erase 1)) (N3 (E':=[⟨0,[],pt r⟩,⟨2,[],.string (ByteArray.mk #[125])⟩,⟨3,[],.int .i64 d⟩,⟨5,[],pt b1⟩,⟨8,[],pt b2⟩]) [0,2,3,5,8] (k:=?_))
        refine K4 (a53,cap54,g51,[.int .i64 vk40,.string vt40,.slice van40 vn40 vcn40,.slice val40 vm40 vcl40],gv40) [0,2,3,5,8] kr (fun w h=>((((((((h.front (j:=2) rfl).front (j:=7) rfl).front (j:=7) rfl).front (j:=7) rfl).front (j:=7) rfl).front (j:=7) rfl).front (j:=7) rfl).erase 7)) ⟨hO52,hJ40⟩
     ·
      rintro ⟨ya,yc,yg,c,gv⟩ ⟨hyo,hJ⟩
      dsimp only at hyo hJ
      refine A0 (A1 ?_)
      refine A2 (A4 (j:=1) [0] (k:=?_))
      refine D8 Tryz.func47 (N8 r ((C7 lv (D7 58 (B3 (C8 (B3 q2)).2))).2)  _ _) ?_
      rintro _ _ rfl
      refine B0 [] [0,2,3,5,8] (k:=A0 ?_)
      refine A1 (A1 ?_)
      refine A2 (A4 (j:=2) [0,0] (k:=?_))
      refine D8 Tryz.func78 (jtake_ r (B3 ((C7 lv (D7 58 (B3 (C8 (B3 q2)).2))).2)) (ByteArray.mk #[125]) _ _) ?_
      rintro _ _ (⟨hk57,rfl,rfl⟩ | ⟨hk57,rfl,rfl⟩)
      ·
       have hk57:(B3 ((C7 lv (D7 58 (B3 (C8 (B3 q2)).2))).2)).1.take 1=[125]:=hk57
       have hM:memR (C7 lv) true ((blk q.1).length+1) [] [] (B3 q)=((ns++[(C8 (B3 q2)).1],vs++[(C7 lv (D7 58 (B3 (C8 (B3 q2)).2))).1]),((blk (C7 lv (D7 58 (B3 (C8 (B3 q2)).2))).2.1).drop 1,(C7 lv (D7 58 (B3 (C8 (B3 q2)).2))).2.2)):=hT.trans (memR_last hq0 (fun _=>h34) (show (blk (C7 lv (D7 58 (B3 (C8 (B3 q2)).2))).2.1).take 1=[Q0 true] from hk57))
       refine B0 [] [0,2,3,5,8,57] (k:=A0 ?_)
       refine E8 kr (G3 ?_)
       refine A9 (R1 rfl ?_)
       refine A9 (C5 ?_)
       refine A0 (A1 ?_)
       refine A2 (D3 (ch:=[]) (b:=b1) (off:=0) (l:=[.int .i64 6,.string (ByteArray.mk #[]),.slice xa (nn+1) xc,.slice ya (nl+1) yc]) (hA:=At.grp 1 0 rfl rfl) (k:=?_))
       refine E9 (ch:=[]) (b:=b2) (off:=0) (v:=.agg #[.int .i64 6,.string (ByteArray.mk #[]),.slice xa (nn+1) xc,.slice ya (nl+1) yc]) (j:=2) ([(r,.cells #[.string (bk ((B3 ((C7 lv (D7 58 (B3 (C8 (B3 q2)).2))).2)).1.drop 1,(B3 ((C7 lv (D7 58 (B3 (C8 (B3 q2)).2))).2)).2).1),.int .i64 (((B3 ((C7 lv (D7 58 (B3 (C8 (B3 q2)).2))).2)).1.drop 1,(B3 ((C7 lv (D7 58 (B3 (C8 (B3 q2)).2))).2)).2).2)] 78 (0,0))]::[(b1,.cells #[.int .i64 6,.string (ByteArray.mk #[]),.slice xa (nn+1) xc,.slice ya (nl+1) yc] 28 (0,0))]::[(b2,.cells #[.int .i64 6,.string (ByteArray.mk #[]),.slice xa (nn+1) xc,.slice ya (nl+1) yc] 28 (0,0))]::xg::yg::gs::gv::H) (hoff:=Nat.le_of_ble_eq_true rfl) (hfz:=(fun _ _=>E3)) (k:=B1 (E':=[⟨8,[],pt b2⟩]) [] [8] (k:=?_))
       refine A0 (B5 ?_)
       refine C1 (H':=([(r,.cells #[.string (bk ((B3 ((C7 lv (D7 58 (B3 (C8 (B3 q2)).2))).2)).1.drop 1,(B3 ((C7 lv (D7 58 (B3 (C8 (B3 q2)).2))).2)).2).1),.int .i64 (((B3 ((C7 lv (D7 58 (B3 (C8 (B3 q2)).2))).2)).1.drop 1,(B3 ((C7 lv (D7 58 (B3 (C8 (B3 q2)).2))).2)).2).2)] 78 (0,0))]::[(b2,.cells #[.int .i64 6,.string (ByteArray.mk #[]),.slice xa (nn+1) xc,.slice ya (nl+1) yc] 28 (0,0))]::(xg++(yg++(gs++gv)))::H)) (fun w h=>Sat.flat (h.erase 1) (List.Perm.of_eq (by simp []))) (L5 [.cell 8 28] [.agg #[.int .i64 6,.string (ByteArray.mk #[]),.slice xa (nn+1) xc,.slice ya (nl+1) yc]] rfl (.cons (.agg (b:=b2) (off:=0) (l:=[.int .i64 6,.string (ByteArray.mk #[]),.slice xa (nn+1) xc,.slice ya (nl+1) yc]) kr kr kr (At.grp 1 0 rfl rfl) kr) (.nil)) rfl ⟨([(r,.cells #[.string (bk ((B3 ((C7 lv (D7 58 (B3 (C8 (B3 q2)).2))).2)).1.drop 1,(B3 ((C7 lv (D7 58 (B3 (C8 (B3 q2)).2))).2)).2).1),.int .i64 (((B3 ((C7 lv (D7 58 (B3 (C8 (B3 q2)).2))).2)).1.drop 1,(B3 ((C7 lv (D7 58 (B3 (C8 (B3 q2)).2))).2)).2).2)] 78 (0,0))]::(xg++(yg++(gs++gv)))::H),?_,fun w h=>(h.erase 1)⟩)
       subst hnl; subst hnn; rw [mbR_mem hB0 hM]; exact ⟨_,_,.mk (by rw [strV_app,List.length_append]; exact hxo) (by rw [List.length_append]; exact hyo) (hP.snoc hJ),(by simp only [List.length_append]; rfl),rfl⟩
      ·
       have hk57:¬ (B3 ((C7 lv (D7 58 (B3 (C8 (B3 q2)).2))).2)).1.take 1=[125]:=hk57
       have hE:¬ (blk (C7 lv (D7 58 (B3 (C8 (B3 q2)).2))).2.1).take 1=[Q0 true]:=hk57
       refine B0 [] [0,2,3,5,8,57] (k:=A0 ?_)
       refine C2 kr (A8 ?_)
       refine A0 (A2 ?_)
       refine A4 (j:=1) [0] (k:=D8 Tryz.func125 (jmust_ r (B3 ((C7 lv (D7 58 (B3 (C8 (B3 q2)).2))).2)) 44 _ _) ?_)
       rintro _ _ rfl
       refine B0 [] [0,2,3,5,8] (k:=B8 ?_)
       refine C1 (H':=([(r,.cells #[.string (bk (D7 44 (B3 ((C7 lv (D7 58 (B3 (C8 (B3 q2)).2))).2))).1),.int .i64 ((D7 44 (B3 ((C7 lv (D7 58 (B3 (C8 (B3 q2)).2))).2))).2)] 78 (0,0))]::[(b1,.cells #[.int .i64 6,.string (ByteArray.mk #[]),.slice xa (nn+1) xc,.slice ya (nl+1) yc] 28 (0,0))]::[(b2,.cells #[.int .i64 0,.string (ByteArray.mk #[]),.slice none 0 0,.slice none 0 0] 28 (0,0))]::xg::yg::(gs++gv)::H)) (fun w h=>Sat.flat h (List.Perm.of_eq (by simp [rdG]))) (E6 (s':=(m,(D7 44 (B3 (C7 lv (D7 58 (B3 (C8 (B3 q2)).2))).2)),(vs++[(C7 lv (D7 58 (B3 (C8 (B3 q2)).2))).1]),(nl+1),ya,yc,yg,(cs++c),(gs++gv),(ns++[(C8 (B3 q2)).1]),(nn+1),xa,xc,xg)) [0,2,3,5,8] kr rfl ⟨(by dsimp only; intro h0; have:=round_len (lv:=lv) (obj:=true) (ns:=ns) (q:=q2) h0; have h9:=hn hq0; exact Nat.lt_of_lt_of_le this (Nat.le_of_lt_succ h9)),(by dsimp only; rw [hT]; exact memR_next hq0 (fun _=>h34) (show ¬ (blk (C7 lv (D7 58 (B3 (C8 (B3 q2)).2))).2.1).take 1=[Q0 true] from hE)),hyo,(by dsimp only; rw [List.length_append,hnl]; rfl),(by dsimp only; exact hP.snoc hJ),(by dsimp only; omega),(by dsimp only; rw [strV_app]; exact hxo),(by dsimp only; rw [List.length_append,hnn]; rfl),(by dsimp only; omega)⟩ (by dsimp only; omega))
  ·
   have hq0:¬ q2.2=0:=by simpa using hc4
   have hM:=hT.trans (memR_end hq0)
   refine G3 (A9 ?_)
   refine A9 (C5 ?_)
   refine A0 (A1 ?_)
   refine A2 (D3 (ch:=[]) (b:=b1) (off:=0) (l:=[.int .i64 6,.string (ByteArray.mk #[]),.slice na nn nc,.slice la nl lc]) (hA:=At.grp 1 0 rfl rfl) (k:=?_))
   refine E9 (ch:=[]) (b:=b2) (off:=0) (v:=.agg #[.int .i64 6,.string (ByteArray.mk #[]),.slice na nn nc,.slice la nl lc]) (j:=2) ([(r,.cells #[.string (bk q2.1),.int .i64 q2.2] 78 (0,0))]::[(b1,.cells #[.int .i64 6,.string (ByteArray.mk #[]),.slice na nn nc,.slice la nl lc] 28 (0,0))]::[(b2,.cells #[.int .i64 6,.string (ByteArray.mk #[]),.slice na nn nc,.slice la nl lc] 28 (0,0))]::gn::gl::gs::H) (hoff:=Nat.le_of_ble_eq_true rfl) (hfz:=(fun _ _=>E3)) (k:=B1 (E':=[⟨8,[],pt b2⟩]) [] [8] (k:=?_))
   refine A0 (B5 ?_)
   refine C1 (H':=([(r,.cells #[.string (bk q2.1),.int .i64 q2.2] 78 (0,0))]::[(b2,.cells #[.int .i64 6,.string (ByteArray.mk #[]),.slice na nn nc,.slice la nl lc] 28 (0,0))]::(gn++(gl++gs))::H)) (fun w h=>Sat.flat (h.erase 1) (List.Perm.of_eq (by simp []))) (L5 [.cell 8 28] [.agg #[.int .i64 6,.string (ByteArray.mk #[]),.slice na nn nc,.slice la nl lc]] rfl (.cons (.agg (b:=b2) (off:=0) (l:=[.int .i64 6,.string (ByteArray.mk #[]),.slice na nn nc,.slice la nl lc]) kr kr kr (At.grp 1 0 rfl rfl) kr) (.nil)) rfl ⟨([(r,.cells #[.string (bk q2.1),.int .i64 q2.2] 78 (0,0))]::(gn++(gl++gs))::H),?_,fun w h=>(h.erase 1)⟩)
   subst hnl; subst hnn; rw [mbR_mem hB0 hM]; exact ⟨_,_,.mk hN hL hP,rfl,rfl⟩
end Go.Proofs.YtppgfiklmfoaeaaGreatDoor
namespace Go.Proofs.YtppgfiklmfoaeaaGreatDoor
open Go.Sw Go.Sha Go.Esc Go.RowKit Go.Json
theorem text_bk (l:List UInt8) (n:Nat):(bk l).extract 0 n=bk (l.take n):=ext_bkT l n
theorem jvalueW_ (lv:Nat) (d:Int) (hd:d=24 - (lv:Int)) (hlv:lv≤24) (r:Nat) (q:RdS) (hl:q.1.length≤1000000) (hmemT:∀ n,lv=n+1→∀ (q:RdS),q.1.length≤1000000→∀ (W0:World) (H:List Grp),F2 W0→Tri Tryz.prog 79 #[pt r,.agg #[.int .i64 6,.string (ByteArray.mk #[]),.slice none 0 0,.slice none 0 0],.string (ByteArray.mk #[125]),.int .i64 d] W0 (rdG r q::H) (fun v H2=>∃ c g,JRep 9 28 (mbR (C7 n) true q).1 c g∧v=.agg c.toArray∧H2=rdG r (mbR (C7 n) true q).2::g::H)) (hmemF:∀ n,lv=n+1→∀ (q:RdS),q.1.length≤1000000→∀ (W0:World) (H:List Grp),F2 W0→Tri Tryz.prog 79 #[pt r,.agg #[.int .i64 5,.string (ByteArray.mk #[]),.slice none 0 0,.slice none 0 0],.string (ByteArray.mk #[93]),.int .i64 d] W0 (rdG r q::H) (fun v H2=>∃ c g,JRep 9 28 (mbR (C7 n) false q).1 c g∧v=.agg c.toArray∧H2=rdG r (mbR (C7 n) false q).2::g::H)) (W0:World) (H:List Grp) (hW:F2 W0):Tri Tryz.prog 46 #[pt r,.int .i64 d] W0 ([(r,.cells #[.string (bk q.1),.int .i64 q.2] 78 (0,0))]::H) (fun v H2=>∃ c g,JRep 9 28 (C7 lv q).1 c g∧v=.agg c.toArray∧H2=rdG r (C7 lv q).2::g::H):=by
  refine C6 (args:=[pt r,.int .i64 d]) (n:=96) Tryz.func46 rfl rfl (Nat.le_of_ble_eq_true rfl) ?_
  refine A1 (A2 ?_)
  refine F5 (ch:=[]) (z:=.agg #[.int .i64 0,.string (ByteArray.mk #[]),.slice none 0 0,.slice none 0 0]) (k:=(fun b1=>?_))
  refine B0 [] [0,1,4] (k:=A0 ?_)
  refine A1 (A2 ?_)
  refine A4 (j:=1) [0] (k:=J3 rfl (H':=([(r,.cells #[.string (bk q.1),.int .i64 q.2] 78 (0,0))]::[(b1,.cells #[.int .i64 0,.string (ByteArray.mk #[]),.slice none 0 0,.slice none 0 0] 28 (0,0))]::H)) (fun w h=>(h.front (j:=1) rfl)) ?_)
  refine D8 Tryz.func47 (N8 r q  _ _) ?_
  rintro _ _ rfl
  refine B0 [] [0,1,4] (k:=A0 ?_)
  refine A1 (A1 ?_)
  refine A2 (A4 (j:=6) [0,0,0,0,0,0] (k:=?_))
  refine A5 (ch:=[(11,true)]) (b:=r) (off:=0) (v:=.string (bk (B3 q).1)) (hA:=At.grp 0 0 rfl rfl) (k:=F7 (ch:=[(11,true)]) (f:=77) (fst:=#[]) (caps:=#[]) (vs:=[.string (bk (B3 q).1),.string (ByteArray.mk #[91])]) (v:=.bool (G4 (bk (B3 q).1) (ByteArray.mk #[91]))) (hf:=Tryz.func77) (hc:=(fun hc=>jhas_ (bk (B3 q).1) (ByteArray.mk #[91]) _ _)) (k:=?_))
  refine A4 (j:=12) [0,0,0,0] (k:=A5 (ch:=[(17,false),(11,true)]) (b:=r) (off:=0) (v:=.string (bk (B3 q).1)) (hA:=At.grp 0 0 rfl rfl) (k:=?_))
  refine F7 (ch:=[(17,false),(11,true)]) (f:=77) (fst:=#[]) (caps:=#[]) (vs:=[.string (bk (B3 q).1),.string (ByteArray.mk #[123])]) (v:=.bool (G4 (bk (B3 q).1) (ByteArray.mk #[123]))) (hf:=Tryz.func77) (hc:=(fun hc=>jhas_ (bk (B3 q).1) (ByteArray.mk #[123]) _ _)) (k:=B0 [5,6] [0,1,4,24] (k:=?_))
  refine A0 (G_join (T:=RdS) (fun ξ:RdS=>[⟨0,[],pt r⟩,⟨1,[],.int .i64 d⟩,⟨4,[],pt b1⟩]) (fun ξ:RdS=>([(r,.cells #[.string (bk ξ.1),.int .i64 ξ.2] 78 (0,0))]::[(b1,.cells #[.int .i64 0,.string (ByteArray.mk #[]),.slice none 0 0,.slice none 0 0] 28 (0,0))]::H)) (fun ξ:RdS=>(ξ=vq1 lv q)) ?_ ?_)
  ·
    refine B2 (b:=(decide (d ≥ 24))&&((G4 (bk (B3 q).1) (ByteArray.mk #[91]))||(G4 (bk (B3 q).1) (ByteArray.mk #[123])))) kr (fun hc2=>?_) (fun hc2=>?_)
    ·
      simp only [Bool.and_eq_true,Bool.or_eq_true,decide_eq_true_eq,L2,ge_iff_le] at hc2
      have hl0:lv=0:=by omega
      have ho:P4 (blk q.1):=by
        rcases hc2.2 with h | h
        · exact .inl ((take1 (by decide)).1 h)
        · exact .inr ((take1 (by decide)).1 h)
      refine A2 (A4 (j:=1) [0] (k:=?_))
      refine D8 Tryz.func48 (jfault_ r (B3 q) 71 _ _) ?_
      rintro _ _ rfl
      refine B0 [] [0,1,4] (k:=K4 ((P6 71 (B3 q))) [0,1,4] kr (fun w h=>h) (by first | (rw [hl0]; exact (vq1_zero ho).symm) | exact (vq1_else hno).symm))
    ·
      simp only [Bool.and_eq_false_iff,Bool.or_eq_false_iff,decide_eq_false_iff_not,K6,ge_iff_le] at hc2
      have hno:¬ (lv=0∧P4 (blk q.1)):=by
        rintro ⟨h0,ho⟩
        rcases hc2 with h | h
        · omega
        · rcases ho with ho | ho
          · exact h.1 ((take1 (by decide)).2 ho)
          · exact h.2 ((take1 (by decide)).2 ho)
      refine A8 (K4 ((B3 q)) [0,1,4] kr (fun w h=>h) (by first | (rw [hl0]; exact (vq1_zero ho).symm) | exact (vq1_else hno).symm))
  ·
    rintro q1 hq
    have hl1:q1.1.length≤1000000:=by rw [hq,vq1_fst]; have:=J8 q.1; omega
    have hbz:=C3 q1.1
    refine A0 (A1 ?_)
    refine B9 (A1 ?_)
    refine A2 (A4 (j:=3) [0,0,0] (k:=?_))
    refine A5 (ch:=[]) (b:=r) (off:=1) (v:=.int .i64 q1.2) (hA:=At.grp 0 0 rfl rfl) (k:=B0 [0,0] [0,1,4,27] (k:=?_))
    refine A0 (B2 (b:=q1.2 != 0) kr (fun hc3=>?_) (fun hc3=>?_))
    ·
      have hf:¬ q1.2=0:=by simpa using hc3
      refine A1 (A2 ?_)
      refine A4 (j:=1) [0] (k:=E9 (ch:=[]) (b:=b1) (off:=0) (v:=.agg #[.int .i64 0,.string (ByteArray.mk #[]),.slice none 0 0,.slice none 0 0]) (j:=1) ([(r,.cells #[.string (bk q1.1),.int .i64 q1.2] 78 (0,0))]::[(b1,.cells #[.int .i64 0,.string (ByteArray.mk #[]),.slice none 0 0,.slice none 0 0] 28 (0,0))]::H) (hoff:=Nat.le_of_ble_eq_true rfl) (hfz:=(fun _ _=>E3)) (k:=?_))
      refine B1 (E':=[⟨4,[],pt b1⟩]) [] [4] (k:=A0 ?_)
      refine B5 (B4 ?_)
      refine A3 (C1 (H':=([(r,.cells #[.string (bk q1.1),.int .i64 q1.2] 78 (0,0))]::[(b1,.cells #[.int .i64 0,.string (ByteArray.mk #[]),.slice none 0 0,.slice none 0 0] 28 (0,0))]::[]::H)) (fun w h=>Sat.flat h (List.Perm.refl _)) ?_)
      refine L5 [.cell 4 28] [.agg #[.int .i64 0,.string (ByteArray.mk #[]),.slice none 0 0,.slice none 0 0]] rfl (.cons (.agg (b:=b1) (off:=0) (l:=[.int .i64 0,.string (ByteArray.mk #[]),.slice none 0 0,.slice none 0 0]) kr kr kr (At.grp 1 0 rfl rfl) kr) (.nil)) rfl ⟨([(r,.cells #[.string (bk q1.1),.int .i64 q1.2] 78 (0,0))]::[]::H),?_,fun w h=>(h.erase 1)⟩
      rw [val_0 hq hf]; exact ⟨_,_,JRep.atom 0 [],rfl,rfl⟩
    ·
      have hf:q1.2=0:=by simpa using hc3
      refine A1 (A2 ?_)
      refine A4 (j:=1) [0] (k:=D8 Tryz.func78 (jtake_ r q1 (ByteArray.mk #[110,117,108,108]) _ _) ?_)
      rintro _ _ (⟨hk4,rfl,rfl⟩ | ⟨hk4,rfl,rfl⟩)
      ·
        have hk4:q1.1.take 4=[110,117,108,108]:=hk4
        have c1:=hk4
        refine B0 [0] [0,1,4,34] (k:=A0 ?_)
        refine E8 kr (A1 ?_)
        refine A2 (A4 (j:=1) [0] (k:=?_))
        refine E9 (ch:=[]) (b:=b1) (off:=0) (v:=.agg #[.int .i64 0,.string (ByteArray.mk #[]),.slice none 0 0,.slice none 0 0]) (j:=1) ([(r,.cells #[.string (bk (q1.1.drop 4,q1.2).1),.int .i64 ((q1.1.drop 4,q1.2).2)] 78 (0,0))]::[(b1,.cells #[.int .i64 0,.string (ByteArray.mk #[]),.slice none 0 0,.slice none 0 0] 28 (0,0))]::H) (hoff:=Nat.le_of_ble_eq_true rfl) (hfz:=(fun _ _=>E3)) (k:=B1 (E':=[⟨4,[],pt b1⟩]) [] [4] (k:=?_))
        refine A0 (B5 ?_)
        refine B4 (A3 ?_)
        refine C1 (H':=([(r,.cells #[.string (bk (q1.1.drop 4,q1.2).1),.int .i64 ((q1.1.drop 4,q1.2).2)] 78 (0,0))]::[(b1,.cells #[.int .i64 0,.string (ByteArray.mk #[]),.slice none 0 0,.slice none 0 0] 28 (0,0))]::[]::H)) (fun w h=>Sat.flat h (List.Perm.refl _)) (L5 [.cell 4 28] [.agg #[.int .i64 0,.string (ByteArray.mk #[]),.slice none 0 0,.slice none 0 0]] rfl (.cons (.agg (b:=b1) (off:=0) (l:=[.int .i64 0,.string (ByteArray.mk #[]),.slice none 0 0,.slice none 0 0]) kr kr kr (At.grp 1 0 rfl rfl) kr) (.nil)) rfl ⟨([(r,.cells #[.string (bk (q1.1.drop 4,q1.2).1),.int .i64 ((q1.1.drop 4,q1.2).2)] 78 (0,0))]::[]::H),?_,fun w h=>(h.erase 1)⟩)
        rw [val_null hq hf c1]; exact ⟨_,_,JRep.atom 0 [],rfl,rfl⟩
      ·
        have hk4:¬ q1.1.take 4=[110,117,108,108]:=hk4
        have c1:=hk4
        refine B0 [0] [0,1,4,34] (k:=A0 ?_)
        refine C2 kr (A1 ?_)
        refine A2 (A4 (j:=1) [0] (k:=?_))
        refine D8 Tryz.func78 (jtake_ r q1 (ByteArray.mk #[102,97,108,115,101]) _ _) ?_
        rintro _ _ (⟨hk5,rfl,rfl⟩ | ⟨hk5,rfl,rfl⟩)
        ·
          have hk5:q1.1.take 5=[102,97,108,115,101]:=hk5
          have c2:=hk5
          refine B0 [0] [0,1,4,38] (k:=A0 ?_)
          refine E8 kr (A1 ?_)
          refine A2 (A4 (j:=1) [0] (k:=?_))
          refine E9 (ch:=[]) (b:=b1) (off:=0) (v:=.agg #[.int .i64 1,.string (ByteArray.mk #[]),.slice none 0 0,.slice none 0 0]) (j:=1) ([(r,.cells #[.string (bk (q1.1.drop 5,q1.2).1),.int .i64 ((q1.1.drop 5,q1.2).2)] 78 (0,0))]::[(b1,.cells #[.int .i64 1,.string (ByteArray.mk #[]),.slice none 0 0,.slice none 0 0] 28 (0,0))]::H) (hoff:=Nat.le_of_ble_eq_true rfl) (hfz:=(fun _ _=>E3)) (k:=B1 (E':=[⟨4,[],pt b1⟩]) [] [4] (k:=?_))
          refine A0 (B5 ?_)
          refine B4 (A3 ?_)
          refine C1 (H':=([(r,.cells #[.string (bk (q1.1.drop 5,q1.2).1),.int .i64 ((q1.1.drop 5,q1.2).2)] 78 (0,0))]::[(b1,.cells #[.int .i64 1,.string (ByteArray.mk #[]),.slice none 0 0,.slice none 0 0] 28 (0,0))]::[]::H)) (fun w h=>Sat.flat h (List.Perm.refl _)) (L5 [.cell 4 28] [.agg #[.int .i64 1,.string (ByteArray.mk #[]),.slice none 0 0,.slice none 0 0]] rfl (.cons (.agg (b:=b1) (off:=0) (l:=[.int .i64 1,.string (ByteArray.mk #[]),.slice none 0 0,.slice none 0 0]) kr kr kr (At.grp 1 0 rfl rfl) kr) (.nil)) rfl ⟨([(r,.cells #[.string (bk (q1.1.drop 5,q1.2).1),.int .i64 ((q1.1.drop 5,q1.2).2)] 78 (0,0))]::[]::H),?_,fun w h=>(h.erase 1)⟩)
          rw [val_false hq hf c1 c2]; exact ⟨_,_,JRep.atom 1 [],rfl,rfl⟩
        ·
          have hk5:¬ q1.1.take 5=[102,97,108,115,101]:=hk5
          have c2:=hk5
          refine B0 [0] [0,1,4,38] (k:=A0 ?_)
          refine C2 kr (A1 ?_)
          refine A2 (A4 (j:=1) [0] (k:=?_))
          refine D8 Tryz.func78 (jtake_ r q1 (ByteArray.mk #[116,114,117,101]) _ _) ?_
          rintro _ _ (⟨hk6,rfl,rfl⟩ | ⟨hk6,rfl,rfl⟩)
          ·
            have hk6:q1.1.take 4=[116,114,117,101]:=hk6
            have c3:=hk6
            refine B0 [0] [0,1,4,42] (k:=A0 ?_)
            refine E8 kr (A1 ?_)
            refine A2 (A4 (j:=1) [0] (k:=?_))
            refine E9 (ch:=[]) (b:=b1) (off:=0) (v:=.agg #[.int .i64 2,.string (ByteArray.mk #[]),.slice none 0 0,.slice none 0 0]) (j:=1) ([(r,.cells #[.string (bk (q1.1.drop 4,q1.2).1),.int .i64 ((q1.1.drop 4,q1.2).2)] 78 (0,0))]::[(b1,.cells #[.int .i64 2,.string (ByteArray.mk #[]),.slice none 0 0,.slice none 0 0] 28 (0,0))]::H) (hoff:=Nat.le_of_ble_eq_true rfl) (hfz:=(fun _ _=>E3)) (k:=B1 (E':=[⟨4,[],pt b1⟩]) [] [4] (k:=?_))
            refine A0 (B5 ?_)
            refine B4 (A3 ?_)
            refine C1 (H':=([(r,.cells #[.string (bk (q1.1.drop 4,q1.2).1),.int .i64 ((q1.1.drop 4,q1.2).2)] 78 (0,0))]::[(b1,.cells #[.int .i64 2,.string (ByteArray.mk #[]),.slice none 0 0,.slice none 0 0] 28 (0,0))]::[]::H)) (fun w h=>Sat.flat h (List.Perm.refl _)) (L5 [.cell 4 28] [.agg #[.int .i64 2,.string (ByteArray.mk #[]),.slice none 0 0,.slice none 0 0]] rfl (.cons (.agg (b:=b1) (off:=0) (l:=[.int .i64 2,.string (ByteArray.mk #[]),.slice none 0 0,.slice none 0 0]) kr kr kr (At.grp 1 0 rfl rfl) kr) (.nil)) rfl ⟨([(r,.cells #[.string (bk (q1.1.drop 4,q1.2).1),.int .i64 ((q1.1.drop 4,q1.2).2)] 78 (0,0))]::[]::H),?_,fun w h=>(h.erase 1)⟩)
            rw [val_true hq hf c1 c2 c3]; exact ⟨_,_,JRep.atom 2 [],rfl,rfl⟩
          ·
            have hk6:¬ q1.1.take 4=[116,114,117,101]:=hk6
            have c3:=hk6
            refine B0 [0] [0,1,4,42] (k:=A0 ?_)
            refine C2 kr (A1 ?_)
            refine A2 (A4 (j:=1) [0] (k:=?_))
            refine D8 Tryz.func78 (jtake_ r q1 (ByteArray.mk #[91]) _ _) ?_
            rintro _ _ (⟨hk7,rfl,rfl⟩ | ⟨hk7,rfl,rfl⟩)
            ·
              have hk7:q1.1.take 1=[91]:=hk7
              have c4:=hk7
              obtain ⟨n,hln,hvm⟩:=val_many hq hf false c4
              refine B0 [0] [0,1,4,46] (k:=A0 ?_)
              refine E8 kr (A1 ?_)
              refine A2 (A4 (j:=3) [0,0,0] (k:=?_))
              refine D8 (vs:=[pt r,.agg #[.int .i64 5,.string (ByteArray.mk #[]),.slice none 0 0,.slice none 0 0],.string (ByteArray.mk #[93]),.int .i64 d]) Tryz.func79 (hmemF n hln (q1.1.drop 1,q1.2) (by show (List.drop 1 _).length≤_; rw [List.length_drop]; omega) _ _ hW) ?_
              rintro _ _ ⟨vc8,gv8,hJ8,rfl,rfl⟩
              obtain ⟨vk8,vt8,van8,vn8,vcn8,val8,vm8,vcl8,rfl⟩:=hJ8.shape
              refine E9 (ch:=[]) (b:=b1) (off:=0) (v:=.agg #[.int .i64 vk8,.string vt8,.slice van8 vn8 vcn8,.slice val8 vm8 vcl8]) (j:=2) ([(r,.cells #[.string (bk ((mbR (C7 n) false (q1.1.drop 1,q1.2)).2).1),.int .i64 (((mbR (C7 n) false (q1.1.drop 1,q1.2)).2).2)] 78 (0,0))]::gv8::[(b1,.cells #[.int .i64 vk8,.string vt8,.slice van8 vn8 vcn8,.slice val8 vm8 vcl8] 28 (0,0))]::H) (hoff:=Nat.le_of_ble_eq_true rfl) (hfz:=(fun _ _=>E3)) (k:=B1 (E':=[⟨4,[],pt b1⟩]) [] [4] (k:=?_))
              refine A0 (B5 ?_)
              refine B4 (A3 ?_)
              refine C1 (H':=([(r,.cells #[.string (bk ((mbR (C7 n) false (q1.1.drop 1,q1.2)).2).1),.int .i64 (((mbR (C7 n) false (q1.1.drop 1,q1.2)).2).2)] 78 (0,0))]::[(b1,.cells #[.int .i64 vk8,.string vt8,.slice van8 vn8 vcn8,.slice val8 vm8 vcl8] 28 (0,0))]::gv8::H)) (fun w h=>Sat.flat (((h.front (j:=1) rfl).front (j:=2) rfl).front (j:=2) rfl) (List.Perm.refl _)) (L5 [.cell 4 28] [.agg #[.int .i64 vk8,.string vt8,.slice van8 vn8 vcn8,.slice val8 vm8 vcl8]] rfl (.cons (.agg (b:=b1) (off:=0) (l:=[.int .i64 vk8,.string vt8,.slice van8 vn8 vcn8,.slice val8 vm8 vcl8]) kr kr kr (At.grp 1 0 rfl rfl) kr) (.nil)) rfl ⟨([(r,.cells #[.string (bk ((mbR (C7 n) false (q1.1.drop 1,q1.2)).2).1),.int .i64 (((mbR (C7 n) false (q1.1.drop 1,q1.2)).2).2)] 78 (0,0))]::gv8::H),?_,fun w h=>(h.erase 1)⟩)
              rw [hvm]; exact ⟨_,_,hJ8,rfl,rfl⟩
            ·
              have hk7:¬ q1.1.take 1=[91]:=hk7
              have c4:=hk7
              refine B0 [0] [0,1,4,46] (k:=A0 ?_)
              refine C2 kr (A1 ?_)
              refine A2 (A4 (j:=1) [0] (k:=?_))
              refine D8 Tryz.func78 (jtake_ r q1 (ByteArray.mk #[123]) _ _) ?_
              rintro _ _ (⟨hk9,rfl,rfl⟩ | ⟨hk9,rfl,rfl⟩)
              ·
                have hk9:q1.1.take 1=[123]:=hk9
                have c5:=hk9
                obtain ⟨n,hln,hvm⟩:=val_many hq hf true c5
                refine B1 (E':=[⟨0,[],pt r⟩,⟨1,[],.int .i64 d⟩,⟨4,[],pt b1⟩,⟨53,[],.bool true⟩]) [0] [0,1,4,53] (k:=A0 ?_)
                refine E8 kr (A1 ?_)
                refine A2 (A4 (j:=3) [0,0,0] (k:=?_))
                refine D8 (vs:=[pt r,.agg #[.int .i64 6,.string (ByteArray.mk #[]),.slice none 0 0,.slice none 0 0],.string (ByteArray.mk #[125]),.int .i64 d]) Tryz.func79 (hmemT n hln (q1.1.drop 1,q1.2) (by show (List.drop 1 _).length≤_; rw [List.length_drop]; omega) _ _ hW) ?_
                rintro _ _ ⟨vc10,gv10,hJ10,rfl,rfl⟩
                obtain ⟨vk10,vt10,van10,vn10,vcn10,val10,vm10,vcl10,rfl⟩:=hJ10.shape
                refine E9 (ch:=[]) (b:=b1) (off:=0) (v:=.agg #[.int .i64 vk10,.string vt10,.slice van10 vn10 vcn10,.slice val10 vm10 vcl10]) (j:=2) ([(r,.cells #[.string (bk ((mbR (C7 n) true (q1.1.drop 1,q1.2)).2).1),.int .i64 (((mbR (C7 n) true (q1.1.drop 1,q1.2)).2).2)] 78 (0,0))]::gv10::[(b1,.cells #[.int .i64 vk10,.string vt10,.slice van10 vn10 vcn10,.slice val10 vm10 vcl10] 28 (0,0))]::H) (hoff:=Nat.le_of_ble_eq_true rfl) (hfz:=(fun _ _=>E3)) (k:=B1 (E':=[⟨4,[],pt b1⟩]) [] [4] (k:=?_))
                refine A0 (B5 ?_)
                refine B4 (A3 ?_)
                refine C1 (H':=([(r,.cells #[.string (bk ((mbR (C7 n) true (q1.1.drop 1,q1.2)).2).1),.int .i64 (((mbR (C7 n) true (q1.1.drop 1,q1.2)).2).2)] 78 (0,0))]::[(b1,.cells #[.int .i64 vk10,.string vt10,.slice van10 vn10 vcn10,.slice val10 vm10 vcl10] 28 (0,0))]::gv10::H)) (fun w h=>Sat.flat (((h.front (j:=1) rfl).front (j:=2) rfl).front (j:=2) rfl) (List.Perm.refl _)) (L5 [.cell 4 28] [.agg #[.int .i64 vk10,.string vt10,.slice van10 vn10 vcn10,.slice val10 vm10 vcl10]] rfl (.cons (.agg (b:=b1) (off:=0) (l:=[.int .i64 vk10,.string vt10,.slice van10 vn10 vcn10,.slice val10 vm10 vcl10]) kr kr kr (At.grp 1 0 rfl rfl) kr) (.nil)) rfl ⟨([(r,.cells #[.string (bk ((mbR (C7 n) true (q1.1.drop 1,q1.2)).2).1),.int .i64 (((mbR (C7 n) true (q1.1.drop 1,q1.2)).2).2)] 78 (0,0))]::gv10::H),?_,fun w h=>(h.erase 1)⟩)
                rw [hvm]; exact ⟨_,_,hJ10,rfl,rfl⟩
              ·
                have hk9:¬ q1.1.take 1=[123]:=hk9
                have c5:=hk9
                refine B1 (E':=[⟨0,[],pt r⟩,⟨1,[],.int .i64 d⟩,⟨4,[],pt b1⟩,⟨53,[],.bool false⟩]) [0] [0,1,4,53] (k:=A0 ?_)
                refine C2 kr (A1 ?_)
                refine A2 (A4 (j:=3) [0,0,0] (k:=?_))
                refine A5 (ch:=[]) (b:=r) (off:=0) (v:=.string (bk q1.1)) (hA:=At.grp 0 0 rfl rfl) (k:=H4 Tryz.func77 (jhas_ (bk q1.1) (ByteArray.mk #[34]) _ _) ?_)
                refine B0 [0] [0,4,60] (k:=A0 ?_)
                refine B2 (b:=G4 (bk q1.1) (ByteArray.mk #[34])) kr (fun hc11=>?_) (fun hc11=>?_)
                ·
                  have c6:q1.1.take 1=[34]:=(L2 _ _).1 hc11
                  refine A1 (A2 ?_)
                  refine A4 (j:=1) [0] (k:=D8 Tryz.func80 (jtext_ r q1 (by omega) _ _ hW) ?_)
                  rintro _ _ ⟨rfl,rfl⟩
                  refine A4 (j:=3) [0] (k:=E9 (ch:=[]) (b:=b1) (off:=0) (v:=.agg #[.int .i64 4,.string (bk (C8 q1).1),.slice none 0 0,.slice none 0 0]) (j:=1) ([(r,.cells #[.string (bk ((C8 q1).2).1),.int .i64 (((C8 q1).2).2)] 78 (0,0))]::[(b1,.cells #[.int .i64 4,.string (bk (C8 q1).1),.slice none 0 0,.slice none 0 0] 28 (0,0))]::H) (hoff:=Nat.le_of_ble_eq_true rfl) (hfz:=(fun _ _=>E3)) (k:=?_))
                  refine B1 (E':=[⟨4,[],pt b1⟩]) [] [4] (k:=A0 ?_)
                  refine B5 (B4 ?_)
                  refine A3 (C1 (H':=([(r,.cells #[.string (bk ((C8 q1).2).1),.int .i64 (((C8 q1).2).2)] 78 (0,0))]::[(b1,.cells #[.int .i64 4,.string (bk (C8 q1).1),.slice none 0 0,.slice none 0 0] 28 (0,0))]::[]::H)) (fun w h=>Sat.flat h (List.Perm.refl _)) ?_)
                  refine L5 [.cell 4 28] [.agg #[.int .i64 4,.string (bk (C8 q1).1),.slice none 0 0,.slice none 0 0]] rfl (.cons (.agg (b:=b1) (off:=0) (l:=[.int .i64 4,.string (bk (C8 q1).1),.slice none 0 0,.slice none 0 0]) kr kr kr (At.grp 1 0 rfl rfl) kr) (.nil)) rfl ⟨([(r,.cells #[.string (bk ((C8 q1).2).1),.int .i64 (((C8 q1).2).2)] 78 (0,0))]::[]::H),?_,fun w h=>(h.erase 1)⟩
                  rw [val_text hq hf c1 c2 c3 c4 c5 c6]; exact ⟨_,_,JRep.atom 4 _,rfl,rfl⟩
                ·
                  have c6:¬ q1.1.take 1=[34]:=(K6 _ _).1 hc11
                  have hnl:=numP_le q1.1
                  refine A8 (B8 ?_)
                  refine A0 (A1 ?_)
                  refine A2 (A4 (j:=3) [0,0,0] (k:=?_))
                  refine A5 (ch:=[]) (b:=r) (off:=0) (v:=.string (bk q1.1)) (hA:=At.grp 0 0 rfl rfl) (k:=H4 Tryz.func81 (jnumber_ q1.1 (by omega) _ _) ?_)
                  refine B0 [0] [0,4,5] (k:=A0 ?_)
                  refine A1 (A1 ?_)
                  refine G_p [0,0] [0,4,5,75] (k:=A0 ?_)
                  refine B2 (b:=(F8 q1.1:Int)==0) kr (fun hc12=>?_) (fun hc12=>?_)
                  ·
                    have c7:F8 q1.1=0:=by have:=hc12; simp only [beq_iff_eq] at this; omega
                    refine A1 (A2 ?_)
                    refine A4 (j:=1) [0] (k:=D8 Tryz.func48 (jfault_ r q1 70 _ _) ?_)
                    rintro _ _ rfl
                    refine B1 (E':=[⟨4,[],pt b1⟩]) [] [4] (k:=A0 ?_)
                    refine A1 (A2 ?_)
                    refine A4 (j:=1) [0] (k:=E9 (ch:=[]) (b:=b1) (off:=0) (v:=.agg #[.int .i64 0,.string (ByteArray.mk #[]),.slice none 0 0,.slice none 0 0]) (j:=1) ([(r,.cells #[.string (bk q1.1),.int .i64 ((P6 70 q1).2)] 78 (0,0))]::[(b1,.cells #[.int .i64 0,.string (ByteArray.mk #[]),.slice none 0 0,.slice none 0 0] 28 (0,0))]::H) (hoff:=Nat.le_of_ble_eq_true rfl) (hfz:=(fun _ _=>E3)) (k:=?_))
                    refine B1 (E':=[⟨4,[],pt b1⟩]) [] [4] (k:=A0 ?_)
                    refine B5 (A3 ?_)
                    refine C1 (H':=([(r,.cells #[.string (bk q1.1),.int .i64 ((P6 70 q1).2)] 78 (0,0))]::[(b1,.cells #[.int .i64 0,.string (ByteArray.mk #[]),.slice none 0 0,.slice none 0 0] 28 (0,0))]::[]::H)) (fun w h=>Sat.flat h (List.Perm.refl _)) (L5 [.cell 4 28] [.agg #[.int .i64 0,.string (ByteArray.mk #[]),.slice none 0 0,.slice none 0 0]] rfl (.cons (.agg (b:=b1) (off:=0) (l:=[.int .i64 0,.string (ByteArray.mk #[]),.slice none 0 0,.slice none 0 0]) kr kr kr (At.grp 1 0 rfl rfl) kr) (.nil)) rfl ⟨([(r,.cells #[.string (bk q1.1),.int .i64 ((P6 70 q1).2)] 78 (0,0))]::[]::H),?_,fun w h=>(h.erase 1)⟩)
                    rw [val_none hq hf c1 c2 c3 c4 c5 c6 c7]; exact ⟨_,_,JRep.atom 0 [],rfl,rfl⟩
                  ·
                    have c7:¬ F8 q1.1=0:=by have:=hc12; simp only [beq_eq_false_iff_ne,ne_eq] at this; omega
                    refine A8 (A0 ?_)
                    refine A1 (A2 ?_)
                    refine A4 (j:=3) [0,0,0] (k:=A5 (ch:=[]) (b:=r) (off:=0) (v:=.string (bk q1.1)) (hA:=At.grp 0 0 rfl rfl) (k:=?_))
                    refine A4 (j:=5) [0] (k:=F6 (ch:=[]) (s:=(bk q1.1)) (vl:=none) (vh:=(some (.int .i64 (F8 q1.1:Int)))) (l:=0) (h:=(F8 q1.1:Int)) (hb:=(fun _=>by omega)) (k:=?_))
                    refine C4 (E':=[⟨84,[],.string (bk (q1.1.take (F8 q1.1)))⟩,⟨83,[],.int .i64 (F8 q1.1:Int)⟩,⟨82,[],.string (bk q1.1)⟩,⟨81,[],pt r⟩,⟨80,[],pt r⟩,⟨79,[],pt r⟩,⟨0,[],pt r⟩,⟨4,[],pt b1⟩,⟨5,[],.int .i64 (F8 q1.1:Int)⟩,⟨75,[],.bool ((F8 q1.1:Int)==0)⟩]) (by have hz:([⟨84,[],.string ((bk q1.1).extract 0 (Int.toNat (F8 q1.1:Int)))⟩,⟨83,[],.int .i64 (F8 q1.1:Int)⟩,⟨82,[],.string (bk q1.1)⟩,⟨81,[],pt r⟩,⟨80,[],pt r⟩,⟨79,[],pt r⟩,⟨0,[],pt r⟩,⟨4,[],pt b1⟩,⟨5,[],.int .i64 (F8 q1.1:Int)⟩,⟨75,[],.bool ((F8 q1.1:Int)==0)⟩]:List Sl)=[⟨84,[],.string (bk (q1.1.take (F8 q1.1)))⟩,⟨83,[],.int .i64 (F8 q1.1:Int)⟩,⟨82,[],.string (bk q1.1)⟩,⟨81,[],pt r⟩,⟨80,[],pt r⟩,⟨79,[],pt r⟩,⟨0,[],pt r⟩,⟨4,[],pt b1⟩,⟨5,[],.int .i64 (F8 q1.1:Int)⟩,⟨75,[],.bool ((F8 q1.1:Int)==0)⟩]:=(by rw [Int.toNat_natCast,text_bk]); exact Eq.trans kr hz) (A4 (j:=7) [0] (k:=?_))
                    refine F5 (ch:=[]) (z:=.agg #[.int .i64 0,.string (ByteArray.mk #[]),.slice none 0 0,.slice none 0 0]) (k:=(fun b13=>?_))
                    refine E9 (ch:=[]) (b:=b13) (off:=0) (v:=.agg #[.int .i64 3,.string (bk (q1.1.take (F8 q1.1))),.slice none 0 0,.slice none 0 0]) (j:=0) ([(b13,.cells #[.int .i64 3,.string (bk (q1.1.take (F8 q1.1))),.slice none 0 0,.slice none 0 0] 28 (0,0))]::[(r,.cells #[.string (bk q1.1),.int .i64 q1.2] 78 (0,0))]::[(b1,.cells #[.int .i64 0,.string (ByteArray.mk #[]),.slice none 0 0,.slice none 0 0] 28 (0,0))]::H) (hoff:=Nat.le_of_ble_eq_true rfl) (hfz:=(fun _ _=>E3)) (k:=B0 [] [0,4,5,6] (k:=?_))
                    refine A0 (A1 ?_)
                    refine A2 (A4 (j:=4) [0,0,0,0] (k:=?_))
                    refine A5 (ch:=[]) (b:=r) (off:=0) (v:=.string (bk q1.1)) (hA:=At.grp 1 0 rfl rfl) (k:=A4 (j:=6) [0] (k:=?_))
                    refine F6 (ch:=[]) (s:=(bk q1.1)) (vl:=(some (.int .i64 (F8 q1.1:Int)))) (vh:=none) (l:=(F8 q1.1:Int)) (h:=((bk q1.1).size:Int)) (hb:=(fun _=>by omega)) (k:=A4 (j:=9) [0,0] (k:=?_))
                    refine E9 (ch:=[]) (b:=r) (off:=0) (v:=.string ((bk q1.1).extract (Int.toNat (F8 q1.1:Int)) (bk q1.1).size)) (j:=1) ([(b13,.cells #[.int .i64 3,.string (bk (q1.1.take (F8 q1.1))),.slice none 0 0,.slice none 0 0] 28 (0,0))]::[(r,.cells #[.string ((bk q1.1).extract (Int.toNat (F8 q1.1:Int)) (bk q1.1).size),.int .i64 q1.2] 78 (0,0))]::[(b1,.cells #[.int .i64 0,.string (ByteArray.mk #[]),.slice none 0 0,.slice none 0 0] 28 (0,0))]::H) (hoff:=Nat.le_of_ble_eq_true rfl) (hfz:=(fun _ _=>E3)) (k:=B1 (E':=[⟨4,[],pt b1⟩,⟨6,[],pt b13⟩]) [] [4,6] (k:=?_))
                    refine A0 (A1 ?_)
                    refine A2 (D3 (ch:=[]) (b:=b13) (off:=0) (l:=[.int .i64 3,.string (bk (q1.1.take (F8 q1.1))),.slice none 0 0,.slice none 0 0]) (hA:=At.grp 0 0 rfl rfl) (k:=?_))
                    refine E9 (ch:=[]) (b:=b1) (off:=0) (v:=.agg #[.int .i64 3,.string (bk (q1.1.take (F8 q1.1))),.slice none 0 0,.slice none 0 0]) (j:=2) ([(b13,.cells #[.int .i64 3,.string (bk (q1.1.take (F8 q1.1))),.slice none 0 0,.slice none 0 0] 28 (0,0))]::[(r,.cells #[.string ((bk q1.1).extract (Int.toNat (F8 q1.1:Int)) (bk q1.1).size),.int .i64 q1.2] 78 (0,0))]::[(b1,.cells #[.int .i64 3,.string (bk (q1.1.take (F8 q1.1))),.slice none 0 0,.slice none 0 0] 28 (0,0))]::H) (hoff:=Nat.le_of_ble_eq_true rfl) (hfz:=(fun _ _=>E3)) (k:=B1 (E':=[⟨4,[],pt b1⟩]) [] [4] (k:=?_))
                    refine A0 (B5 ?_)
                    refine C1 (H':=([(r,.cells #[.string ((bk q1.1).extract (Int.toNat (F8 q1.1:Int)) (bk q1.1).size),.int .i64 q1.2] 78 (0,0))]::[(b1,.cells #[.int .i64 3,.string (bk (q1.1.take (F8 q1.1))),.slice none 0 0,.slice none 0 0] 28 (0,0))]::[]::H)) (fun w h=>Sat.flat (h.erase 0) (List.Perm.refl _)) (L5 [.cell 4 28] [.agg #[.int .i64 3,.string (bk (q1.1.take (F8 q1.1))),.slice none 0 0,.slice none 0 0]] rfl (.cons (.agg (b:=b1) (off:=0) (l:=[.int .i64 3,.string (bk (q1.1.take (F8 q1.1))),.slice none 0 0,.slice none 0 0]) kr kr kr (At.grp 1 0 rfl rfl) kr) (.nil)) rfl ⟨([(r,.cells #[.string ((bk q1.1).extract (Int.toNat (F8 q1.1:Int)) (bk q1.1).size),.int .i64 q1.2] 78 (0,0))]::[]::H),?_,fun w h=>(h.erase 1)⟩)
                    rw [val_num hq hf c1 c2 c3 c4 c5 c6 c7]; exact ⟨_,_,JRep.atom 3 _,rfl,by rw [Int.toNat_natCast,ext_bk]; rfl⟩
theorem jvalue_:∀ (lv:Nat),lv≤24→∀ (d:Int),d=24 - (lv:Int)→∀ (r:Nat) (q:RdS),q.1.length≤1000000→∀ (W0:World) (H:List Grp),F2 W0→Tri Tryz.prog 46 #[pt r,.int .i64 d] W0 (rdG r q::H) (fun v H2=>∃ c g,JRep 9 28 (C7 lv q).1 c g∧v=.agg c.toArray∧H2=rdG r (C7 lv q).2::g::H)
  | 0,h,d,hd,r,q,hl,W0,H,hW=>jvalueW_ 0 d hd h r q hl (fun n hn=>absurd hn (by omega)) (fun n hn=>absurd hn (by omega)) W0 H hW
  | m+1,h,d,hd,r,q,hl,W0,H,hW=>jvalueW_ (m+1) d hd h r q hl
      (fun n hn q hl W0 H hW=>by
        obtain rfl:m=n:=by omega
        exact jmembersT_ m d (by omega) r q hl (fun q hl W0 H hW=>jvalue_ m (by omega) (d+1) (by omega) r q hl W0 H hW) W0 H hW)
      (fun n hn q hl W0 H hW=>by
        obtain rfl:m=n:=by omega
        exact jmembersF_ m d (by omega) r q hl (fun q hl W0 H hW=>jvalue_ m (by omega) (d+1) (by omega) r q hl W0 H hW) W0 H hW) W0 H hW
end Go.Proofs.YtppgfiklmfoaeaaGreatDoor
namespace Go.Sw
open Go.RowKit
theorem GL_bytesB {d:Bool} {P:Program} {ops:Array Oper} {i:Nat} {Q:D6} {n:Fr} {E:Env} {W0:World} {H:List Grp} {o:Oper} {ch:List (Nat × Bool)} {src dst e:TypeId} {x:Operand} {a:Option Addr} {cap:Nat} {S:Nat→Obj→Prop} (b:ByteArray)
    (ho:ops[i]? = some o) (hop:o.op=.convert src dst x) (hx:evO E ch x=some (.slice a b.size cap)) (hs:P.underlying src=some (.slice e)) (he:P.underlying e=some (.int .u8)) (hds:P.underlying dst=some .string)
    (hch:F1 ops E o.guard=some ch) (hd:H7 n ch o.dst=true) (hk:I0 E ch=true)
    (hrd:Rd S a (u8s b.data.toList)) (hS:∀ b o,S b o→At W0 H b o)
    (k:GL d P ops (i+1) Q n (Env.put E o.dst ch (.string b)) W0 H):GL d P ops i Q n E W0 H:=by
  cases a with
  | some a =>
    refine O7 (cap:=cap) b.data.toList ho hop ?_ hs he hds hch hd hk hrd hS ?_
    · rw [hx,show b.data.toList.length=b.size from Array.length_toList]
    · have:(⟨b.data.toList.toArray⟩:ByteArray)=b:=by cases b; simp
      rw [this]; exact k
  | none =>
    have h0:b=ByteArray.empty:=by
      rcases hrd with h | ⟨_,_,_,_,_,h,_⟩
      · have h1:=congrArg List.length h
        unfold u8s at h1
        rw [List.length_map] at h1
        cases b with | mk d =>
        have:d=#[]:=Array.eq_empty_of_size_eq_zero (by simpa using h1)
        rw [this]; rfl
      · cases h
    refine G5 ho hch hd hk (fun r hr _ w _=>?_) k
    unfold execOp
    simp only [hop]
    rw [hr _ _ hx,h0]
    have:=run_convert_bytes_string (P:=P) w src dst e none ByteArray.empty.size cap hs he hds
    simp only [Sem.run_bind,this]
    exact ⟨rfl,rfl⟩
end Go.Sw
namespace Go.Proofs.YtppgfiklmfoaeaaGreatDoor
open Go.Sw Go.Sha Go.Esc Go.RowKit Go.Json
theorem par_long {l:List UInt8} (h:65536<l.length):parR l=(nul,72):=by unfold parR; rw [if_pos h]
theorem par_step {l:List UInt8} {e:Int} (h:¬ 65536<l.length) (he:e=if blk (C7 24 (l,0)).2.1≠[] then (P6 70 (C7 24 (l,0)).2).2 else (C7 24 (l,0)).2.2):parR l=if e≠0 then (nul,e) else ((C7 24 (l,0)).1,0):=by
  unfold parR; rw [if_neg h,he]
theorem nil_str (l:List UInt8):((bk l).toList==(ByteArray.mk #[]).toList)=true ↔ l=[]:=eqB (bk l) (ByteArray.mk #[])
theorem nil_strF (l:List UInt8):((bk l).toList==(ByteArray.mk #[]).toList)=false ↔ ¬ l=[]:=eqBf (bk l) (ByteArray.mk #[])
theorem jparse_ (a:Option Addr) (c:Nat) (l:List UInt8) (S:Nat→Obj→Prop) (hrd:Rd S a (u8s l)) (W0:World) (H:List Grp) (hS:∀ y o,S y o→At W0 H y o) (hW:F2 W0):Tri Tryz.prog 16 #[.slice a l.length c] W0 H (fun v H2=>∃ c g,JRep 9 28 (parR l).1 c g∧v=.tuple #[.agg c.toArray,.int .i64 (parR l).2]∧H2=g::H):=by
 refine C6 (args:=[.slice a l.length c]) (n:=36) Tryz.func16 rfl rfl (Nat.le_of_ble_eq_true rfl) ?_
 refine A1 (A2 ?_)
 refine F5 (ch:=[]) (z:=.agg #[.int .i64 0,.string (ByteArray.mk #[]),.slice none 0 0,.slice none 0 0]) (k:=(fun b1=>?_))
 refine B0 [0] [0,2] (k:=A0 ?_)
 refine A1 (A1 ?_)
 refine G_p [0,0,0] [0,2,8] (k:=A0 ?_)
 refine B2 (b:=decide (((l.length:Nat):Int) > 65536)) kr (fun hc2=>?_) (fun hc2=>?_)
 ·
  have hlen:65536<l.length:=by simp only [gt_iff_lt,decide_eq_true_eq] at hc2; omega
  refine A1 (A2 ?_)
  refine A4 (j:=1) [0] (k:=E9 (ch:=[]) (b:=b1) (off:=0) (v:=.agg #[.int .i64 0,.string (ByteArray.mk #[]),.slice none 0 0,.slice none 0 0]) (j:=0) ([(b1,.cells #[.int .i64 0,.string (ByteArray.mk #[]),.slice none 0 0,.slice none 0 0] 28 (0,0))]::H) (hoff:=Nat.le_of_ble_eq_true rfl) (hfz:=(fun _ _=>E3)) (k:=?_))
  refine B1 (E':=[⟨2,[],pt b1⟩,⟨3,[],.int .i64 72⟩]) [0] [2,3] (k:=A0 ?_)
  refine B5 (A3 ?_)
  refine C1 (H':=([(b1,.cells #[.int .i64 0,.string (ByteArray.mk #[]),.slice none 0 0,.slice none 0 0] 28 (0,0))]::[]::H)) (fun w h=>Sat.flat h (List.Perm.refl _)) (L5 [.cell 2 28,.tmp 3] [.agg #[.int .i64 0,.string (ByteArray.mk #[]),.slice none 0 0,.slice none 0 0],.int .i64 72] rfl (.cons (.agg (b:=b1) (off:=0) (l:=[.int .i64 0,.string (ByteArray.mk #[]),.slice none 0 0,.slice none 0 0]) kr kr kr (At.grp 0 0 rfl rfl) kr) (.cons (.tmp kr) (.nil))) rfl ⟨([]::H),?_,fun w h=>(h.erase 0)⟩)
  rw [par_long hlen]; exact ⟨_,_,JRep.nul,rfl,rfl⟩
 ·
  have hlen:¬ 65536<l.length:=by simp only [gt_iff_lt,decide_eq_false_iff_not] at hc2; omega
  refine A8 (A0 ?_)
  refine A1 (A2 ?_)
  refine A4 (j:=1) [0] (k:=GL_bytesB (i:=1) (ch:=[]) (a:=a) (cap:=c) (e:=5) (S:=S) (bk l) rfl rfl kr kr kr kr kr kr kr hrd (fun y o h=>(At.cons (hS y o h))) ?_)
  refine A4 (j:=3) [0] (k:=G7 (ch:=[]) (v:=.agg #[.string (bk l),.int .i64 0]) (k:=(fun b3=>?_)))
  refine B1 (E':=[⟨2,[],pt b1⟩,⟨4,[],pt b3⟩]) [0] [2,4] (k:=A0 ?_)
  refine A1 (A2 ?_)
  refine A4 (j:=1) [0] (k:=D8 (vs:=[pt b3,.int .i64 0]) Tryz.func46 (jvalue_ 24 (Nat.le_refl _) 0 (by decide) b3 (l,0) (by show l.length≤_; omega) _ _ hW) ?_)
  rintro _ _ ⟨vc4,gv4,hJ4,rfl,rfl⟩
  obtain ⟨vk4,vt4,van4,vn4,vcn4,val4,vm4,vcl4,rfl⟩:=hJ4.shape
  refine F5 (ch:=[]) (z:=.agg #[.int .i64 0,.string (ByteArray.mk #[]),.slice none 0 0,.slice none 0 0]) (k:=(fun b5=>?_))
  refine E9 (ch:=[]) (b:=b5) (off:=0) (v:=.agg #[.int .i64 vk4,.string vt4,.slice van4 vn4 vcn4,.slice val4 vm4 vcl4]) (j:=0) ([(b5,.cells #[.int .i64 vk4,.string vt4,.slice van4 vn4 vcn4,.slice val4 vm4 vcl4] 28 (0,0))]::[(b3,.cells #[.string (bk ((C7 24 (l,0)).2).1),.int .i64 (((C7 24 (l,0)).2).2)] 78 (0,0))]::gv4::[(b1,.cells #[.int .i64 0,.string (ByteArray.mk #[]),.slice none 0 0,.slice none 0 0] 28 (0,0))]::H) (hoff:=Nat.le_of_ble_eq_true rfl) (hfz:=(fun _ _=>E3)) (k:=B0 [] [2,4,5] (k:=?_))
  refine A0 (A1 ?_)
  refine A2 (A4 (j:=1) [0] (k:=?_))
  refine J3 rfl (H':=([(b3,.cells #[.string (bk ((C7 24 (l,0)).2).1),.int .i64 (((C7 24 (l,0)).2).2)] 78 (0,0))]::[(b5,.cells #[.int .i64 vk4,.string vt4,.slice van4 vn4 vcn4,.slice val4 vm4 vcl4] 28 (0,0))]::gv4::[(b1,.cells #[.int .i64 0,.string (ByteArray.mk #[]),.slice none 0 0,.slice none 0 0] 28 (0,0))]::H)) (fun w h=>(h.front (j:=1) rfl)) (D8 Tryz.func47 (N8 b3 ((C7 24 (l,0)).2)  _ _) ?_)
  rintro _ _ rfl
  refine B0 [] [2,4,5] (k:=A0 ?_)
  refine A1 (A1 ?_)
  refine A2 (A4 (j:=3) [0,0,0] (k:=?_))
  refine A5 (ch:=[]) (b:=b3) (off:=0) (v:=.string (bk (B3 ((C7 24 (l,0)).2)).1)) (hA:=At.grp 0 0 rfl rfl) (k:=B0 [0] [2,4,5,22] (k:=?_))
  refine A0 (G_join (T:=RdS) (fun ξ:RdS=>[⟨2,[],pt b1⟩,⟨4,[],pt b3⟩,⟨5,[],pt b5⟩]) (fun ξ:RdS=>([(b3,.cells #[.string (bk ξ.1),.int .i64 ξ.2] 78 (0,0))]::[(b5,.cells #[.int .i64 vk4,.string vt4,.slice van4 vn4 vcn4,.slice val4 vm4 vcl4] 28 (0,0))]::gv4::[(b1,.cells #[.int .i64 0,.string (ByteArray.mk #[]),.slice none 0 0,.slice none 0 0] 28 (0,0))]::H)) (fun ξ:RdS=>(ξ.2=if blk (C7 24 (l,0)).2.1≠[] then (P6 70 (C7 24 (l,0)).2).2 else (C7 24 (l,0)).2.2)) ?_ ?_)
  ·
   refine B2 (b:=!((bk (B3 ((C7 24 (l,0)).2)).1).toList==(ByteArray.mk #[]).toList)) kr (fun hc6=>?_) (fun hc6=>?_)
   ·
    have hb0:((bk (B3 (C7 24 (l,0)).2).1).toList==(ByteArray.mk #[]).toList)=false:=by simpa only [Bool.not_eq_true'] using hc6
    have hb:blk (C7 24 (l,0)).2.1≠[]:=(nil_strF _).1 hb0
    refine A2 (A4 (j:=1) [0] (k:=?_))
    refine D8 Tryz.func48 (jfault_ b3 (B3 ((C7 24 (l,0)).2)) 70 _ _) ?_
    rintro _ _ rfl
    refine B0 [] [2,4,5] (k:=K4 ((P6 70 (B3 ((C7 24 (l,0)).2)))) [2,4,5] kr (fun w h=>h) (by first | exact (if_pos hb).symm | exact (if_neg (fun hn=>hn hb)).symm))
   ·
    have hb0:((bk (B3 (C7 24 (l,0)).2).1).toList==(ByteArray.mk #[]).toList)=true:=by simpa only [Bool.not_eq_false'] using hc6
    have hb:blk (C7 24 (l,0)).2.1=[]:=(nil_str _).1 hb0
    refine A8 (K4 ((B3 ((C7 24 (l,0)).2))) [2,4,5] kr (fun w h=>h) (by first | exact (if_pos hb).symm | exact (if_neg (fun hn=>hn hb)).symm))
  ·
   rintro q2 hq2
   refine A0 (A1 ?_)
   refine A1 (A2 ?_)
   refine A4 (j:=3) [0,0,0] (k:=A5 (ch:=[]) (b:=b3) (off:=1) (v:=.int .i64 q2.2) (hA:=At.grp 0 0 rfl rfl) (k:=?_))
   refine B0 [0] [2,4,5,29] (k:=A0 ?_)
   refine B2 (b:=q2.2 != 0) kr (fun hc7=>?_) (fun hc7=>?_)
   ·
    have he:q2.2≠0:=by simpa using hc7
    have hP:parR l=(nul,q2.2):=by rw [par_step hlen hq2,if_pos he]
    refine A1 (P9 ([(b3,.cells #[.string (bk q2.1),.int .i64 q2.2] 78 (0,0))]::[(b5,.cells #[.int .i64 vk4,.string vt4,.slice van4 vn4 vcn4,.slice val4 vm4 vcl4] 28 (0,0))]::gv4::[(b1,.cells #[.int .i64 0,.string (ByteArray.mk #[]),.slice none 0 0,.slice none 0 0] 28 (0,0))]::H) kr ?_)
    refine GH_p (fuel:=5) [(0,0),(1,0)] (fun w h=>h) (k:=GH_nil (ad:=⟨b3,0,none⟩) 2 (hL:=(fun w h=>h)) (k:=?_))
    refine GH_p (fuel:=3) [(3,0)] (fun w h=>h) (k:=GH_take' 4 (hL:=(fun w h=>h)) (hy:=A5 (i:=4) (ch:=[]) (b:=b3) (off:=1) (v:=.int .i64 q2.2) (hA:=At.grp 0 0 rfl rfl) (k:=GL_yend kr rfl)) (k:=?_))
    refine H5 5 (k:=E9 (ch:=[]) (b:=b1) (off:=0) (v:=.agg #[.int .i64 0,.string (ByteArray.mk #[]),.slice none 0 0,.slice none 0 0]) (j:=3) ([(b3,.cells #[.string (bk q2.1),.int .i64 q2.2] 78 (0,0))]::[(b5,.cells #[.int .i64 vk4,.string vt4,.slice van4 vn4 vcn4,.slice val4 vm4 vcl4] 28 (0,0))]::gv4::[(b1,.cells #[.int .i64 0,.string (ByteArray.mk #[]),.slice none 0 0,.slice none 0 0] 28 (0,0))]::H) (hoff:=Nat.le_of_ble_eq_true rfl) (hfz:=(fun _ _=>E3)) (k:=?_))
    refine F0 kr (fun w h=>h) (GH_p (fuel:=0) [(6,0)] (fun w h=>h) (k:=?_))
    refine N3 (E':=[⟨2,[],pt b1⟩,⟨3,[],.int .i64 q2.2⟩]) [2,3] (k:=A0 ?_)
    refine B5 (A3 ?_)
    refine C1 (H':=([(b1,.cells #[.int .i64 0,.string (ByteArray.mk #[]),.slice none 0 0,.slice none 0 0] 28 (0,0))]::[]::H)) (fun w h=>Sat.flat (((h.erase 2).erase 1).erase 0) (List.Perm.refl _)) (L5 [.cell 2 28,.tmp 3] [.agg #[.int .i64 0,.string (ByteArray.mk #[]),.slice none 0 0,.slice none 0 0],.int .i64 q2.2] rfl (.cons (.agg (b:=b1) (off:=0) (l:=[.int .i64 0,.string (ByteArray.mk #[]),.slice none 0 0,.slice none 0 0]) kr kr kr (At.grp 0 0 rfl rfl) kr) (.cons (.tmp kr) (.nil))) rfl ⟨([]::H),?_,fun w h=>(h.erase 0)⟩)
    rw [hP]; exact ⟨_,_,JRep.nul,rfl,rfl⟩
   ·
    have he:q2.2=0:=by simpa using hc7
    have hP:parR l=((C7 24 (l,0)).1,0):=by rw [par_step hlen hq2,if_neg (fun hn=>hn he)]
    refine A8 (A0 ?_)
    refine A1 (A2 ?_)
    refine D3 (ch:=[]) (b:=b5) (off:=0) (l:=[.int .i64 vk4,.string vt4,.slice van4 vn4 vcn4,.slice val4 vm4 vcl4]) (hA:=At.grp 1 0 rfl rfl) (k:=E9 (ch:=[]) (b:=b1) (off:=0) (v:=.agg #[.int .i64 vk4,.string vt4,.slice van4 vn4 vcn4,.slice val4 vm4 vcl4]) (j:=3) ([(b3,.cells #[.string (bk q2.1),.int .i64 q2.2] 78 (0,0))]::[(b5,.cells #[.int .i64 vk4,.string vt4,.slice van4 vn4 vcn4,.slice val4 vm4 vcl4] 28 (0,0))]::gv4::[(b1,.cells #[.int .i64 vk4,.string vt4,.slice van4 vn4 vcn4,.slice val4 vm4 vcl4] 28 (0,0))]::H) (hoff:=Nat.le_of_ble_eq_true rfl) (hfz:=(fun _ _=>E3)) (k:=?_))
    refine B1 (E':=[⟨2,[],pt b1⟩,⟨3,[],.int .i64 0⟩]) [0] [2,3] (k:=A0 ?_)
    refine B5 (C1 (H':=([(b1,.cells #[.int .i64 vk4,.string vt4,.slice van4 vn4 vcn4,.slice val4 vm4 vcl4] 28 (0,0))]::gv4::H)) (fun w h=>Sat.flat ((((h.front (j:=2) rfl).front (j:=3) rfl).erase 3).erase 2) (List.Perm.refl _)) ?_)
    refine L5 [.cell 2 28,.tmp 3] [.agg #[.int .i64 vk4,.string vt4,.slice van4 vn4 vcn4,.slice val4 vm4 vcl4],.int .i64 0] rfl (.cons (.agg (b:=b1) (off:=0) (l:=[.int .i64 vk4,.string vt4,.slice van4 vn4 vcn4,.slice val4 vm4 vcl4]) kr kr kr (At.grp 0 0 rfl rfl) kr) (.cons (.tmp kr) (.nil))) rfl ⟨(gv4::H),?_,fun w h=>(h.erase 0)⟩
    rw [hP]; exact ⟨_,_,hJ4,rfl,rfl⟩
end Go.Proofs.YtppgfiklmfoaeaaGreatDoor
namespace Go.Proofs.YtppgfiklmfoaeaaGreatDoor
open Go.Sw Go.Sha Go.Esc Go.RowKit Go.Json
theorem max_cast (a b:Nat):(if ((b:Int)) > ((a:Nat):Int) then (b:Int) else ((a:Nat):Int))=((max a b:Nat):Int):=by split <;> omega
theorem _root_.Go.Json.JRdL.ne {S:Nat→Obj→Prop} {l:List JV} {cs:List Value} {k:Nat} (hc:JRdL S l cs) (h:k<l.length):cs≠[]:=by
  intro h0; have:=hc.len; rw [h0,List.length_nil] at this; omega
theorem jdepthW_ (x:JV) (an:Option Addr) (cn:Nat) (al:Option Addr) (cl:Nat) (cs:List Value) (S:Nat→Obj→Prop) (_:Rd S an (E7 x.names)) (hrl:Rd S al cs) (hrc:JRdL S x.list cs) (hd:cnJ x≤1000000000) (hrec:∀ (y:JV),szJ y<szJ x→cnJ y≤1000000000→∀ (an:Option Addr) (cn:Nat) (al:Option Addr) (cl:Nat) (cs:List Value),Rd S an (E7 y.names)→Rd S al cs→JRdL S y.list cs→∀ (W0:World) (H:List Grp),(∀ z o,S z o→At W0 H z o)→Tri Tryz.prog 19 #[.agg (jvC y an cn al cl).toArray] W0 H (fun v H'=>v=.int .i64 (dpP y:Int)∧H'=H)) (W0:World) (H:List Grp) (hS:∀ y o,S y o→At W0 H y o):Tri Tryz.prog 19 #[.agg #[.int .i64 x.kind,.string (bk x.text),.slice an x.names.length cn,.slice al x.list.length cl]] W0 H (fun v H'=>v=.int .i64 (dpP x:Int)∧H'=H):=by
 have hxl:=H8 x
 have hxd:=dp_cn x
 refine C6 (args:=[.agg #[.int .i64 x.kind,.string (bk x.text),.slice an x.names.length cn,.slice al x.list.length cl]]) (n:=28) Tryz.func19 rfl rfl (Nat.le_of_ble_eq_true rfl) ?_
 refine A1 (A2 ?_)
 refine G7 (ch:=[]) (v:=.agg #[.int .i64 x.kind,.string (bk x.text),.slice an x.names.length cn,.slice al x.list.length cl]) (k:=(fun b1=>?_))
 refine B1 (E':=[⟨1,[],pt b1⟩]) [0] [1] (k:=A0 ?_)
 refine A1 (A1 ?_)
 refine A2 (A4 (j:=1) [0] (k:=?_))
 refine A5 (ch:=[]) (b:=b1) (off:=0) (v:=.int .i64 x.kind) (hA:=At.grp 0 0 rfl rfl) (k:=A4 (j:=5) [0,0,0] (k:=?_))
 refine A5 (ch:=[(9,true)]) (b:=b1) (off:=0) (v:=.int .i64 x.kind) (hA:=At.grp 0 0 rfl rfl) (k:=B0 [0,6] [1,13] (k:=?_))
 refine A0 (B2 (b:=(x.kind != 5)&&(x.kind != 6)) kr (fun hc2=>?_) (fun hc2=>?_))
 ·
  simp only [Bool.and_eq_true,bne_iff_ne,ne_eq] at hc2
  have hk0:=hc2
  refine A1 (B7 (E':=[⟨2,[],.int .i64 0⟩]) [0] [2] (k:=?_))
  refine A0 (B5 ?_)
  refine A3 (C1 (H':=H) (fun w h=>(h.erase 0)) ?_)
  refine B6 [.tmp 2] [.int .i64 0] (k:=?_)
  exact ⟨congrArg (fun n:Nat=>Value.int .i64 (n:Int)) (dp_no (by omega)).symm,rfl⟩
 ·
  simp only [Bool.and_eq_false_iff,bne_eq_false_iff_eq] at hc2
  have hk0:x.kind=5∨x.kind=6:=by omega
  have hdx:=dp_yes hk0
  refine A8 (A0 ?_)
  refine A1 (B7 (E':=[⟨1,[],pt b1⟩,⟨3,[],.int .i64 0⟩]) [0] [1,3] (k:=?_))
  refine A0 (A1 ?_)
  refine A1 (A2 ?_)
  refine A4 (j:=1) [0] (k:=A5 (ch:=[]) (b:=b1) (off:=3) (v:=.slice al x.list.length cl) (hA:=At.grp 0 0 rfl rfl) (k:=?_))
  refine B0 [0,0] [3,15,16,17] (k:=A0 ?_)
  refine B9 (I6 (EI:=(fun ξ:Nat × Nat=>[⟨3,[],.int .i64 ((ξ.2:Nat):Int)⟩,⟨15,[],.slice al x.list.length cl⟩,⟨16,[],.int .i64 ((x.list.length:Nat):Int)⟩,⟨17,[],.int .i64 ((ξ.1:Nat):Int)⟩])) (HI:=(fun ξ:Nat × Nat=>([(b1,.cells #[.int .i64 x.kind,.string (bk x.text),.slice an x.names.length cn,.slice al x.list.length cl] 28 (0,0))]::H))) (Φ:=(fun ξ:Nat × Nat=>(ξ.1≤x.list.length)∧(ξ.2=dpL (x.list.take ξ.1)))) (μ:=(fun ξ:Nat × Nat=>x.list.length - ξ.1)) (s0:=(0,0)) [3,15,16,17] kr rfl ⟨(Nat.zero_le _),(by rw [List.take_zero,dpL_nil])⟩ ?_)
  rintro ⟨k,n⟩ ⟨hk,hn⟩
  dsimp only at hk hn
  refine A1 (G_p [0] [3,15,16,17,18] (k:=?_))
  refine A0 (A1 ?_)
  refine B2 (b:=decide (((k:Nat):Int)<((x.list.length:Nat):Int))) kr (fun hc3=>?_) (fun hc3=>?_)
  ·
   simp only [decide_eq_true_eq] at hc3
   have hlt:k<x.list.length:=by omega
   obtain ⟨y,yan,ycn,yal,ycl,ycs,hyx,hye,hyn,hyl,hyc⟩:=hrc.get hlt
   have hysz:szJ y<szJ x:=by rw [hyx]; exact szJ_lt hlt
   refine A8 (A0 ?_)
   refine A1 (B9 ?_)
   refine A1 (A2 ?_)
   refine D0 (ch:=[]) (a:=al) (len:=x.list.length) (cap:=cl) (kd:=.i64) (j:=((k:Nat):Int)) (e:=28) (sz:=4) (S:=S) (cs:=cs) (hrd:=hrl) (hb:=(fun _=>by exact ⟨by omega,by omega,hrc.ne hlt⟩)) (k:=I7 (ch:=[]) (a:=al) (q:=k * 4) (S:=S) (cs:=cs) (l:=[.int .i64 y.kind,.string (bk y.text),.slice yan y.names.length ycn,.slice yal y.list.length ycl]) (hrd:=hrl) (hS:=(fun y o h=>(At.cons (hS y o h)))) (hl:=List.cons_ne_nil _ _) (hv:=(fun _=>(elt4 hye))) (k:=?_))
   refine F5 (ch:=[]) (z:=.agg #[.int .i64 0,.string (ByteArray.mk #[]),.slice none 0 0,.slice none 0 0]) (k:=(fun b4=>?_))
   refine E9 (ch:=[]) (b:=b4) (off:=0) (v:=.agg #[.int .i64 y.kind,.string (bk y.text),.slice yan y.names.length ycn,.slice yal y.list.length ycl]) (j:=0) ([(b4,.cells #[.int .i64 y.kind,.string (bk y.text),.slice yan y.names.length ycn,.slice yal y.list.length ycl] 28 (0,0))]::[(b1,.cells #[.int .i64 x.kind,.string (bk x.text),.slice an x.names.length cn,.slice al x.list.length cl] 28 (0,0))]::H) (hoff:=Nat.le_of_ble_eq_true rfl) (hfz:=(fun _ _=>E3)) (k:=B0 [] [3,5,15,16,17] (k:=?_))
   refine A0 (A2 ?_)
   refine A4 (j:=1) [0] (k:=D3 (ch:=[]) (b:=b4) (off:=0) (l:=[.int .i64 y.kind,.string (bk y.text),.slice yan y.names.length ycn,.slice yal y.list.length ycl]) (hA:=At.grp 0 0 rfl rfl) (k:=?_))
   refine H4 Tryz.func19 (hrec y hysz (by rw [hyx]; have:=cn_sub hlt; omega) yan ycn yal ycl ycs hyn hyl hyc _ _ (fun y o h=>At.cons (At.cons (hS y o h)))) (C0 (E':=[⟨24,[],.int .i64 (if (dpP y:Int) > ((n:Nat):Int) then (dpP y:Int) else ((n:Nat):Int))⟩,⟨3,[],.int .i64 ((n:Nat):Int)⟩,⟨15,[],.slice al x.list.length cl⟩,⟨16,[],.int .i64 ((x.list.length:Nat):Int)⟩,⟨17,[],.int .i64 ((k:Nat):Int)⟩]) (j:=4) [0] (k:=?_))
   refine C4 (E':=[⟨24,[],.int .i64 ((max n (dpP y):Nat):Int)⟩,⟨3,[],.int .i64 ((n:Nat):Int)⟩,⟨15,[],.slice al x.list.length cl⟩,⟨16,[],.int .i64 ((x.list.length:Nat):Int)⟩,⟨17,[],.int .i64 ((k:Nat):Int)⟩]) (by rw [max_cast]) (B0 [0] [3,15,16,17] (k:=?_))
   refine B8 (A0 ?_)
   have hw5:IntKind.wrap .i64 (((k:Nat):Int)+1)=((k:Nat):Int)+1:=w64 (by omega) (by omega)
   refine A2 (C0 (E':=[⟨25,[],.int .i64 (((k:Nat):Int)+1)⟩,⟨3,[],.int .i64 ((max n (dpP y):Nat):Int)⟩,⟨15,[],.slice al x.list.length cl⟩,⟨16,[],.int .i64 ((x.list.length:Nat):Int)⟩,⟨17,[],.int .i64 ((k:Nat):Int)⟩]) [0] (Eq.trans (b:=some [⟨25,[],.int .i64 (IntKind.wrap .i64 (((k:Nat):Int)+1))⟩,⟨3,[],.int .i64 ((max n (dpP y):Nat):Int)⟩,⟨15,[],.slice al x.list.length cl⟩,⟨16,[],.int .i64 ((x.list.length:Nat):Int)⟩,⟨17,[],.int .i64 ((k:Nat):Int)⟩]) kr (by simp only [hw5])) (j:=1) rfl ?_)
   refine C4 (E':=[⟨25,[],.int .i64 ((k+1:Nat):Int)⟩,⟨3,[],.int .i64 ((max n (dpP y):Nat):Int)⟩,⟨15,[],.slice al x.list.length cl⟩,⟨16,[],.int .i64 ((x.list.length:Nat):Int)⟩,⟨17,[],.int .i64 ((k:Nat):Int)⟩]) (by rw [show ((k:Nat):Int)+1=((k+1:Nat):Int) by omega]) (B0 [0] [3,15,16,17] (k:=?_))
   refine C1 (H':=([(b1,.cells #[.int .i64 x.kind,.string (bk x.text),.slice an x.names.length cn,.slice al x.list.length cl] 28 (0,0))]::H)) (fun w h=>(h.erase 0)) (E6 (s':=(k+1,max n (dpP y))) [3,15,16,17] kr rfl ⟨(by dsimp only; omega),(by dsimp only; rw [hn,hyx,dpL_take hlt])⟩ (by dsimp only; omega))
  ·
   simp only [decide_eq_false_iff_not] at hc3
   have hall:x.list.take k=x.list:=List.take_of_length_le (by omega)
   rw [hall] at hn
   refine G3 (A9 ?_)
   refine A9 (C5 ?_)
   refine A0 (A1 ?_)
   have hw6:IntKind.wrap .i64 (((n:Nat):Int)+1)=((n:Nat):Int)+1:=w64 (by omega) (by omega)
   refine A2 (C0 (E':=[⟨27,[],.int .i64 (((n:Nat):Int)+1)⟩]) [0,0] (Eq.trans (b:=some [⟨27,[],.int .i64 (IntKind.wrap .i64 (((n:Nat):Int)+1))⟩]) kr (by simp only [hw6])) (j:=2) rfl ?_)
   refine C4 (E':=[⟨27,[],.int .i64 ((dpP x:Nat):Int)⟩]) (by rw [show ((n:Nat):Int)+1=((dpP x:Nat):Int) by omega]) (B0 [0] [2] (k:=?_))
   refine A0 (B5 ?_)
   refine C1 (H':=H) (fun w h=>(h.erase 0)) (B6 [.tmp 2] [.int .i64 ((dpP x:Nat):Int)] (k:=?_))
   exact ⟨rfl,rfl⟩
theorem jdepth_:∀ (n:Nat) (x:JV),szJ x≤n→cnJ x≤1000000000→∀ (an:Option Addr) (cn:Nat) (al:Option Addr) (cl:Nat) (cs:List Value) (S:Nat→Obj→Prop),Rd S an (E7 x.names)→Rd S al cs→JRdL S x.list cs→∀ (W0:World) (H:List Grp),(∀ z o,S z o→At W0 H z o)→Tri Tryz.prog 19 #[.agg (jvC x an cn al cl).toArray] W0 H (fun v H'=>v=.int .i64 (dpP x:Int)∧H'=H)
  | 0,x,h,_,_,_,_,_,_,_,_,_,_,_,_,_=>absurd (szJ_pos x) (by omega)
  | n+1,x,h,hd,an,cn,al,cl,cs,S,h1,h2,h3,W0,H,hS=>jdepthW_ x an cn al cl cs S h1 h2 h3 hd (fun y hy hdy an cn al cl cs h1 h2 h3 W0 H hS=>jdepth_ n y (by omega) hdy an cn al cl cs S h1 h2 h3 W0 H hS) W0 H hS
end Go.Proofs.YtppgfiklmfoaeaaGreatDoor
