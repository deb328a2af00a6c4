/- What the walks of XML's tags say, road by road: attributes, spaces. Plain, and maps of texts. (and what it stands on) -/
import Derived.Test.YtppgfiklmfoaeaaGreatDoorZ2
import Derived.Lib.IndexMore
import Derived.Shelf.Strings.Cut
import Derived.Shelf.Strings.Search3
import Derived.Shelf.Strings.Split
import Derived.Shelf.Unicode.ValidAny
import Derived.Test.YtppgfiklmfoaeaaGreatDoorCards
import Derived.Test.YtppgfiklmfoaeaaGreatDoorTie
import Derived.ProofKit
import Derived.OpenShut
import Derived.LaidMore
import Derived.Lay
import Derived.SevenTiedAt
import Derived.Stop.Joined
import Derived.Stop.LaidErr
import Derived.LaidLaws
import Derived.Lib.LaidTab
import Derived.Lib.LaidU8T
import Derived.ChangeMaps5
import Derived.ChangeSlices
import Derived.Carry
import Derived.Shelf.Vars
import Derived.HandedShaped
import Derived.Lib.Split
namespace Go.Xml
open Go.Esc Go.Json Go.Lib
theorem lines_no {b:UInt8} (h:b≠13):∀ t,B0 (b::t)=b::B0 t:=by
  intro t
  cases t with
  | nil=>simp [B0,h]
  | cons c t =>
    rw [B0]
    · rw [if_neg h]
    · intro u e1 _; exact h e1
theorem lines_13 {t:List UInt8} (h:∀ u,t≠10::u):B0 (13::t)=10::B0 t:=by
  cases t with
  | nil=>rfl
  | cons c t =>
    rw [B0]
    · rfl
    · intro u _ e2; exact h u e2
theorem lines_keep:∀ (a t:List UInt8),(∀ b∈a,b≠13)→B0 (a++t)=a++B0 t
  | [],_,_=>rfl
  | b::a,t,h=>by rw [List.cons_append,lines_no (h b List.mem_cons_self),lines_keep a t (fun c hc=>h c (List.mem_cons_of_mem _ hc))]; rfl
theorem lines_enc:∀ (n:Nat) (ps:List Int),ps.length≤n→(∀ p∈ps,isR p∧K5 p=true)→∃ qs,(∀ q∈qs,isR q∧K5 q=true)∧B0 (I6 ps)=I6 qs∧qs.length≤ps.length
  | _,[],_,_=>⟨[],fun _ h=>absurd h List.not_mem_nil,rfl,Nat.le_refl _⟩
  | 0,p::ps,h,_=>by simp at h
  | n+1,p::ps,h,hp=>by
    have hps:=fun q hq=>hp q (List.mem_cons_of_mem p hq)
    obtain ⟨hpR,hpP⟩:=hp p List.mem_cons_self
    rw [List.length_cons] at h
    have h10:isR 10∧K5 10=true:=⟨by unfold isR; decide,by decide⟩
    by_cases h13:p=13
    · subst h13
      have e0:I6 (13::ps)=13::I6 ps:=by rw [I0,enc_one (by decide) (by decide)]; rfl
      have e1:∀ qs,I6 (10::qs)=10::I6 qs:=fun qs=>by rw [I0,enc_one (by decide) (by decide)]; rfl
      rw [e0]
      by_cases hc:∃ u,I6 ps=10::u
      · obtain ⟨u,hu⟩:=hc
        obtain ⟨qs,e2,e3⟩:=enc_tail (fun q hq=>(hps q hq).1) (by decide) hu
        rw [hu,lines_cr,e3]
        obtain ⟨rs,hr,e4,hz⟩:=lines_enc n qs (by rw [e2,List.length_cons] at h; omega) (fun q hq=>hps q (by rw [e2]; exact List.mem_cons_of_mem _ hq))
        exact ⟨10::rs,fun q hq=>by rcases List.mem_cons.1 hq with rfl | hq; exact h10; exact hr q hq,by rw [e1,e4],by rw [e2,List.length_cons,List.length_cons,List.length_cons]; omega⟩
      · rw [lines_13 (fun u e=>hc ⟨u,e⟩)]
        obtain ⟨rs,hr,e4,hz⟩:=lines_enc n ps (by omega) hps
        exact ⟨10::rs,fun q hq=>by rcases List.mem_cons.1 hq with rfl | hq; exact h10; exact hr q hq,by rw [e1,e4],by rw [List.length_cons,List.length_cons]; omega⟩
    · have hne:∀ b∈encodeRune p,b≠13:=fun b hb=>by simpa using enc_no hpR (c:=13) (by decide) h13 b hb
      obtain ⟨rs,hr,e4,hz⟩:=lines_enc n ps (by omega) hps
      exact ⟨p::rs,fun q hq=>by rcases List.mem_cons.1 hq with rfl | hq; exact ⟨hpR,hpP⟩; exact hr q hq,by rw [I0,lines_keep _ _ hne,e4,I0],by rw [List.length_cons,List.length_cons]; omega⟩
theorem Pl.lines {l:List UInt8} (h:Pl l):Pl (B0 l):=by
  obtain ⟨ps,hp,rfl⟩:=h
  obtain ⟨qs,hq,e,_⟩:=lines_enc ps.length ps (Nat.le_refl _) hp
  exact ⟨qs,hq,e⟩
theorem refs_ok {s l:List UInt8} (h:Pl s):match refsE s with | some x=>M2 s (l,0)=(x,(l,0)) | none=>(M2 s (l,0)).2.2=70:=by
  obtain ⟨qs,hq,hl⟩:=h.lines
  have hm:=(rfs_main qs.length qs (Nat.le_refl _) hq).2
  unfold refsE M2
  rw [hl,hm]
  dsimp only
  by_cases hb:(C3 38 (I6 qs)).2.any badX=true
  · rw [if_pos (.inl hb),if_pos hb]
    dsimp only
    rw [flt_0 (e:=70) (q:=(l,0)) rfl]
    split
    · rw [flt_ne (show (70:Int)≠0 by decide)]
    · rfl
  · by_cases hp:G4 (unL (I6 qs))≠unL (I6 qs)
    · rw [if_pos (.inr hp),if_neg hb,if_pos hp]; rfl
    · rw [if_neg (fun h=>h.elim hb hp),if_neg hb,if_neg hp]
theorem around_ne {n:Nat} {q:XS} (h:q.2≠0):C0 n q=q:=by
  cases n with
  | zero=>rfl
  | succ n=>unfold C0; rw [if_pos h]
theorem around_ok (n m:Nat) (l:List UInt8) (hp:Pl l) (hn:l.length<n) (hm:l.length<m):match M6 n l with | some r=>C0 m (l,0)=(r,0)∧Pl r∧r.length≤l.length | none=>(C0 m (l,0)).2=70:=by
  obtain ⟨n,rfl⟩:∃ k,n=k+1:=⟨n - 1,by omega⟩
  obtain ⟨m,rfl⟩:∃ k,m=k+1:=⟨m - 1,by omega⟩
  have hs:J5 (l,0)=(decide ((blk l).length<l.length),(blk l,0)):=rfl
  rw [C0,if_neg (by simp),hs]
  dsimp only
  by_cases hb:(blk l).length<l.length
  · rw [if_pos (decide_eq_true hb)]
    have ih:=around_ok (n+1) m (blk l) hp.blk (by omega) (by omega)
    have he:M6 (n+1) (blk l)=M6 (n+1) l:=by rw [M6,M6,blk_idem]
    rw [he] at ih
    revert ih
    cases M6 (n+1) l with
    | none=>exact id
    | some r=>exact fun ih=>⟨ih.1,ih.2.1,by have:=ih.2.2; omega⟩
  · rw [if_neg (by rw [decide_eq_false hb]; decide),blk_same hb]
    have ha:=aside_ok (l:=l)
    rw [M6,blk_same hb]
    cases hA:P7 l with
    | none =>
      rw [hA] at ha
      dsimp only at ha ⊢
      rw [if_pos ha.1,around_ne (by rw [ha.2]; decide),ha.2]
    | some x =>
      cases x with
      | none=>rw [hA] at ha; dsimp only at ha ⊢; rw [ha]; dsimp only; rw [if_neg Bool.false_ne_true]; exact ⟨rfl,hp,Nat.le_refl _⟩
      | some r =>
        obtain ⟨h1,h2⟩:=aside_pl hp hA
        rw [hA] at ha; dsimp only at ha ⊢
        rw [ha,if_pos rfl]
        have ih:=around_ok n m r h1 (by omega) (by omega)
        revert ih
        cases M6 n r with
        | none=>exact id
        | some r=>exact fun ih=>⟨ih.1,ih.2.1,by have:=ih.2.2; omega⟩
termination_by l.length
theorem quote_ok {l:List UInt8}:match quoteE l with | some x=>E2 (l,0)=(x.1,(x.2,0)) | none=>(E2 (l,0)).2.2=70:=by
  unfold quoteE E2
  by_cases h1:[34].isPrefixOf l=true
  · rw [if_pos h1,take_yes h1,if_pos rfl]; exact until_ok
  · rw [if_neg h1,take_no h1]
    simp only [Bool.false_eq_true,if_false]
    by_cases h2:[39].isPrefixOf l=true
    · rw [if_pos h2,take_yes h2,if_pos rfl]; exact until_ok
    · rw [if_neg h2,take_no h2]
      simp only [Bool.false_eq_true,if_false]; rfl
theorem quote_ne {q:XS} (h:q.2≠0):(E2 q).2.2=q.2:=by
  have t1:=take_e [34] q
  have t2:=take_e [39] q
  unfold E2
  split
  · rw [until_ne (by rw [t1]; exact h),t1]
  · split
    · rw [until_ne (by rw [t2]; exact h),t2]
    · show (E7 70 q).2=_; rw [flt_ne h]
def valX (v:List UInt8 × XS):List UInt8 × XS:=M2 v.1 (if (60:UInt8)∈v.1 then E7 70 v.2 else v.2)
theorem val_ne {v:List UInt8 × XS} (h:v.2.2≠0):(valX v).2.2=v.2.2:=by
  unfold valX
  have:(if (60:UInt8)∈v.1 then E7 70 v.2 else v.2)=v.2:=by split; exact flt_ne h; rfl
  rw [this,refs_ne h]
theorem attrX_eq (q:XS):V8 q=(⟨(A4 q).1,(valX (E2 (J5 (C9 [61] (J5 (A4 q).2).2)).2)).1⟩,(valX (E2 (J5 (C9 [61] (J5 (A4 q).2).2)).2)).2):=rfl
theorem skip_e (q:XS):(J5 q).2.2=q.2:=rfl
theorem attr_ne {q:XS} (h:(A4 q).2.2≠0):(V8 q).2.2=(A4 q).2.2:=by
  rw [attrX_eq]
  have h1:(C9 [61] (J5 (A4 q).2).2).2=(A4 q).2.2:=must_ne h
  have h2:(E2 (J5 (C9 [61] (J5 (A4 q).2).2)).2).2.2=(A4 q).2.2:=by rw [quote_ne (by rw [skip_e,h1]; exact h),skip_e,h1]
  exact (val_ne (v:=E2 (J5 (C9 [61] (J5 (A4 q).2).2)).2) (by rw [h2]; exact h)).trans h2
theorem attr_ok {l:List UInt8} (h:Pl l):match attrE l with | some x=>V8 (l,0)=(x.1,(x.2,0)) | none=>(V8 (l,0)).2.2=70:=by
  have h1:=qual_ok (l:=l)
  unfold attrE
  cases hq:qualE l with
  | none =>
    rw [hq] at h1
    dsimp only at h1 ⊢
    rw [attr_ne (by rw [h1]; decide),h1]
  | some a =>
    obtain ⟨a,r⟩:=a
    obtain ⟨p1,p2,_,_⟩:=qual_pl h hq
    rw [hq] at h1
    dsimp only at h1 p1 p2 ⊢
    rw [attrX_eq,h1]
    have s1:(J5 (r,0)).2=(blk r,0):=rfl
    dsimp only
    rw [s1]
    have h2:=must_ok (w:=[61]) (l:=blk r)
    cases hm:mustE [61] (blk r) with
    | none =>
      rw [hm] at h2
      dsimp only at h2 ⊢
      have h3:(E2 (J5 (C9 [61] (blk r,0))).2).2.2=70:=by rw [quote_ne (by rw [skip_e,h2]; decide),skip_e,h2]
      rw [val_ne (by rw [h3]; decide),h3]
    | some r1 =>
      obtain ⟨q1,q2⟩:=must_pl p1.blk (by decide) (by decide) hm
      rw [hm] at h2
      dsimp only at h2 ⊢
      rw [h2]
      have s2:(J5 (r1,0)).2=(blk r1,0):=rfl
      rw [s2]
      have h3:=quote_ok (l:=blk r1)
      cases hv:quoteE (blk r1) with
      | none =>
        rw [hv] at h3
        dsimp only at h3 ⊢
        rw [val_ne (by rw [h3]; decide),h3]
      | some v =>
        obtain ⟨v,r2⟩:=v
        obtain ⟨v1,v2,_⟩:=quote_pl q1.blk hv
        rw [hv] at h3
        dsimp only at h3 v1 ⊢
        rw [h3]
        unfold valX
        dsimp only
        by_cases h60:(60:UInt8)∈v
        · rw [if_pos h60,if_pos h60,flt_0 rfl]
          dsimp only
          rw [refs_ne (show (70:Int)≠0 by decide)]
        · rw [if_neg h60,if_neg h60]
          have h4:=refs_ok (l:=r2) v1
          cases hr:refsE v with
          | none=>rw [hr] at h4; exact h4
          | some x=>rw [hr] at h4; dsimp only at h4 ⊢; rw [h4]
theorem attrs_ne {n:Nat} {acc:List AT} {q:XS} (h:q.2≠0):E4 n acc q=(acc,q):=by
  cases n with
  | zero=>rfl
  | succ n=>rw [E4,if_pos h]
theorem tag_ne {n:Nat} {acc:List AT} {q:XS} (h:q.2≠0):(tagX n acc q).2.2.2=q.2:=by
  unfold tagX
  rw [attrs_ne h]
  dsimp only
  have t1:=take_e [47,62] q
  split
  · exact t1
  · rw [must_ne (by rw [t1]; exact h),t1]
theorem tag_stop {m:Nat} {acc:List AT} {l r:List UInt8} (h:E4 m acc (l,0)=(acc,(r,0))):tagX m acc (l,0)=(acc,[47,62].isPrefixOf r,if [47,62].isPrefixOf r then (r.drop 2,0) else C9 [62] (r,0)):=by
  unfold tagX
  rw [h,take_0]
  by_cases h1:[47,62].isPrefixOf r=true
  · rw [if_pos h1,if_pos h1,h1]; rfl
  · rw [if_neg h1,if_neg h1,Bool.eq_false_iff.2 h1]; rfl
theorem tag_ok:∀ (n m:Nat) (acc:List AT) (l:List UInt8),Pl l→l.length<n→l.length<m→match tagE n acc l with | some x=>tagX m acc (l,0)=(x.1,x.2.1,(x.2.2,0))∧Pl x.2.2∧x.2.2.length<l.length | none=>(tagX m acc (l,0)).2.2.2=70
  | 0,_,_,_,_,h,_=>absurd h (Nat.not_lt_zero _)
  | _+1,0,_,_,_,_,h=>absurd h (Nat.not_lt_zero _)
  | n+1,m+1,acc,l,hp,hn,hm=>by
    have hs:J5 (l,0)=(decide ((blk l).length<l.length),(blk l,0)):=rfl
    have hA:E4 (m+1) acc (l,0)=if (blk l).length<l.length∧¬ [62].isPrefixOf (blk l)=true∧¬ [47,62].isPrefixOf (blk l)=true then E4 m (acc++[(V8 (blk l,0)).1]) (V8 (blk l,0)).2 else (acc,(blk l,0)):=by
      rw [E4,if_neg (by simp),hs]
      dsimp only
      by_cases hb:(blk l).length<l.length
      · simp only [hb,decide_true,true_and]
      · rw [if_neg (fun h=>hb (by simpa using h.1)),if_neg (fun h=>hb h.1)]
    rw [tagE]
    by_cases h1:[47,62].isPrefixOf (blk l)=true
    · rw [if_pos h1,tag_stop (hA.trans (if_neg fun h=>h.2.2 h1)),if_pos h1,h1]
      dsimp only
      have:=(List.isPrefixOf_iff_prefix.1 h1).length_le
      have h2:([47,62]:List UInt8).length=2:=rfl
      have h3:=W8 l
      exact ⟨rfl,hp.blk.pre h1 (by decide),by rw [List.length_drop]; omega⟩
    · rw [if_neg h1]
      by_cases h2:[62].isPrefixOf (blk l)=true
      · rw [if_pos h2,tag_stop (hA.trans (if_neg fun h=>h.2.1 h2)),if_neg h1]
        dsimp only
        have:=(List.isPrefixOf_iff_prefix.1 h2).length_le
        have h4:([62]:List UInt8).length=1:=rfl
        have h3:=W8 l
        refine ⟨?_,hp.blk.pre h2 (by decide),by rw [List.length_drop]; omega⟩
        unfold C9
        rw [if_pos h2,Bool.eq_false_iff.2 h1]; rfl
      · rw [if_neg h2]
        by_cases hb:(blk l).length<l.length
        · rw [if_pos hb]
          have hA2:=hA.trans (if_pos ⟨hb,h2,h1⟩)
          have h3:=attr_ok hp.blk
          cases hx:attrE (blk l) with
          | none =>
            rw [hx] at h3
            dsimp only at h3 ⊢
            have e:tagX (m+1) acc (l,0)=tagX m (acc++[(V8 (blk l,0)).1]) (V8 (blk l,0)).2:=by unfold tagX; rw [hA2]
            rw [e,tag_ne (by rw [h3]; decide),h3]
          | some x =>
            obtain ⟨x,r⟩:=x
            obtain ⟨p1,p2,_,_⟩:=attr_pl hp.blk hx
            rw [hx] at h3
            dsimp only at h3 p1 p2 ⊢
            have e:tagX (m+1) acc (l,0)=tagX m (acc++[x]) (r,0):=by unfold tagX; rw [hA2,h3]
            rw [e]
            have ih:=tag_ok n m (acc++[x]) r p1 (by omega) (by omega)
            revert ih
            cases tagE n (acc++[x]) r with
            | none=>exact id
            | some y=>exact fun ih=>⟨ih.1,ih.2.1,by have:=ih.2.2; omega⟩
        · rw [if_neg hb,tag_stop (hA.trans (if_neg fun h=>hb h.1)),if_neg h1]
          dsimp only
          unfold C9
          rw [if_neg h2]; rfl
theorem sp_ne:∀ {ats:List AT} {seen:List (List UInt8)} {sp:SPX} {q:XS},q.2≠0→(L2 ats seen sp q).2=q
  | [],_,_,_,_=>rfl
  | a::r,seen,sp,q,h=>by
    rw [L2]
    cases O9 a with
    | none=>exact sp_ne h
    | some p =>
      dsimp only
      have:(if p∈seen∨a.q.has=true∧a.value=[] then E7 70 q else q)=q:=by split; exact flt_ne h; rfl
      rw [this]; exact sp_ne h
theorem sp_ok:∀ (ats:List AT) (seen:List (List UInt8)) (sp:SPX) (l:List UInt8),match spE ats seen sp with | some x=>L2 ats seen sp (l,0)=(x,(l,0)) | none=>(L2 ats seen sp (l,0)).2.2=70
  | [],_,_,_=>rfl
  | a::r,seen,sp,l=>by
    rw [L2,spE]
    cases O9 a with
    | none=>exact sp_ok r seen sp l
    | some p =>
      dsimp only
      by_cases hc:p∈seen∨a.q.has=true∧a.value=[]
      · rw [if_pos hc,if_pos hc,flt_0 rfl]
        dsimp only
        rw [sp_ne (show (70:Int)≠0 by decide)]
      · rw [if_neg hc,if_neg hc]; exact sp_ok r _ _ l
theorem space_ne {p:List UInt8} {has:Bool} {sp:SPX} {q:XS} (h:q.2≠0):(I9 p has sp q).2=q:=by
  unfold I9; dsimp only; split
  · exact flt_ne h
  · rfl
theorem space_ok {p:List UInt8} {has:Bool} {sp:SPX} {l:List UInt8}:match spaceE p has sp with | some x=>I9 p has sp (l,0)=(x,(l,0)) | none=>(I9 p has sp (l,0)).2.2=70:=by
  unfold spaceE I9
  by_cases hc:has=true∧lookX sp p=none
  · rw [if_pos hc,if_pos hc]; rfl
  · rw [if_neg hc,if_neg hc]
theorem V0:∀ {ats:List AT} {out:List XA} {sp:SPX} {q:XS},q.2≠0→(M5 ats out sp q).2=q
  | [],_,_,_,_=>rfl
  | a::r,out,sp,q,h=>by
    rw [M5]
    split
    · exact V0 h
    · dsimp only
      have h1:(if a.q.has=true then I9 a.q.pre true sp q else ([],q)).2=q:=by split; exact space_ne h; rfl
      have h2:∀ b:Bool,(if b=true then E7 70 (if a.q.has=true then I9 a.q.pre true sp q else ([],q)).2 else (if a.q.has=true then I9 a.q.pre true sp q else ([],q)).2)=q:=by
        intro b; rw [h1]; split; exact flt_ne h; rfl
      rw [h2]; exact V0 h
theorem marks_ok:∀ (ats:List AT) (out:List XA) (sp:SPX) (l:List UInt8),match marksE ats out sp with | some x=>M5 ats out sp (l,0)=(x,(l,0)) | none=>(M5 ats out sp (l,0)).2.2=70
  | [],_,_,_=>rfl
  | a::r,out,sp,l=>by
    rw [M5,marksE]
    by_cases hd:(O9 a).isSome=true
    · rw [if_pos hd,if_pos hd]; exact marks_ok r out sp l
    · rw [if_neg hd,if_neg hd]
      dsimp only
      have hs:match (if a.q.has=true then spaceE a.q.pre true sp else some []) with | some x=>(if a.q.has=true then I9 a.q.pre true sp (l,0) else ([],(l,0)))=(x,(l,0)) | none=>(if a.q.has=true then I9 a.q.pre true sp (l,0) else ([],(l,0))).2.2=70:=by
        by_cases hh:a.q.has=true
        · rw [if_pos hh,if_pos hh]; exact space_ok
        · rw [if_neg hh,if_neg hh]
      revert hs
      cases (if a.q.has=true then spaceE a.q.pre true sp else some []) with
      | none =>
        intro hs
        dsimp only at hs ⊢
        generalize (if a.q.has=true then I9 a.q.pre true sp (l,0) else ([],(l,0)))=y at hs
        have h2:∀ b:Bool,(if b=true then E7 70 y.2 else y.2)=y.2:=by
          intro b; split; exact flt_ne (by rw [hs]; decide); rfl
        rw [h2,V0 (by rw [hs]; decide),hs]
      | some s =>
        intro hs
        dsimp only at hs ⊢
        rw [hs]
        dsimp only
        by_cases hb:(out.any fun y=>y.space==s&&y.name==a.q.name)=true
        · rw [if_pos hb,if_pos hb,flt_0 rfl]
          dsimp only
          rw [V0 (show (70:Int)≠0 by decide)]
        · rw [if_neg hb,if_neg hb]; exact marks_ok r _ sp l
def ElOk (el:List UInt8→EX) (ex:XS→XN × XS):Prop:=∀ l,Pl l→match el l with | .ok x=>ex (l,0)=(x.1,(x.2,0))∧Pl x.2∧x.2.length<l.length | .error e=>(ex (l,0)).2.2=e∧e≠0
theorem cont_ne {ex:XS→XN × XS} {n:Nat} {ks:List XN} {q:XS} (h:q.2≠0):F4 ex n ks q=(ks,q):=by
  cases n with
  | zero=>rfl
  | succ n=>rw [F4,if_pos h]
theorem piece_ok {el:List UInt8→EX} {ex:XS→XN × XS} (hel:ElOk el ex) (m:Nat) (ks:List XN) (l:List UInt8) (hp:Pl l) (h0:¬ [60,47].isPrefixOf l=true):match pieceE el ks l with | .ok x=>F4 ex (m+1) ks (l,0)=F4 ex m x.1 (x.2,0)∧Pl x.2∧x.2.length<l.length | .error e=>(F4 ex (m+1) ks (l,0)).2.2=e∧e≠0:=by
  have ht:∀ w:List UInt8,(F7 w (l,0)).1=w.isPrefixOf l:=fun w=>by
    rw [take_0]
    by_cases h:w.isPrefixOf l=true
    · rw [if_pos h,h]
    · rw [if_neg h,Bool.eq_false_iff.2 h]
  have ht2:∀ w:List UInt8,w.isPrefixOf l=true→(F7 w (l,0)).2=(l.drop w.length,0):=fun w h=>by rw [take_0,if_pos h]
  rw [F4,if_neg (by simp)]
  unfold pieceE
  rw [ht,ht,ht,if_neg h0]
  by_cases h1:[60,33,91,67,68,65,84,65,91].isPrefixOf l=true
  · rw [if_pos h1,if_pos h1,ht2 _ h1]
    dsimp only [List.length_cons,List.length_nil]
    have p0:=hp.pre h1 (by decide)
    have hu:=until_ok (w:=[93,93,62]) (l:=l.drop 9)
    cases hU:Q3 [93,93,62] (l.drop 9) with
    | none =>
      rw [hU] at hu
      dsimp only at hu ⊢
      rw [cont_ne (by rw [hu]; decide)]
      exact ⟨hu,by decide⟩
    | some x =>
      obtain ⟨x,r⟩:=x
      obtain ⟨_,p2,p3⟩:=until_pl p0 (by decide) (by decide) hU
      change r.length<(l.drop 9).length at p3
      rw [List.length_drop] at p3
      rw [hU] at hu
      dsimp only at hu ⊢
      rw [hu]
      exact ⟨rfl,p2,by omega⟩
  · rw [if_neg h1,if_neg h1]
    have ha:=aside_ok (l:=l)
    cases hA:P7 l with
    | none =>
      rw [hA] at ha
      dsimp only at ha ⊢
      rw [if_pos ha.1,cont_ne (by rw [ha.2]; decide)]
      exact ⟨ha.2,by decide⟩
    | some x =>
      cases x with
      | some r =>
        obtain ⟨p2,p3⟩:=aside_pl hp hA
        rw [hA] at ha
        dsimp only at ha ⊢
        rw [ha,if_pos rfl]
        exact ⟨rfl,p2,p3⟩
      | none =>
        rw [hA] at ha
        dsimp only at ha ⊢
        rw [ha]
        dsimp only
        rw [if_neg Bool.false_ne_true]
        by_cases h2:[60].isPrefixOf l=true
        · rw [if_pos h2,if_pos h2,ht2 _ h2]
          dsimp only [List.length_cons,List.length_nil]
          have p0:=hp.pre h2 (by decide)
          have h3:=hel (l.drop 1) p0
          cases hE:el (l.drop 1) with
          | error e =>
            rw [hE] at h3
            dsimp only at h3 ⊢
            rw [cont_ne (by rw [h3.1]; exact h3.2)]
            exact h3
          | ok x =>
            obtain ⟨x,r⟩:=x
            rw [hE] at h3
            dsimp only at h3 ⊢
            rw [h3.1]
            have h4:=h3.2.2
            rw [List.length_drop] at h4
            exact ⟨rfl,h3.2.1,by omega⟩
        · rw [if_neg h2,if_neg h2]
          have tp:=fun x h=>text_pl (x:=x) hp h (Bool.eq_false_iff.2 h2)
          unfold textE at tp ⊢
          cases hi:idxL [60] l with
          | none=>exact ⟨rfl,by decide⟩
          | some i =>
            rw [hi] at tp
            dsimp only at tp ⊢
            by_cases h3:(idxL [93,93,62] (l.take i)).isSome=true
            · rw [if_pos h3,if_pos h3]; exact ⟨rfl,by decide⟩
            · rw [if_neg h3] at tp
              rw [if_neg h3,if_neg h3]
              have hr:=refs_ok (l:=l.drop i) (hp.at hi (by decide) (by decide)).1
              cases hR:refsE (l.take i) with
              | none =>
                rw [hR] at hr
                dsimp only at hr ⊢
                rw [cont_ne (by rw [hr]; decide)]
                exact ⟨hr,by decide⟩
              | some x =>
                rw [hR] at hr tp
                dsimp only at hr tp ⊢
                rw [hr]
                obtain ⟨t1,t2⟩:=tp _ rfl
                exact ⟨rfl,t1,t2⟩
theorem cont_ok {el:List UInt8→EX} {ex:XS→XN × XS} (hel:ElOk el ex):∀ (n m:Nat) (ks:List XN) (l:List UInt8),Pl l→l.length<n→l.length<m→match contE el n ks l with | .ok x=>F4 ex m ks (l,0)=(x.1,(x.2,0))∧Pl x.2∧x.2.length<l.length | .error e=>(F4 ex m ks (l,0)).2.2=e∧e≠0
  | 0,_,_,_,_,h,_=>absurd h (Nat.not_lt_zero _)
  | _+1,0,_,_,_,_,h=>absurd h (Nat.not_lt_zero _)
  | n+1,m+1,ks,l,hp,hn,hm=>by
    rw [contE]
    by_cases h0:[60,47].isPrefixOf l=true
    · rw [if_pos h0]
      dsimp only
      rw [F4,if_neg (by simp),take_0,if_pos h0,if_pos rfl]
      have:=(List.isPrefixOf_iff_prefix.1 h0).length_le
      have h2:([60,47]:List UInt8).length=2:=rfl
      exact ⟨rfl,hp.pre h0 (by decide),by rw [List.length_drop]; omega⟩
    · rw [if_neg h0]
      have h1:=piece_ok hel m ks l hp h0
      cases hP:pieceE el ks l with
      | error e=>rw [hP] at h1; exact h1
      | ok x =>
        obtain ⟨k2,r⟩:=x
        rw [hP] at h1
        dsimp only at h1 ⊢
        rw [h1.1]
        have ih:=cont_ok hel n m k2 r h1.2.1 (by have:=h1.2.2; omega) (by have:=h1.2.2; omega)
        revert ih
        cases contE el n k2 r with
        | error e=>exact id
        | ok y=>exact fun ih=>⟨ih.1,ih.2.1,by have:=ih.2.2; have:=h1.2.2; omega⟩
theorem elX_eq (lv:Nat) (sp0:SPX) (q:XS):elX lv sp0 q =
    let a:=A4 q
    let t:=tagX (a.2.1.length+1) [] a.2
    if t.2.2.2≠0 then (T9,t.2.2) else
    let sp:=L2 t.1 [] sp0 t.2.2
    let s:=I9 a.1.pre a.1.has sp.1 sp.2
    let m:=M5 t.1 [] sp.1 s.2
    match lv with
    | 0=>(.mk s.1 a.1.name m.1 [] [],E7 71 m.2)
    | lv+1 =>
      if t.2.1=true∨m.2.2≠0 then (.mk s.1 a.1.name m.1 [] [],m.2) else R7 a.1 (F4 (elX lv sp.1) (m.2.1.length+1) [] m.2) s.1 m.1:=by
  rw [elX]
  all_goals (cases lv <;> dsimp only)
theorem end_ok {a:QN} {s:List UInt8} {m:List XA} {ks:List XN} {l:List UInt8} (hp:Pl l):match endE a l with | some r=>R7 a (ks,(l,0)) s m=(.mk s a.name m ks [],(r,0))∧Pl r∧r.length<l.length | none=>(R7 a (ks,(l,0)) s m).2.2=70:=by
  have h1:=qual_ok (l:=l)
  unfold endE R7
  dsimp only
  cases hq:qualE l with
  | none =>
    rw [hq] at h1
    dsimp only at h1 ⊢
    have h2:(C9 [62] (J5 (A4 (l,0)).2).2).2=70:=by rw [must_ne (by rw [skip_e,h1]; decide),skip_e,h1]
    split
    · rw [flt_ne (by rw [h2]; decide),h2]
    · exact h2
  | some b =>
    obtain ⟨b,r⟩:=b
    obtain ⟨p1,p2,_,_⟩:=qual_pl hp hq
    rw [hq] at h1
    dsimp only at h1 p1 p2 ⊢
    rw [h1]
    dsimp only
    have s1:(J5 (r,0)).2=(blk r,0):=rfl
    rw [s1]
    have h2:=must_ok (w:=[62]) (l:=blk r)
    by_cases hb:b≠a
    · rw [if_pos hb,if_pos hb]
      dsimp only
      cases hm:mustE [62] (blk r) with
      | none=>rw [hm] at h2; dsimp only at h2; rw [flt_ne (by rw [h2]; decide),h2]
      | some x=>rw [hm] at h2; dsimp only at h2; rw [h2]; rfl
    · rw [if_neg hb,if_neg hb]
      cases hm:mustE [62] (blk r) with
      | none=>rw [hm] at h2; exact h2
      | some x =>
        obtain ⟨q1,q2⟩:=must_pl p1.blk (by decide) (by decide) hm
        rw [hm] at h2
        have:=W8 r
        exact ⟨congrArg (Prod.mk _) h2,q1,by omega⟩
theorem close_ne {a:QN} {k:List XN × XS} {s:List UInt8} {m:List XA} (h:k.2.2≠0):(R7 a k s m).2.2=k.2.2:=by
  unfold R7
  dsimp only
  have h1:=qual_ne h
  have h2:(C9 [62] (J5 (A4 k.2).2).2).2=k.2.2:=by rw [must_ne (by rw [skip_e,h1]; exact h),skip_e,h1]
  split
  · rw [flt_ne (by rw [h2]; exact h),h2]
  · exact h2
theorem el_ok:∀ (lv:Nat) (sp0:SPX),ElOk (elE lv sp0) (elX lv sp0):=by
  intro lv
  induction lv with
  | zero =>
    intro sp0 l hp
    have hx:=elX_eq 0 sp0 (l,0)
    dsimp only at hx
    rw [elE]
    unfold headE
    have h1:=qual_ok (l:=l)
    cases hq:qualE l with
    | none =>
      rw [hq] at h1
      dsimp only at h1 ⊢
      have ht:=tag_ne (n:=(A4 (l,0)).2.1.length+1) (acc:=[]) (q:=(A4 (l,0)).2) (by rw [h1]; decide)
      rw [h1] at ht
      rw [hx,if_pos (by rw [ht]; decide)]
      exact ⟨ht,by decide⟩
    | some a =>
      obtain ⟨a,r⟩:=a
      obtain ⟨p1,p2,_,_⟩:=qual_pl hp hq
      rw [hq] at h1
      dsimp only at h1 p1 p2 ⊢
      rw [h1] at hx
      dsimp only at hx
      have h2:=tag_ok (r.length+1) (r.length+1) [] r p1 (Nat.lt_succ_self _) (Nat.lt_succ_self _)
      cases hT:tagE (r.length+1) [] r with
      | none =>
        rw [hT] at h2
        dsimp only at h2 ⊢
        rw [hx,if_pos (by rw [h2]; decide)]
        exact ⟨h2,by decide⟩
      | some t =>
        obtain ⟨ats,c,r1⟩:=t
        rw [hT] at h2
        dsimp only at h2 ⊢
        rw [h2.1] at hx
        dsimp only at hx
        rw [if_neg (by decide)] at hx
        have h3:=sp_ok ats [] sp0 r1
        cases hS:spE ats [] sp0 with
        | none =>
          rw [hS] at h3
          dsimp only at h3 ⊢
          rw [space_ne (by rw [h3]; decide),V0 (by rw [h3]; decide),flt_ne (by rw [h3]; decide)] at hx
          rw [hx]; exact ⟨h3,by decide⟩
        | some sp =>
          rw [hS] at h3
          dsimp only at h3 ⊢
          rw [h3] at hx
          dsimp only at hx
          have h4:=space_ok (p:=a.pre) (has:=a.has) (sp:=sp) (l:=r1)
          cases hP:spaceE a.pre a.has sp with
          | none =>
            rw [hP] at h4
            dsimp only at h4 ⊢
            rw [V0 (by rw [h4]; decide),flt_ne (by rw [h4]; decide)] at hx
            rw [hx]; exact ⟨h4,by decide⟩
          | some s =>
            rw [hP] at h4
            dsimp only at h4 ⊢
            rw [h4] at hx
            dsimp only at hx
            have h5:=marks_ok ats [] sp r1
            cases hM:marksE ats [] sp with
            | none =>
              rw [hM] at h5
              dsimp only at h5 ⊢
              rw [flt_ne (by rw [h5]; decide)] at hx
              rw [hx]; exact ⟨h5,by decide⟩
            | some m =>
              rw [hM] at h5
              dsimp only at h5 ⊢
              rw [h5] at hx
              rw [hx]; exact ⟨rfl,by decide⟩
  | succ lv ih =>
    intro sp0 l hp
    have hx:=elX_eq (lv+1) sp0 (l,0)
    dsimp only at hx
    rw [elE]
    unfold headE
    have h1:=qual_ok (l:=l)
    cases hq:qualE l with
    | none =>
      rw [hq] at h1
      dsimp only at h1 ⊢
      have ht:=tag_ne (n:=(A4 (l,0)).2.1.length+1) (acc:=[]) (q:=(A4 (l,0)).2) (by rw [h1]; decide)
      rw [h1] at ht
      rw [hx,if_pos (by rw [ht]; decide)]
      exact ⟨ht,by decide⟩
    | some a =>
      obtain ⟨a,r⟩:=a
      obtain ⟨p1,p2,_,_⟩:=qual_pl hp hq
      rw [hq] at h1
      dsimp only at h1 p1 p2 ⊢
      rw [h1] at hx
      dsimp only at hx
      have h2:=tag_ok (r.length+1) (r.length+1) [] r p1 (Nat.lt_succ_self _) (Nat.lt_succ_self _)
      cases hT:tagE (r.length+1) [] r with
      | none =>
        rw [hT] at h2
        dsimp only at h2 ⊢
        rw [hx,if_pos (by rw [h2]; decide)]
        exact ⟨h2,by decide⟩
      | some t =>
        obtain ⟨ats,c,r1⟩:=t
        rw [hT] at h2
        dsimp only at h2 ⊢
        rw [h2.1] at hx
        dsimp only at hx
        rw [if_neg (by decide)] at hx
        have h3:=sp_ok ats [] sp0 r1
        cases hS:spE ats [] sp0 with
        | none =>
          rw [hS] at h3
          dsimp only at h3 ⊢
          rw [space_ne (by rw [h3]; decide),V0 (by rw [h3]; decide),if_pos (.inr (by rw [h3]; decide))] at hx
          rw [hx]; exact ⟨h3,by decide⟩
        | some sp =>
          rw [hS] at h3
          dsimp only at h3 ⊢
          rw [h3] at hx
          dsimp only at hx
          have h4:=space_ok (p:=a.pre) (has:=a.has) (sp:=sp) (l:=r1)
          cases hP:spaceE a.pre a.has sp with
          | none =>
            rw [hP] at h4
            dsimp only at h4 ⊢
            rw [V0 (by rw [h4]; decide),if_pos (.inr (by rw [h4]; decide))] at hx
            rw [hx]; exact ⟨h4,by decide⟩
          | some s =>
            rw [hP] at h4
            dsimp only at h4 ⊢
            rw [h4] at hx
            dsimp only at hx
            have h5:=marks_ok ats [] sp r1
            cases hM:marksE ats [] sp with
            | none =>
              rw [hM] at h5
              dsimp only at h5 ⊢
              rw [if_pos (.inr (by rw [h5]; decide))] at hx
              rw [hx]; exact ⟨h5,by decide⟩
            | some m =>
              rw [hM] at h5
              dsimp only at h5 ⊢
              rw [h5] at hx
              dsimp only at hx
              by_cases hc:c=true
              · rw [if_pos (.inl hc)] at hx
                rw [if_pos hc]
                exact ⟨hx,h2.2.1,by have:=h2.2.2; show r1.length<_; have h9:r1.length<r.length:=this; omega⟩
              · rw [if_neg (by rintro (h | h); exact hc h; exact h rfl)] at hx
                rw [if_neg hc]
                have h6:=cont_ok (ih sp) (r1.length+1) (r1.length+1) [] r1 h2.2.1 (Nat.lt_succ_self _) (Nat.lt_succ_self _)
                cases hC:contE (elE lv sp) (r1.length+1) [] r1 with
                | error e =>
                  rw [hC] at h6
                  dsimp only at h6 ⊢
                  rw [hx,close_ne (by rw [h6.1]; exact h6.2)]
                  exact h6
                | ok k =>
                  obtain ⟨ks,r2⟩:=k
                  rw [hC] at h6
                  dsimp only at h6 ⊢
                  rw [h6.1] at hx
                  have h7:=end_ok (a:=a) (s:=s) (m:=m) (ks:=ks) h6.2.1
                  cases hE:endE a r2 with
                  | none =>
                    rw [hE] at h7
                    dsimp only at h7 ⊢
                    rw [hx]; exact ⟨h7,by decide⟩
                  | some r3 =>
                    rw [hE] at h7
                    dsimp only at h7 ⊢
                    rw [hx]
                    exact ⟨h7.1,h7.2.1,by have:=h7.2.2; have:=h6.2.2; have:=h2.2.2; omega⟩
theorem par_ok (l0:List UInt8):parX l0=parE l0:=by
  unfold parX parE
  by_cases hlen:65536<l0.length
  · rw [if_pos hlen,if_pos hlen]
  · rw [if_neg hlen,if_neg hlen]
    dsimp only
    generalize F2 l0=l
    by_cases hv:M4 l=false∨G4 l≠l
    · rw [if_pos hv,if_pos hv]
    · rw [if_neg hv,if_neg hv]
      have hp:Pl l:=pl_of (by cases h:M4 l; exact absurd (.inl h) hv; rfl) (by by_cases h:G4 l=l; exact h; exact absurd (.inr h) hv)
      have h1:=around_ok (l.length+1) (l.length+1) l hp (Nat.lt_succ_self _) (Nat.lt_succ_self _)
      have bad:∀ q:XS,q.2≠0→(let n:=if q.2=0 then elX 24 H8 q else (T9,q); let q2:=C0 (n.2.1.length+1) n.2; let q3:=if q2.1≠[] then E7 70 q2 else q2; if q3.2≠0 then (T9,q3.2) else (n.1,0))=(T9,q.2):=by
        intro q hq
        dsimp only
        rw [if_neg hq]
        dsimp only
        rw [around_ne hq,flt_ne hq]
        simp only [ite_self]
        rw [if_pos hq]
      cases hA:M6 (l.length+1) l with
      | none =>
        rw [hA] at h1
        dsimp only at h1 ⊢
        have h2:(C9 [60] (C0 (l.length+1) (l,0))).2=70:=by rw [must_ne (by rw [h1]; decide),h1]
        refine (bad _ (by rw [h2]; decide)).trans ?_
        rw [h2]
      | some r =>
        rw [hA] at h1
        dsimp only at h1 ⊢
        rw [h1.1]
        have h2:=must_ok (w:=[60]) (l:=r)
        cases hM:mustE [60] r with
        | none =>
          rw [hM] at h2
          dsimp only at h2 ⊢
          refine (bad _ (by rw [h2]; decide)).trans ?_
          rw [h2]
        | some r1 =>
          obtain ⟨p1,p2⟩:=must_pl h1.2.1 (by decide) (by decide) hM
          rw [hM] at h2
          dsimp only at h2 ⊢
          rw [h2]
          dsimp only
          rw [if_pos rfl]
          have h3:=el_ok 24 H8 r1 p1
          cases hE:elE 24 H8 r1 with
          | error e =>
            rw [hE] at h3
            dsimp only at h3 ⊢
            rw [around_ne (by rw [h3.1]; exact h3.2),flt_ne (by rw [h3.1]; exact h3.2)]
            simp only [ite_self]
            rw [if_pos (by rw [h3.1]; exact h3.2),h3.1]
          | ok k =>
            obtain ⟨k,r2⟩:=k
            rw [hE] at h3
            dsimp only at h3 ⊢
            rw [h3.1]
            dsimp only
            have h4:=around_ok (r2.length+1) (r2.length+1) r2 h3.2.1 (Nat.lt_succ_self _) (Nat.lt_succ_self _)
            cases hB:M6 (r2.length+1) r2 with
            | none =>
              rw [hB] at h4
              dsimp only at h4 ⊢
              rw [flt_ne (by rw [h4]; decide)]
              simp only [ite_self]
              rw [if_pos (by rw [h4]; decide),h4]
            | some r3 =>
              rw [hB] at h4
              dsimp only at h4 ⊢
              rw [h4.1]
              by_cases h5:r3=[]
              · subst h5; rfl
              · have e:(if (r3,(0:Int)).1≠[] then E7 70 (r3,0) else (r3,0))=(r3,70):=(if_pos h5).trans (flt_0 rfl)
                rw [e,if_neg h5]; rfl
end Go.Xml
namespace Go.Xml
open Go.Esc Go.Json
theorem pre_iff {w l:List UInt8}:l.take w.length=w ↔ w.isPrefixOf l=true:=by
  rw [List.isPrefixOf_iff_prefix,List.prefix_iff_eq_take]; exact ⟨Eq.symm,Eq.symm⟩
theorem idx_lib:∀ (l w:List UInt8),Lib.index l w=match idxL w l with | some i=>(i:Int) | none=>-1
  | [],w=>by
    unfold Lib.index idxL
    cases w with
    | nil=>rfl
    | cons b w=>rfl
  | b::l,w=>by
    rw [Lib.index,idxL,idx_lib l w]
    by_cases h:w.isPrefixOf (b::l)=true
    · rw [if_pos h,if_pos h]; rfl
    · rw [if_neg h,if_neg h]
      cases idxL w l with
      | none=>rfl
      | some i =>
        dsimp only [Option.map]
        show (if ((i:Int)==-1)=true then (-1:Int) else (i:Int)+1)=((i+1:Nat):Int)
        rw [if_neg (show ¬ ((i:Int)==-1)=true by rw [beq_iff_eq]; intro h; have:=Int.natCast_nonneg i; omega)]; rfl
theorem cut_none {l w:List UInt8} (h:idxL w l=none):Lib.cut l w=(l,[],false):=by
  unfold Lib.cut; rw [idx_lib,h]; rfl
theorem cut_some {l w:List UInt8} {i:Nat} (h:idxL w l=some i):Lib.cut l w=(l.take i,l.drop (i+w.length),true):=by
  unfold Lib.cut; rw [idx_lib,h]; dsimp only
  rw [if_pos (Int.natCast_nonneg i),Int.toNat_natCast]
theorem contains_idx (l w:List UInt8):Lib.contains l w=(idxL w l).isSome:=by
  unfold Lib.contains; rw [idx_lib]
  cases idxL w l with
  | none=>rfl
  | some i=>exact decide_eq_true (Int.natCast_nonneg i)
theorem idx_mem (c:UInt8):∀ l:List UInt8,(idxL [c] l).isSome=decide (c∈l)
  | []=>rfl
  | b::l=>by
    rw [idxL]
    by_cases h:b=c
    · subst h; rw [if_pos (by simp [List.isPrefixOf])]; simp
    · rw [if_neg (by simpa [List.isPrefixOf] using fun e=>h e.symm)]
      have ih:=idx_mem c l
      rw [Option.isSome_map,ih]
      simp [show ¬ c=b from fun e=>h e.symm]
theorem blk_trimX (l:List UInt8):Lib.trimLeftS l [32,9,13,10]=blk l:=by
  unfold Lib.trimLeftS blk
  congr 1
  funext b
  unfold wsB
  simp only [List.contains_cons,List.contains_nil,Bool.or_false]
  cases b==32 <;> cases b==9 <;> cases b==13 <;> cases b==10 <;> rfl
theorem must_yes {w:List UInt8} {q:XS} (h:w.isPrefixOf q.1=true):C9 w q=(q.1.drop w.length,q.2):=if_pos h
theorem must_no {w:List UInt8} {q:XS} (h:¬ w.isPrefixOf q.1=true):C9 w q=E7 70 q:=if_neg h
theorem P1 {w:List UInt8} {q:XS} (h:w.isPrefixOf q.1=true):F7 w q=(true,(q.1.drop w.length,q.2)):=if_pos h
theorem L8 {w:List UInt8} {q:XS} (h:¬ w.isPrefixOf q.1=true):F7 w q=(false,q):=if_neg h
theorem until_none {w:List UInt8} {q:XS} (h:idxL w q.1=none):G6 w q=([],E7 70 q):=by unfold G6; rw [h]
theorem until_some {w:List UInt8} {q:XS} {i:Nat} (h:idxL w q.1=some i):G6 w q=(q.1.take i,(q.1.drop (i+w.length),q.2)):=by unfold G6; rw [h]
theorem fst_iff (b:UInt8):fstX b=true ↔ (97≤b.toNat∧b.toNat≤122)∨(65≤b.toNat∧b.toNat≤90)∨b.toNat=95∨128≤b.toNat:=by
  unfold fstX
  have h95:(b==95)=true ↔ b.toNat=95:=by rw [beq_iff_eq]; exact ⟨fun h=>by rw [h]; rfl,fun h=>UInt8.toNat_inj.1 h⟩
  simp only [Bool.or_eq_true,Bool.and_eq_true,decide_eq_true_eq,h95,or_assoc]
theorem nxt_iff (b:UInt8):nxtX b=true ↔ fstX b=true∨(48≤b.toNat∧b.toNat≤57)∨b.toNat=45∨b.toNat=46:=by
  unfold nxtX dgB
  have h45:(b==45)=true ↔ b.toNat=45:=by rw [beq_iff_eq]; exact ⟨fun h=>by rw [h]; rfl,fun h=>UInt8.toNat_inj.1 h⟩
  have h46:(b==46)=true ↔ b.toNat=46:=by rw [beq_iff_eq]; exact ⟨fun h=>by rw [h]; rfl,fun h=>UInt8.toNat_inj.1 h⟩
  simp only [Bool.or_eq_true,Bool.and_eq_true,decide_eq_true_eq,h45,h46,or_assoc]
def NmAt (l:List UInt8) (i:Nat):Prop:=i=0∨(0<i∧nmX l=i+((l.drop i).takeWhile nxtX).length)
theorem nm_le (l:List UInt8):nmX l≤l.length:=by
  cases l with
  | nil=>exact Nat.le_refl _
  | cons b l =>
    rw [nm_cons]; split
    · have:=(List.takeWhile_prefix nxtX (l:=l)).length_le; rw [List.length_cons]; omega
    · exact Nat.zero_le _
theorem nm_stop {l:List UInt8} {i:Nat} (h:NmAt l i) (hi:i<l.length) (hf:fstX (l.getD i 0)=false) (hn:i=0∨nxtX (l.getD i 0)=false):nmX l=i:=by
  have hd:=Q7 l hi
  rcases h with rfl | ⟨h0,h⟩
  · rw [List.drop_zero] at hd
    rw [hd,nm_cons,hf]; rfl
  · have hn:=hn.resolve_left (by omega)
    rw [h,hd,List.takeWhile_cons,hn]; rfl
theorem nm_step {l:List UInt8} {i:Nat} (h:NmAt l i) (hi:i<l.length) (hf:fstX (l.getD i 0)=true∨(i≠0∧nxtX (l.getD i 0)=true)):NmAt l (i+1):=by
  have hd:=Q7 l hi
  refine .inr ⟨Nat.succ_pos _,?_⟩
  rcases h with rfl | ⟨h0,h⟩
  · have hf:=hf.resolve_right (fun h=>h.1 rfl)
    rw [List.drop_zero] at hd
    conv=>lhs; rw [hd,nm_cons,hf]
    rfl
  · have hn:nxtX (l.getD i 0)=true:=hf.elim (fun h=>(nxt_iff _).2 (.inl h)) (·.2)
    rw [h,hd,List.takeWhile_cons,hn]
    simp only [if_true,List.length_cons]; omega
theorem nm_end {l:List UInt8} {i:Nat} (h:NmAt l i) (hi:l.length≤i) (h2:i≤l.length):nmX l=l.length:=by
  rcases h with rfl | ⟨h0,h⟩
  · have:l=[]:=List.eq_nil_of_length_eq_zero (by omega)
    subst this; rfl
  · rw [h,List.drop_eq_nil_of_le hi]; show i+0=_; omega
theorem nameX_0 {q:XS} (h:nmX q.1=0):J8 q=([],E7 70 q):=by unfold J8; rw [if_pos h,h]; rfl
theorem nameX_s {q:XS} (h:nmX q.1≠0):J8 q=(q.1.take (nmX q.1),(q.1.drop (nmX q.1),q.2)):=by unfold J8; rw [if_neg h]
theorem qual_no {q:XS} (h:¬ [58].isPrefixOf (J8 q).2.1=true):A4 q=(⟨[],(J8 q).1,false⟩,(J8 q).2):=by
  unfold A4; dsimp only; rw [L8 h]; rfl
theorem qual_yes {q:XS} (h:[58].isPrefixOf (J8 q).2.1=true):A4 q=(⟨(J8 q).1,(J8 ((J8 q).2.1.drop 1,(J8 q).2.2)).1,true⟩,(J8 ((J8 q).2.1.drop 1,(J8 q).2.2)).2):=by
  unfold A4; dsimp only; rw [P1 h]; rfl
theorem aside_1 {q:XS} (h:[60,33,45,45].isPrefixOf q.1=true):G8 q=(true,C9 [62] (G6 [45,45] (q.1.drop 4,q.2)).2):=by unfold G8; rw [P1 h]; rfl
theorem aside_2 {q:XS} (h1:¬ [60,33,45,45].isPrefixOf q.1=true) (h:[60,63].isPrefixOf q.1=true):G8 q=(true,(G6 [63,62] (J8 (q.1.drop 2,q.2)).2).2):=by unfold G8; rw [L8 h1,P1 h]; rfl
theorem aside_3 {q:XS} (h1:¬ [60,33,45,45].isPrefixOf q.1=true) (h:¬ [60,63].isPrefixOf q.1=true):G8 q=(false,q):=by unfold G8; rw [L8 h1,L8 h]; rfl
theorem around_skip {m:Nat} {q:XS} (h0:q.2=0) (h:(blk q.1).length<q.1.length):C0 (m+1) q=C0 m (blk q.1,q.2):=by
  rw [C0,if_neg (fun h=>h h0)]
  rw [if_pos (show (J5 q).1=true from decide_eq_true h)]; rfl
theorem around_aside {m:Nat} {q:XS} (h0:q.2=0) (h:¬ (blk q.1).length<q.1.length) (ha:(G8 (blk q.1,q.2)).1=true):C0 (m+1) q=C0 m (G8 (blk q.1,q.2)).2:=by
  rw [C0,if_neg (fun h=>h h0)]
  rw [if_neg (show ¬ (J5 q).1=true from fun hh=>h (of_decide_eq_true hh)),if_pos (show (G8 (J5 q).2).1=true from ha)]; rfl
theorem around_end {m:Nat} {q:XS} (h0:q.2=0) (h:¬ (blk q.1).length<q.1.length) (ha:¬ (G8 (blk q.1,q.2)).1=true):C0 (m+1) q=(G8 (blk q.1,q.2)).2:=by
  rw [C0,if_neg (fun h=>h h0)]
  rw [if_neg (show ¬ (J5 q).1=true from fun hh=>h (of_decide_eq_true hh)),if_neg (show ¬ (G8 (J5 q).2).1=true from ha)]; rfl
end Go.Xml
namespace Go.Proofs
open Go.Shelf
def Tryz.lays144_ren:Go.Shelf.Ren:=⟨fun | 144=>143 | 143=>166 | 219=>184 | 217=>186 | 225=>194 | 224=>193 | 267=>202 | 266=>205 | 314=>221 | n=>n,fun | 9=>9 | 4=>4 | 3=>3 | 5=>5 | 46=>37 | 146=>230 | 51=>36 | n=>n,fun | 1=>2 | n=>n⟩
theorem Tryz.lays144:Go.Proofs.Lays.n144 Tryz.prog Tryz.lays144_ren:={
  mixed:=by kernel_rfl
  f143:=Tryz.func166.trans (congrArg some (by kernel_rfl))
  f144:=Tryz.func143.trans (congrArg some (by kernel_rfl))
  f217:=Tryz.func186.trans (congrArg some (by kernel_rfl))
  f219:=Tryz.func184.trans (congrArg some (by kernel_rfl))
  f224:=Tryz.func193.trans (congrArg some (by kernel_rfl))
  f225:=Tryz.func194.trans (congrArg some (by kernel_rfl))
  f266:=Tryz.func205.trans (congrArg some (by kernel_rfl))
  f267:=Tryz.func202.trans (congrArg some (by kernel_rfl))
  f314:=Tryz.func221.trans (congrArg some (by kernel_rfl))
  t3:=Tryz.underlying3
  a3:=Tryz.isAgg3
  z3:=Tryz.sizeOf3
  v3:=Tryz.zeroValue3
  t4:=Tryz.underlying4
  a4:=Tryz.isAgg4
  z4:=Tryz.sizeOf4
  v4:=Tryz.zeroValue4
  t5:=Tryz.underlying5
  a5:=Tryz.isAgg5
  z5:=Tryz.sizeOf5
  v5:=Tryz.zeroValue5
  t9:=Tryz.underlying9
  a9:=Tryz.isAgg9
  z9:=Tryz.sizeOf9
  v9:=Tryz.zeroValue9
  t46:=Tryz.underlying37
  a46:=Tryz.isAgg37
  z46:=Tryz.sizeOf37
  v46:=Tryz.zeroValue37
  t51:=Tryz.underlying36
  a51:=Tryz.isAgg36
  z51:=Tryz.sizeOf36
  v51:=Tryz.zeroValue36
  t146:=Tryz.underlying230
  a146:=Tryz.isAgg230
  z146:=Tryz.sizeOf230
  v146:=Tryz.zeroValue230
  g1:=by kernel_rfl }
open Go.RowKit Go.Lib in
/-- strings.Contains: "Contains reports whether substr is within s.": IT RETURNS 'Lib.contains s substr'; the world is as it was. (LAID: no walk: one application.) -/
theorem Tryz.strings_Contains (s sub:ByteArray) (m:Int) (w:World) (hs:s.size<4294967281) (hm:w.cell? ⟨2,0,none⟩=some (.int .i64 m)) :
    Calls Tryz.prog 143 #[.string s,.string sub] w fun e w'=>e=.returned (.bool (Lib.contains s.data.toList sub.data.toList))∧w'=w:=Any.strings_Contains Tryz.lays144 s sub m w hs hm
def Tryz.lays145_ren:Go.Shelf.Ren:=⟨fun | 145=>150 | 220=>173 | 219=>184 | 217=>186 | 225=>194 | 224=>193 | 267=>202 | 266=>205 | 314=>221 | n=>n,fun | 9=>9 | 4=>4 | 59=>130 | 3=>3 | 5=>5 | 46=>37 | 146=>230 | 51=>36 | n=>n,fun | 1=>2 | n=>n⟩
theorem Tryz.lays145:Go.Proofs.Lays.n145 Tryz.prog Tryz.lays145_ren:={
  mixed:=by kernel_rfl
  f145:=Tryz.func150.trans (congrArg some (by kernel_rfl))
  f217:=Tryz.func186.trans (congrArg some (by kernel_rfl))
  f219:=Tryz.func184.trans (congrArg some (by kernel_rfl))
  f220:=Tryz.func173.trans (congrArg some (by kernel_rfl))
  f224:=Tryz.func193.trans (congrArg some (by kernel_rfl))
  f225:=Tryz.func194.trans (congrArg some (by kernel_rfl))
  f266:=Tryz.func205.trans (congrArg some (by kernel_rfl))
  f267:=Tryz.func202.trans (congrArg some (by kernel_rfl))
  f314:=Tryz.func221.trans (congrArg some (by kernel_rfl))
  t3:=Tryz.underlying3
  a3:=Tryz.isAgg3
  z3:=Tryz.sizeOf3
  v3:=Tryz.zeroValue3
  t4:=Tryz.underlying4
  a4:=Tryz.isAgg4
  z4:=Tryz.sizeOf4
  v4:=Tryz.zeroValue4
  t5:=Tryz.underlying5
  a5:=Tryz.isAgg5
  z5:=Tryz.sizeOf5
  v5:=Tryz.zeroValue5
  t9:=Tryz.underlying9
  a9:=Tryz.isAgg9
  z9:=Tryz.sizeOf9
  v9:=Tryz.zeroValue9
  t46:=Tryz.underlying37
  a46:=Tryz.isAgg37
  z46:=Tryz.sizeOf37
  v46:=Tryz.zeroValue37
  t51:=Tryz.underlying36
  a51:=Tryz.isAgg36
  z51:=Tryz.sizeOf36
  v51:=Tryz.zeroValue36
  t59:=Tryz.underlying130
  a59:=Tryz.isAgg130
  z59:=Tryz.sizeOf130
  v59:=Tryz.zeroValue130
  t146:=Tryz.underlying230
  a146:=Tryz.isAgg230
  z146:=Tryz.sizeOf230
  v146:=Tryz.zeroValue230
  g1:=by kernel_rfl }
open Go.RowKit Go.Lib in
/-- strings.Cut: "Cut slices s around the first instance of sep, returning the text before and after sep. The found result reports whether sep appears in s. If sep does not appear in s, cut returns s, "", false.": IT RETURNS 'Lib.cut s sep'; the world is as it was but for the count of draws. (LAID: no walk: one application.) -/
theorem Tryz.strings_Cut (s sep:ByteArray) (m:Int) (w:World) (hs:s.size<4294967281) (hm:w.cell? ⟨2,0,none⟩=some (.int .i64 m)) :
    Calls Tryz.prog 150 #[.string s,.string sep] w fun e w'=>e=.returned (.tuple #[.string ⟨(Lib.cut s.data.toList sep.data.toList).1.toArray⟩,.string ⟨(Lib.cut s.data.toList sep.data.toList).2.1.toArray⟩,.bool (Lib.cut s.data.toList sep.data.toList).2.2])∧∃ n,w'=w.drewN n:=Any.strings_Cut Tryz.lays145 s sep m w hs hm
def Tryz.lays146_ren:Go.Shelf.Ren:=⟨fun | 146=>167 | 221=>185 | 268=>203 | 138=>204 | 143=>166 | 195=>222 | 197=>158 | 218=>223 | 219=>184 | 260=>176 | 217=>186 | 225=>194 | 224=>193 | 267=>202 | 266=>205 | 314=>221 | n=>n,fun | 9=>9 | 31=>25 | 3=>3 | 4=>4 | 0=>0 | 105=>185 | 21=>21 | 5=>5 | 46=>37 | 119=>173 | 139=>176 | 138=>175 | 146=>230 | 51=>36 | n=>n,fun | 1=>2 | 3=>0 | 4=>1 | n=>n⟩
theorem Tryz.lays146:Go.Proofs.Lays.n146 Tryz.prog Tryz.lays146_ren:={
  mixed:=by kernel_rfl
  f138:=Tryz.func204.trans (congrArg some (by kernel_rfl))
  f143:=Tryz.func166.trans (congrArg some (by kernel_rfl))
  f146:=Tryz.func167.trans (congrArg some (by kernel_rfl))
  f195:=Tryz.func222.trans (congrArg some (by kernel_rfl))
  f197:=Tryz.func158.trans (congrArg some (by kernel_rfl))
  f217:=Tryz.func186.trans (congrArg some (by kernel_rfl))
  f218:=Tryz.func223.trans (congrArg some (by kernel_rfl))
  f219:=Tryz.func184.trans (congrArg some (by kernel_rfl))
  f221:=Tryz.func185.trans (congrArg some (by kernel_rfl))
  f224:=Tryz.func193.trans (congrArg some (by kernel_rfl))
  f225:=Tryz.func194.trans (congrArg some (by kernel_rfl))
  f260:=Tryz.func176.trans (congrArg some (by kernel_rfl))
  f266:=Tryz.func205.trans (congrArg some (by kernel_rfl))
  f267:=Tryz.func202.trans (congrArg some (by kernel_rfl))
  f268:=Tryz.func203.trans (congrArg some (by kernel_rfl))
  f314:=Tryz.func221.trans (congrArg some (by kernel_rfl))
  t0:=Tryz.underlying0
  a0:=Tryz.isAgg0
  z0:=Tryz.sizeOf0
  v0:=Tryz.zeroValue0
  t3:=Tryz.underlying3
  a3:=Tryz.isAgg3
  z3:=Tryz.sizeOf3
  v3:=Tryz.zeroValue3
  t4:=Tryz.underlying4
  a4:=Tryz.isAgg4
  z4:=Tryz.sizeOf4
  v4:=Tryz.zeroValue4
  t5:=Tryz.underlying5
  a5:=Tryz.isAgg5
  z5:=Tryz.sizeOf5
  v5:=Tryz.zeroValue5
  t9:=Tryz.underlying9
  a9:=Tryz.isAgg9
  z9:=Tryz.sizeOf9
  v9:=Tryz.zeroValue9
  t21:=Tryz.underlying21
  a21:=Tryz.isAgg21
  z21:=Tryz.sizeOf21
  v21:=Tryz.zeroValue21
  t31:=Tryz.underlying25
  a31:=Tryz.isAgg25
  z31:=Tryz.sizeOf25
  v31:=Tryz.zeroValue25
  t46:=Tryz.underlying37
  a46:=Tryz.isAgg37
  z46:=Tryz.sizeOf37
  v46:=Tryz.zeroValue37
  t51:=Tryz.underlying36
  a51:=Tryz.isAgg36
  z51:=Tryz.sizeOf36
  v51:=Tryz.zeroValue36
  t105:=Tryz.underlying185
  a105:=Tryz.isAgg185
  z105:=Tryz.sizeOf185
  v105:=Tryz.zeroValue185
  t119:=Tryz.underlying173
  a119:=Tryz.isAgg173
  z119:=Tryz.sizeOf173
  t138:=Tryz.underlying175
  a138:=Tryz.isAgg175
  z138:=Tryz.sizeOf175
  v138:=Tryz.zeroValue175
  t139:=Tryz.underlying176
  a139:=Tryz.isAgg176
  z139:=Tryz.sizeOf176
  v139:=Tryz.zeroValue176
  t146:=Tryz.underlying230
  a146:=Tryz.isAgg230
  z146:=Tryz.sizeOf230
  v146:=Tryz.zeroValue230
  g1:=by kernel_rfl
  g3:=by kernel_rfl
  g4:=by kernel_rfl }
open Go.RowKit Go.Lib in
/-- strings.Split. (LAID: no walk: one application.) -/
theorem Tryz.strings_Split (s sep:ByteArray) (m:Int) (w:World) (hs:s.size<4294967281) (hm:w.cell? ⟨2,0,none⟩=some (.int .i64 m)) (h1:1≤sep.size) :
    Calls Tryz.prog 167 #[.string s,.string sep] w fun e w' =>
      e=.returned (.slice (some ⟨w.heap.size,0,none⟩) (Lib.countB s sep+1) (Lib.countB s sep+1))∧w'=w.alloc (.cells ((Lib.splitB sep 0 (Lib.countB s sep) s).map Value.string).toArray 9):=Any.strings_Split Tryz.lays146 (by kernel_rfl) s sep m w hs hm h1
end Go.Proofs
namespace Go.Proofs.YtppgfiklmfoaeaaGreatDoor
open Go.Sw Go.Sha Go.Esc Go.RowKit Go.Json Go.Xml
structure R6 (W0:World):Prop where
  base:S0 W0
  max:∃ m,2<W0.heap.size∧W0.cell? ⟨2,0,none⟩=some (.int .i64 m)
def rdX (r:Nat) (q:XS):Grp:=[(r,.cells #[.string (bk q.1),.int .i64 q.2] 97 (0,0))]
theorem trimX (l:List UInt8) (W0:World) (H:List Grp):Tri Tryz.prog 82 #[.string (bk l),.string (mB #[32,9,13,10])] W0 H (fun v H'=>v=.string (bk (blk l))∧H'=H) :=
  Tri_below (fun w _=>(Any.strings_TrimLeft_laid Tryz.lays161 (by kernel_rfl) (bk l) _ w (by decide) (ascii_of_all (by decide))).mono fun _ _ ⟨h1,h2⟩=>⟨by rw [h1,show Lib.trimLeftS (bk l).data.toList (mB #[32,9,13,10]).data.toList=blk l from blk_trimX _],h2⟩)
theorem cutW (w l:List UInt8) (hl:l.length≤1000000000) (W0:World) (H:List Grp) (hX:R6 W0):Tri Tryz.prog 150 #[.string (bk l),.string (bk w)] W0 H (fun v H'=>((idxL w l=none∧v=.tuple #[.string (bk l),.string eB,.bool false])∨∃ i,idxL w l=some i∧v=.tuple #[.string (bk (l.take i)),.string (bk (l.drop (i+w.length))),.bool true])∧H'=H):=by
  obtain ⟨m,h1,h2⟩:=hX.max
  have key:∀ v0,v0=Value.tuple #[.string ⟨(Lib.cut l w).1.toArray⟩,.string ⟨(Lib.cut l w).2.1.toArray⟩,.bool (Lib.cut l w).2.2]→Tri Tryz.prog 150 #[.string (bk l),.string (bk w)] W0 H (fun v H'=>v=v0∧H'=H):=fun v0 h0 =>
    Tri_below (fun w' hs=>(Tryz.strings_Cut (bk l) (bk w) m w' (by rw [D5]; omega) (cell_base hs h1 h2)).mono fun _ w2 ⟨h3,n,h4⟩=>⟨by rw [h3,h0],by rw [h4]; exact ⟨rfl,rfl,rfl,Nat.le_refl _,fun _ _=>rfl⟩⟩)
  refine (key _ rfl).post fun v H' ⟨hv,hH⟩=>⟨H',⟨?_,hH⟩,fun _ h=>h⟩
  cases hI:idxL w l with
  | none=>exact .inl ⟨rfl,by rw [hv,Go.Xml.cut_none hI]⟩
  | some i=>exact .inr ⟨i,rfl,by rw [hv,Go.Xml.cut_some hI]⟩
theorem hasW (w l:List UInt8) (hl:l.length≤1000000000) (W0:World) (H:List Grp) (hX:R6 W0):Tri Tryz.prog 143 #[.string (bk l),.string (bk w)] W0 H (fun v H'=>v=.bool (idxL w l).isSome∧H'=H):=by
  obtain ⟨m,h1,h2⟩:=hX.max
  exact Tri_below (fun w' hs=>(Tryz.strings_Contains (bk l) (bk w) m w' (by rw [D5]; omega) (cell_base hs h1 h2)).mono fun _ w2 ⟨h3,h4⟩=>⟨by rw [h3,← contains_idx],by rw [h4]; exact ⟨rfl,rfl,rfl,Nat.le_refl _,fun _ _=>rfl⟩⟩)
theorem toNat_ext (l:List UInt8) (n:Nat):(bk l).extract 0 (Int.toNat (n:Int))=bk (l.take n):=by rw [Int.toNat_natCast,ext_bkT]
theorem toNat_extD (l:List UInt8) (n:Nat):(bk l).extract (Int.toNat (n:Int)) (bk l).size=bk (l.drop n):=by rw [Int.toNat_natCast,ext_bk]
theorem L9 (r:Nat) (q:XS) (n:Int) (W0:World) (H:List Grp):Tri Tryz.prog 64 #[pt r,.int .i64 n] W0 ([(r,.cells #[.string (bk q.1),.int .i64 q.2] 97 (0,0))]::H) (fun _ H'=>H'=rdX r (E7 n q)::H):=by
 refine D3 13 Tryz.func64 ?_
 refine A1 (A2 (A3 (j:=3) [0,0,0] (k:=C6 0 1 rfl rfl (A7 [0] [0,1,8] (k:=A0 (B2 (b:=q.2==0) kr (fun hc1=>?_) (fun hc1=>?_)))))))
 ·
  have hc:q.2=0:=by simpa using hc1
  refine A2 (A3 (j:=4) [0,0,0,0] (k:=E3 0 1 (.int .i64 n) rfl (B1 (E':=[]) [] [] (k:=B6 [] [] (k:=?_)))))
  exact (by rw [Go.Xml.flt_0 hc]; try rfl)
 ·
  have hc:¬ q.2=0:=by simpa using hc1
  refine A8 (B6 [] [] (k:=?_))
  exact (by rw [Go.Xml.flt_ne hc]; try rfl)
theorem xtake_ (r:Nat) (q:XS) (w:List UInt8) (W0:World) (H:List Grp):Tri Tryz.prog 102 #[pt r,.string (bk w)] W0 ([(r,.cells #[.string (bk q.1),.int .i64 q.2] 97 (0,0))]::H) (fun v H'=>(w.isPrefixOf q.1=true∧v=.bool true∧H'=rdX r (q.1.drop w.length,q.2)::H)∨(¬ w.isPrefixOf q.1=true∧v=.bool false∧H'=rdX r q::H)):=by
 refine D3 22 Tryz.func102 ?_
 refine A1 (C1 (E':=[⟨0,[],pt r⟩,⟨1,[],.string (bk w)⟩]) [0] [0,1] (k:=A0 (A1 (A2 (A3 (j:=3) [0,0,0] (k:=C6 0 0 rfl rfl (A3 (j:=5) [0] (k:=D9 Tryz.func124 (jcut_ (bk q.1) (bk w) _ _) ?_))))))))
 rintro _ _ ⟨rfl,rfl⟩
 cases hsp:I3 (bk q.1) (bk w)
 all_goals simp only [Bool.false_eq_true,if_false,if_true]
 ·
  refine A7 [0,0,0,0,0] [0,5,6] (k:=A0 (A1 (A1 (G_p [0] [0,5,6,16] (k:=A0 (C8 kr (A8 (A0 ?_))))))))
  refine A1 (C1 (E':=[⟨4,[],.bool false⟩]) [0,0] [4] (k:=A0 (B9 (B6 [.tmp 4] [.bool false] (k:=?_)))))
  exact .inr ⟨fun hn=>(N6 _ _).1 hsp (by rw [D5]; exact pre_iff.2 hn),rfl,rfl⟩
 ·
  refine A7 [0,0,0,0,0] [0,5,6] (k:=A0 (A1 (A1 (G_p [0] [0,5,6,16] (k:=A0 (C4 kr (A2 (A3 (j:=4) [0,0,0,0] (k:=?_)))))))))
  refine E3 0 0 (.string ((bk q.1).extract (bk w).size (bk q.1).size)) rfl (B1 (E':=[⟨6,[],.bool true⟩]) [] [6] (k:=A0 (A1 (C1 (E':=[⟨4,[],.bool true⟩]) [0,0] [4] (k:=A0 (B9 (B6 [.tmp 4] [.bool true] (k:=?_))))))))
  exact .inl ⟨pre_iff.1 (by have h:=(N8 _ _).1 hsp; rw [D5] at h; exact h),rfl,by rw [ext_bk,D5]; rfl⟩
theorem xmust_ (r:Nat) (q:XS) (w:List UInt8) (W0:World) (H:List Grp):Tri Tryz.prog 62 #[pt r,.string (bk w)] W0 ([(r,.cells #[.string (bk q.1),.int .i64 q.2] 97 (0,0))]::H) (fun _ H'=>H'=rdX r (C9 w q)::H):=by
 refine D3 10 Tryz.func62 ?_
 refine A1 (A2 (A3 (j:=2) [0,0] (k:=D9 Tryz.func102 (xtake_ r q w _ _) ?_)))
 rintro _ _ (⟨hk1,rfl,rfl⟩ | ⟨hk1,rfl,rfl⟩)
 ·
  have hk1:w.isPrefixOf q.1=true:=hk1
  refine B1 (E':=[⟨0,[],pt r⟩,⟨7,[],.bool false⟩]) [0] [0,7] (k:=A0 (C8 kr (A8 (B6 [] [] (k:=?_)))))
  exact (by rw [must_yes hk1]; try rfl)
 ·
  have hk1:¬ w.isPrefixOf q.1=true:=hk1
  refine B1 (E':=[⟨0,[],pt r⟩,⟨7,[],.bool true⟩]) [0] [0,7] (k:=A0 (C4 kr (A2 (A3 (j:=1) [0] (k:=D9 Tryz.func64 (L9 r q 70 _ _) ?_)))))
  rintro _ _ rfl
  refine B1 (E':=[]) [] [] (k:=B6 [] [] (k:=?_))
  exact (by rw [must_no hk1]; try rfl)
theorem xskip_ (r:Nat) (q:XS) (W0:World) (H:List Grp):Tri Tryz.prog 100 #[pt r] W0 ([(r,.cells #[.string (bk q.1),.int .i64 q.2] 97 (0,0))]::H) (fun v H'=>v=.bool (decide ((blk q.1).length<q.1.length))∧H'=rdX r (blk q.1,q.2)::H):=by
 refine D3 24 Tryz.func100 ?_
 refine A1 (C1 (E':=[⟨0,[],pt r⟩]) [0] [0] (k:=A0 (A1 (A2 (A3 (j:=3) [0,0,0] (k:=C6 0 0 rfl rfl (A7 [0,0] [0,3] (k:=A0 ?_))))))))
 refine A1 (A2 (A3 (j:=4) [0,0,0,0] (k:=C6 0 0 rfl rfl (K9 Tryz.func82 (trimX q.1 _ _) (A3 (j:=8) [0,0] (k:=E3 0 0 (.string (bk (blk q.1))) rfl (A7 [] [0,3] (k:=A0 ?_))))))))
 refine A1 (A2 (A3 (j:=3) [0,0,0] (k:=C6 0 0 rfl rfl (A7 [0,0,0,0] [2] (k:=A0 (B9 (B6 [.tmp 2] [.bool (decide (((bk (blk q.1)).size:Int)<((bk q.1).size:Int)))] (k:=?_))))))))
 exact ⟨congrArg Value.bool (by rw [D5,D5]; exact decide_eq_decide.2 (by omega)),rfl⟩
theorem xskip2_ (r:Nat) (q:XS) (W0:World) (H:List Grp):Tri Tryz.prog 100 #[pt r] W0 (rdX r q::H) (fun v H'=>((blk q.1).length<q.1.length∧v=.bool true∧H'=rdX r (blk q.1,q.2)::H)∨(¬ (blk q.1).length<q.1.length∧v=.bool false∧H'=rdX r (blk q.1,q.2)::H)):=by
  refine (xskip_ r q W0 H).post fun v H' ⟨h1,h2⟩=>⟨H',?_,fun _ h=>h⟩
  by_cases h:(blk q.1).length<q.1.length
  · exact .inl ⟨h,by rw [h1,decide_eq_true h],h2⟩
  · exact .inr ⟨h,by rw [h1,decide_eq_false h],h2⟩
theorem xuntil_ (r:Nat) (q:XS) (w:List UInt8) (hl:q.1.length≤1000000) (W0:World) (H:List Grp) (hX:R6 W0):Tri Tryz.prog 141 #[pt r,.string (bk w)] W0 ([(r,.cells #[.string (bk q.1),.int .i64 q.2] 97 (0,0))]::H) (fun v H'=>v=.string (bk (G6 w q).1)∧H'=rdX r (G6 w q).2::H):=by
 refine D3 27 Tryz.func141 ?_
 refine A1 (C1 (E':=[⟨0,[],pt r⟩,⟨1,[],.string (bk w)⟩]) [0] [0,1] (k:=A0 (A1 (A2 (A3 (j:=3) [0,0,0] (k:=C6 0 0 rfl rfl (A3 (j:=5) [0] (k:=D9 Tryz.func150 (cutW w q.1 (by omega) _ _ hX) ?_))))))))
 rintro _ _ ⟨⟨hI,rfl⟩ | ⟨i,hI,rfl⟩,rfl⟩
 ·
  refine A7 [0,0,0,0,0,0,0] [0,5,6,7] (k:=A0 (A1 (A1 (G_p [0,0] [0,5,6,19] (k:=A0 (C4 kr (A1 (A2 ?_))))))))
  refine A3 (j:=1) [0] (k:=D9 Tryz.func64 (L9 r q 70 _ _) ?_)
  rintro _ _ rfl
  refine B1 (E':=[]) [] [] (k:=A0 (A1 (C1 (E':=[⟨4,[],.string eB⟩]) [0] [4] (k:=A0 (B9 (A5 (B6 [.tmp 4] [.string eB] (k:=?_))))))))
  exact ⟨by rw [until_none hI]; try rfl,by rw [until_none hI]; try rfl⟩
 ·
  refine A7 [0,0,0,0,0,0,0] [0,5,6,7] (k:=A0 (A1 (A1 (G_p [0,0] [0,5,6,19] (k:=A0 (C8 kr (A8 (A0 ?_))))))))
  refine A1 (A2 (A3 (j:=4) [0,0,0,0] (k:=E3 0 0 (.string (bk (q.1.drop (i+w.length)))) rfl (B1 (E':=[⟨5,[],.string (bk (q.1.take i))⟩]) [] [5] (k:=A0 (A1 (C1 (E':=[⟨4,[],.string (bk (q.1.take i))⟩]) [0,0] [4] (k:=A0 ?_))))))))
  refine B9 (B6 [.tmp 4] [.string (bk (q.1.take i))] (k:=?_))
  exact ⟨by rw [until_some hI]; try rfl,by rw [until_some hI]; try rfl⟩
theorem xlen_ (l:List UInt8) (hl:l.length≤1000000000000) (W0:World) (H:List Grp):Tri Tryz.prog 116 #[.string (bk l)] W0 H (fun v H'=>v=.int .i64 (nmX l:Int)∧H'=H):=by
 have hbz:=D5 l
 refine D3 63 Tryz.func116 ?_
 refine A1 (C1 (E':=[⟨0,[],.string (bk l)⟩]) [0] [0] (k:=A0 (A1 (A1 (G_p [0,0,0] [0,7,8] (k:=A0 (B4 (J7 (EI:=(fun ξ:Nat=>[⟨0,[],.string (bk l)⟩,⟨7,[],.int .i64 ((bk l).size:Int)⟩,⟨8,[],.int .i64 ((ξ:Nat):Int)⟩])) (HI:=(fun ξ:Nat=>H)) (Φ:=(fun ξ:Nat=>(ξ≤l.length)∧(NmAt l ξ))) (μ:=(fun ξ:Nat=>l.length - ξ)) (s0:=(0)) [0,7,8] kr rfl ⟨(Nat.zero_le _),(.inl rfl)⟩ ?_))))))))
 rintro i ⟨hi,hN⟩
 try dsimp only at hi hN
 refine A1 (G_p [0] [0,7,8,9] (k:=A0 (A1 (B2 (b:=decide (((i:Nat):Int)<((bk l).size:Int))) kr (fun hc1=>?_) (fun hc1=>?_)))))
 ·
  have h0:=hc1; simp only [decide_eq_true_eq] at h0
  refine A8 (A0 (A1 (B4 (A1 (G_p [0,0] [0,3,7,8] (k:=A0 (A1 (A2 ?_))))))))
  refine A3 (j:=2) [0,0] (k:=H0 (bk l) ((i:Nat):Int) (fun _=>by omega) ?_)
  have hb2:=F3 (bk l) ((i:Nat):Int)
  refine A7 [0] [0,3,4,7,8] (k:=A0 (A1 (G_p [0,0,0,0,0,6,0,0,0,0,0,0,6,5,0,0,0,5,0,0,0,5,0] [0,3,4,5,7,8] (k:=A0 (A1 (G_p [0,0,0,0,0,0,0,0,0,0,0,6,0,0,0,5,0,0,0,5,0,5,6] [0,3,7,8,58] (k:=A0 (B2 (b:=(!(((((decide ((A9 (bk l) ((i:Nat):Int)) ≥ 97))&&(decide ((A9 (bk l) ((i:Nat):Int))≤122)))||((decide ((A9 (bk l) ((i:Nat):Int)) ≥ 65))&&(decide ((A9 (bk l) ((i:Nat):Int))≤90))))||((A9 (bk l) ((i:Nat):Int))==95))||(decide ((A9 (bk l) ((i:Nat):Int)) ≥ 128))))&&((((i:Nat):Int)==0)||(!((((decide ((A9 (bk l) ((i:Nat):Int)) ≥ 48))&&(decide ((A9 (bk l) ((i:Nat):Int))≤57)))||((A9 (bk l) ((i:Nat):Int))==45))||((A9 (bk l) ((i:Nat):Int))==46))))) kr (fun hc3=>?_) (fun hc3=>?_)))))))))
  ·
   simp only [Bool.and_eq_true,Bool.and_eq_false_iff,Bool.or_eq_true,Bool.or_eq_false_iff,Bool.not_eq_true',decide_eq_false_iff_not,beq_iff_eq,beq_eq_false_iff_ne,ne_eq,ge_iff_le,byteJ] at hc3
   have h1:=hc3
   refine A1 (C1 (E':=[⟨2,[],.int .i64 ((i:Nat):Int)⟩]) [0,0] [2] (k:=A0 (B9 (B8 (A5 (A5 (B8 (A5 ?_))))))))
   refine B6 [.tmp 2] [.int .i64 ((i:Nat):Int)] (k:=?_)
   exact ⟨congrArg (fun n:Nat=>Value.int .i64 (n:Int)) (nm_stop hN (by omega) (by rw [← Bool.not_eq_true,fst_iff]; omega) (by rcases h1.2 with h | h; exact .inl (by omega); exact .inr (by rw [← Bool.not_eq_true,nxt_iff,fst_iff]; omega))).symm,rfl⟩
  ·
   simp only [Bool.and_eq_true,Bool.and_eq_false_iff,Bool.or_eq_true,Bool.or_eq_false_iff,Bool.not_eq_false',decide_eq_true_eq,beq_iff_eq,beq_eq_false_iff_ne,ne_eq,ge_iff_le,byteJ] at hc3
   have h1:=hc3
   refine A8 (B7 (A0 (A2 (A3 (j:=1) [0] (k:=D1 60 (((i:Nat):Int)+1) (by omega) (by omega) kr (B1 (E':=[⟨0,[],.string (bk l)⟩,⟨7,[],.int .i64 ((bk l).size:Int)⟩,⟨8,[],.int .i64 (((i:Nat):Int)+1)⟩]) [0] [0,7,8] (k:=D2 (s':=(i+1)) [0,7,8] kr rfl ⟨(by omega),(nm_step hN (by omega) (by rcases h1 with h1 | h1; exact .inl ((fst_iff _).2 (by omega)); exact .inr ⟨by omega,(nxt_iff _).2 (.inr (by omega))⟩))⟩ (by omega))))))))
 ·
  have h0:=hc1; simp only [decide_eq_false_iff_not] at h0
  refine E8 (A6 (A6 (B5 (A0 (A1 (C1 (E':=[⟨2,[],.int .i64 ((bk l).size:Int)⟩]) [0,0,0] [2] (k:=A0 (B9 ?_))))))))
  refine B6 [.tmp 2] [.int .i64 ((bk l).size:Int)] (k:=?_)
  exact ⟨congrArg (Value.int .i64) (by rw [nm_end hN (by omega) hi,D5]),rfl⟩
theorem xname_ (r:Nat) (q:XS) (hl:q.1.length≤1000000) (W0:World) (H:List Grp):Tri Tryz.prog 142 #[pt r] W0 ([(r,.cells #[.string (bk q.1),.int .i64 q.2] 97 (0,0))]::H) (fun v H'=>v=.string (bk (J8 q).1)∧H'=rdX r (J8 q).2::H):=by
 have hbz:=D5 q.1
 have hnl:=nm_le q.1
 refine D3 30 Tryz.func142 ?_
 refine A1 (C1 (E':=[⟨0,[],pt r⟩]) [0] [0] (k:=A0 (A1 (A2 (A3 (j:=3) [0,0,0] (k:=C6 0 0 rfl rfl (K9 Tryz.func116 (xlen_ q.1 (by omega) _ _) (A7 [0] [0,3] (k:=?_)))))))))
 refine A0 (A1 (A1 (G_p [0,0] [0,3,11] (k:=A0 (B2 (b:=(nmX q.1:Int)==0) kr (fun hc1=>?_) (fun hc1=>?_))))))
 ·
  have hn:nmX q.1=0:=by have:=hc1; simp only [beq_iff_eq] at this; omega
  refine A2 (A3 (j:=1) [0] (k:=D9 Tryz.func64 (L9 r q 70 _ _) ?_))
  rintro _ _ rfl
  refine A7 [] [0,3] (k:=A0 (A1 (A2 (A3 (j:=3) [0,0,0] (k:=C6 0 0 rfl rfl (A3 (j:=5) [0] (k:=N4 (bk (E7 70 q).1) 0 (nmX q.1:Int) (fun _=>by omega) (E5 19 (x:=.string ((bk (E7 70 q).1).extract 0 (Int.toNat (nmX q.1:Int)))) (y:=.string (bk (q.1.take (nmX q.1)))) (by rw [toNat_ext]; try rfl) ?_))))))))
  refine A7 [0] [0,3,4] (k:=A0 (A1 (A2 (A3 (j:=4) [0,0,0,0] (k:=C6 0 0 rfl rfl (A3 (j:=6) [0] (k:=N4 (bk (E7 70 q).1) (nmX q.1:Int) ((bk (E7 70 q).1).size:Int) (fun _=>by omega) (E5 26 (x:=.string ((bk (E7 70 q).1).extract (Int.toNat (nmX q.1:Int)) (bk (E7 70 q).1).size)) (y:=.string (bk (q.1.drop (nmX q.1)))) (by rw [toNat_extD]; try rfl) ?_))))))))
  refine A3 (j:=9) [0,0] (k:=E3 0 0 (.string (bk (q.1.drop (nmX q.1)))) rfl (A7 [] [4] (k:=A0 (A1 (C1 (E':=[⟨2,[],.string (bk (q.1.take (nmX q.1)))⟩]) [0,0] [2] (k:=A0 (B9 (B6 [.tmp 2] [.string (bk (q.1.take (nmX q.1)))] (k:=?_)))))))))
  exact ⟨by rw [nameX_0 hn,hn]; try rfl,by rw [nameX_0 hn,hn]; try rfl⟩
 ·
  have hn:¬ nmX q.1=0:=by have:=hc1; simp only [beq_eq_false_iff_ne,ne_eq] at this; omega
  refine A8 (A0 (A1 (A2 (A3 (j:=3) [0,0,0] (k:=C6 0 0 rfl rfl (A3 (j:=5) [0] (k:=N4 (bk q.1) 0 (nmX q.1:Int) (fun _=>by omega) (E5 19 (x:=.string ((bk q.1).extract 0 (Int.toNat (nmX q.1:Int)))) (y:=.string (bk (q.1.take (nmX q.1)))) (by rw [toNat_ext]; try rfl) ?_))))))))
  refine A7 [0] [0,3,4] (k:=A0 (A1 (A2 (A3 (j:=4) [0,0,0,0] (k:=C6 0 0 rfl rfl (A3 (j:=6) [0] (k:=N4 (bk q.1) (nmX q.1:Int) ((bk q.1).size:Int) (fun _=>by omega) (E5 26 (x:=.string ((bk q.1).extract (Int.toNat (nmX q.1:Int)) (bk q.1).size)) (y:=.string (bk (q.1.drop (nmX q.1)))) (by rw [toNat_extD]; try rfl) ?_))))))))
  refine A3 (j:=9) [0,0] (k:=E3 0 0 (.string (bk (q.1.drop (nmX q.1)))) rfl (A7 [] [4] (k:=A0 (A1 (G_p [0,0] [2] (k:=A0 (B9 (B6 [.tmp 2] [.string (bk (q.1.take (nmX q.1)))] (k:=?_)))))))))
  exact ⟨by rw [nameX_s hn]; try rfl,by rw [nameX_s hn]; try rfl⟩
theorem xqual_ (r:Nat) (q:XS) (hl:q.1.length≤1000000) (W0:World) (H:List Grp):Tri Tryz.prog 103 #[pt r] W0 ([(r,.cells #[.string (bk q.1),.int .i64 q.2] 97 (0,0))]::H) (fun v H'=>v=.tuple #[.string (bk (A4 q).1.pre),.string (bk (A4 q).1.name),.bool (A4 q).1.has]∧H'=rdX r (A4 q).2::H):=by
 have hn1:=name_le q
 refine D3 15 Tryz.func103 ?_
 refine A1 (C1 (E':=[⟨0,[],pt r⟩]) [0,0,0] [0] (k:=A0 (A1 (A2 (A3 (j:=1) [0] (k:=D9 (vs:=[pt r]) Tryz.func142 (xname_ r q (by first | omega | (show (List.drop 1 _).length≤_; rw [List.length_drop]; omega)) _ _) ?_))))))
 rintro _ _ ⟨rfl,rfl⟩
 refine A7 [0] [0,5] (k:=A0 (A1 (A1 (A2 (A3 (j:=1) [0] (k:=D9 Tryz.func102 (xtake_ r ((J8 q).2) [58] _ _) ?_))))))
 rintro _ _ (⟨hk1,rfl,rfl⟩ | ⟨hk1,rfl,rfl⟩)
 ·
  have hk1:[58].isPrefixOf ((J8 q).2).1=true:=hk1
  refine A7 [0] [0,5,10] (k:=A0 (C8 kr (A8 (A0 (A1 (A2 (A3 (j:=2) [0,0] (k:=D9 (vs:=[pt r]) Tryz.func142 (xname_ r (((J8 q).2).1.drop 1,((J8 q).2).2) (by first | omega | (show (List.drop 1 _).length≤_; rw [List.length_drop]; omega)) _ _) ?_))))))))
  rintro _ _ ⟨rfl,rfl⟩
  refine A7 [0,0,0] [2,3,4] (k:=A0 (B9 (B6 [.tmp 2,.tmp 3,.tmp 4] [.string (bk (J8 q).1),.string (bk (J8 (((J8 q).2).1.drop 1,((J8 q).2).2)).1),.bool true] (k:=?_))))
  exact ⟨by rw [qual_yes hk1]; try rfl,by rw [qual_yes hk1]; try rfl⟩
 ·
  have hk1:¬ [58].isPrefixOf ((J8 q).2).1=true:=hk1
  refine A7 [0] [0,5,10] (k:=A0 (C4 kr (A1 (G_p [0,0,0,0] [2,3,4] (k:=A0 (B9 (A5 (B6 [.tmp 2,.tmp 3,.tmp 4] [.string eB,.string (bk (J8 q).1),.bool false] (k:=?_)))))))))
  exact ⟨by rw [qual_no hk1]; try rfl,by rw [qual_no hk1]; try rfl⟩
theorem xaside_ (r:Nat) (q:XS) (hl:q.1.length≤1000000) (W0:World) (H:List Grp) (hX:R6 W0):Tri Tryz.prog 101 #[pt r] W0 ([(r,.cells #[.string (bk q.1),.int .i64 q.2] 97 (0,0))]::H) (fun v H'=>v=.bool (G8 q).1∧H'=rdX r (G8 q).2::H):=by
 refine D3 17 Tryz.func101 ?_
 refine A1 (C1 (E':=[⟨0,[],pt r⟩]) [0] [0] (k:=A0 (A1 (B4 (A1 (A2 (A3 (j:=1) [0] (k:=D9 Tryz.func102 (xtake_ r q [60,33,45,45] _ _) ?_))))))))
 rintro _ _ (⟨hk1,rfl,rfl⟩ | ⟨hk1,rfl,rfl⟩)
 ·
  have hk1:[60,33,45,45].isPrefixOf q.1=true:=hk1
  refine B1 (E':=[⟨0,[],pt r⟩,⟨3,[],.bool true⟩]) [0] [0,3] (k:=A0 (C4 kr (A1 (A2 (A3 (j:=1) [0] (k:=D9 (vs:=[pt r,.string (mB #[45,45])]) Tryz.func141 (xuntil_ r (q.1.drop 4,q.2) [45,45] (by first | (show (List.drop _ _).length≤_; rw [List.length_drop]; omega) | (have:=name_le (q.1.drop 2,q.2); dsimp only at this; rw [List.length_drop] at this; omega)) _ _ hX) ?_))))))
  rintro _ _ ⟨rfl,rfl⟩
  refine B1 (E':=[⟨0,[],pt r⟩]) [] [0] (k:=A0 (A2 (A3 (j:=1) [0] (k:=D9 Tryz.func62 (xmust_ r ((G6 [45,45] (q.1.drop 4,q.2)).2) [62] _ _) ?_))))
  rintro _ _ rfl
  refine B1 (E':=[]) [] [] (k:=B7 (A0 (A1 (C1 (E':=[⟨2,[],.bool true⟩]) [0] [2] (k:=A0 (B9 (B6 [.tmp 2] [.bool true] (k:=?_))))))))
  exact ⟨by rw [aside_1 hk1]; try rfl,by rw [aside_1 hk1]; try rfl⟩
 ·
  have hk1:¬ [60,33,45,45].isPrefixOf q.1=true:=hk1
  refine B1 (E':=[⟨0,[],pt r⟩,⟨3,[],.bool false⟩]) [0] [0,3] (k:=A0 (C8 kr (A1 (A2 (A3 (j:=1) [0] (k:=D9 Tryz.func102 (xtake_ r q [60,63] _ _) ?_))))))
  rintro _ _ (⟨hk2,rfl,rfl⟩ | ⟨hk2,rfl,rfl⟩)
  ·
   have hk2:[60,63].isPrefixOf q.1=true:=hk2
   refine B1 (E':=[⟨0,[],pt r⟩,⟨10,[],.bool true⟩]) [0] [0,10] (k:=A0 (C4 kr (A1 (A2 (A3 (j:=1) [0] (k:=D9 (vs:=[pt r]) Tryz.func142 (xname_ r (q.1.drop 2,q.2) (by first | (show (List.drop _ _).length≤_; rw [List.length_drop]; omega) | (have:=name_le (q.1.drop 2,q.2); dsimp only at this; rw [List.length_drop] at this; omega)) _ _) ?_))))))
   rintro _ _ ⟨rfl,rfl⟩
   refine B1 (E':=[⟨0,[],pt r⟩]) [] [0] (k:=A0 (A2 (A3 (j:=1) [0] (k:=D9 (vs:=[pt r,.string (mB #[63,62])]) Tryz.func141 (xuntil_ r ((J8 (q.1.drop 2,q.2)).2) [63,62] (by first | (show (List.drop _ _).length≤_; rw [List.length_drop]; omega) | (have:=name_le (q.1.drop 2,q.2); dsimp only at this; rw [List.length_drop] at this; omega)) _ _ hX) ?_))))
   rintro _ _ ⟨rfl,rfl⟩
   refine B1 (E':=[]) [] [] (k:=B7 (A0 (A1 (C1 (E':=[⟨2,[],.bool true⟩]) [0] [2] (k:=A0 (B9 (B6 [.tmp 2] [.bool true] (k:=?_))))))))
   exact ⟨by rw [aside_2 hk1 hk2]; try rfl,by rw [aside_2 hk1 hk2]; try rfl⟩
  ·
   have hk2:¬ [60,63].isPrefixOf q.1=true:=hk2
   refine B1 (E':=[⟨0,[],pt r⟩,⟨10,[],.bool false⟩]) [0] [0,10] (k:=A0 (C8 kr (A1 (C1 (E':=[⟨2,[],.bool false⟩]) [0] [2] (k:=A0 (B9 (B8 (A5 ?_))))))))
   refine B6 [.tmp 2] [.bool false] (k:=?_)
   exact ⟨by rw [aside_3 hk1 hk2]; try rfl,by rw [aside_3 hk1 hk2]; try rfl⟩
theorem xaround_ (r:Nat) (q:XS) (hl:q.1.length≤1000000) (W0:World) (H:List Grp) (hX:R6 W0):Tri Tryz.prog 61 #[pt r] W0 ([(r,.cells #[.string (bk q.1),.int .i64 q.2] 97 (0,0))]::H) (fun _ H'=>H'=rdX r (C0 (q.1.length+1) q)::H):=by
 refine D3 15 Tryz.func61 ?_
 refine B4 (J7 (EI:=(fun ξ:Nat × XS=>[⟨0,[],pt r⟩])) (HI:=(fun ξ:Nat × XS=>([(r,.cells #[.string (bk ξ.2.1),.int .i64 ξ.2.2] 97 (0,0))]::H))) (Φ:=(fun ξ:Nat × XS=>(C0 (q.1.length+1) q=C0 ξ.1 ξ.2)∧(ξ.2.2=0→ξ.2.1.length<ξ.1)∧(ξ.2.1.length≤1000000))) (μ:=(fun ξ:Nat × XS=>ξ.1)) (s0:=((q.1.length+1),q)) [0] kr rfl ⟨rfl,(fun _=>Nat.lt_succ_self _),hl⟩ ?_)
 rintro ⟨n,q2⟩ ⟨hT,hn,hl2⟩
 dsimp only at hT hn hl2
 refine A1 (A1 ?_)
 by_cases hq0:q2.2=0
 ·
  have hnq:=hn hq0
  obtain ⟨m,rfl⟩:∃ m,n=m+1:=⟨n - 1,by omega⟩
  have hbl:=W8 q2.1
  refine A2 (A3 (j:=3) [0,0,0] (k:=C6 0 1 rfl rfl (A3 (j:=5) [0] (k:=E5 6 (x:=.bool (q2.2==0)) (y:=.bool true) (by rw [show (q2.2==0)=true by simpa using hq0]) (A3 (j:=7) [0,0] (k:=Y4 (ch:=[(7,true)]) (f:=100) (fst:=#[]) (caps:=#[]) (vs:=[pt r]) (hf:=Tryz.func100) (hsure:=P3 kr) (hc:=xskip2_ r q2 _ _) (k:=?_)))))))
  rintro _ _ (⟨hs1,rfl,rfl⟩ | ⟨hs1,rfl,rfl⟩)
  ·
   have hsk:(blk q2.1).length<q2.1.length:=hs1
   refine B1 (E':=[⟨0,[],pt r⟩,⟨14,[],.bool true⟩]) [0,1,1,2,2] [0,14] (k:=A0 (C4 kr (A8 (A0 (B4 (A8 (B7 (D2 (s':=(m,(blk q2.1,q2.2))) [0] kr rfl ⟨(by dsimp only; exact hT.trans (by first | exact around_skip hq0 hsk | exact around_aside hq0 hsk has)),(by dsimp only; intro _; have:=hn hq0; first | omega | (have:=aside_lt has; dsimp only at this; omega)),(by dsimp only; first | omega | (have:=Y2 (blk q2.1,q2.2); dsimp only at this; omega))⟩ (by dsimp only; omega)))))))))
  ·
   have hsk:¬ (blk q2.1).length<q2.1.length:=hs1
   refine A3 (j:=10) [0,0] (k:=Y4 (ch:=[(10,false),(7,true)]) (f:=101) (fst:=#[]) (caps:=#[]) (vs:=[pt r]) (hf:=Tryz.func101) (hsure:=P3 kr) (hc:=xaside_ r (blk q2.1,q2.2) (by have:=W8 q2.1; show (blk q2.1).length≤_; omega) _ _ hX) (k:=?_))
   rintro _ _ ⟨rfl,rfl⟩
   refine A7 [3,2] [0,14] (k:=A0 (B2 (b:=(G8 (blk q2.1,q2.2)).1) kr (fun hc2=>?_) (fun hc2=>?_)))
   ·
    have has:(G8 (blk q2.1,q2.2)).1=true:=hc2
    refine A8 (A0 (B4 (A8 (B7 (D2 (s':=(m,(G8 (blk q2.1,q2.2)).2)) [0] kr rfl ⟨(by dsimp only; exact hT.trans (by first | exact around_skip hq0 hsk | exact around_aside hq0 hsk has)),(by dsimp only; intro _; have:=hn hq0; first | omega | (have:=aside_lt has; dsimp only at this; omega)),(by dsimp only; first | omega | (have:=Y2 (blk q2.1,q2.2); dsimp only at this; omega))⟩ (by dsimp only; omega))))))
   ·
    have has:¬ (G8 (blk q2.1,q2.2)).1=true:=by rw [hc2]; exact Bool.false_ne_true
    refine E8 (A6 (A6 (B5 (B6 [] [] (k:=?_)))))
    exact (by rw [hT,around_end hq0 hsk has]; try rfl)
 ·
  refine A2 (A3 (j:=3) [0,0,0] (k:=C6 0 1 rfl rfl (A3 (j:=5) [0] (k:=E5 6 (x:=.bool (q2.2==0)) (y:=.bool false) (by rw [show (q2.2==0)=false by simpa using hq0]) (B1 (E':=[⟨0,[],pt r⟩,⟨14,[],.bool false⟩]) [0,1,1,1,1,1,1,3] [0,14] (k:=A0 (C8 kr (E8 ?_))))))))
  refine A6 (A6 (B5 (B6 [] [] (k:=?_))))
  exact (by rw [hT,around_ne hq0]; try rfl)
end Go.Proofs.YtppgfiklmfoaeaaGreatDoor
namespace Go.Proofs
open Go.Shelf
def Tryz.laysValid_ren:Go.Shelf.Ren:=⟨fun | 196=>97 | 259=>140 | n=>n,fun | 9=>9 | 4=>4 | 3=>3 | 5=>5 | 12=>12 | 119=>173 | 0=>0 | 46=>37 | 139=>176 | 138=>175 | 53=>194 | n=>n,fun | 3=>0 | 4=>1 | n=>n⟩
theorem Tryz.laysValid:Go.Proofs.Lays.n196 Tryz.prog Tryz.laysValid_ren:={
  mixed:=by kernel_rfl
  f196:=Tryz.func97.trans (congrArg some (by kernel_rfl))
  f259:=Tryz.func140.trans (congrArg some (by kernel_rfl))
  t0:=Tryz.underlying0
  a0:=Tryz.isAgg0
  z0:=Tryz.sizeOf0
  v0:=Tryz.zeroValue0
  t3:=Tryz.underlying3
  a3:=Tryz.isAgg3
  z3:=Tryz.sizeOf3
  v3:=Tryz.zeroValue3
  t4:=Tryz.underlying4
  a4:=Tryz.isAgg4
  z4:=Tryz.sizeOf4
  v4:=Tryz.zeroValue4
  t5:=Tryz.underlying5
  a5:=Tryz.isAgg5
  z5:=Tryz.sizeOf5
  v5:=Tryz.zeroValue5
  t9:=Tryz.underlying9
  a9:=Tryz.isAgg9
  z9:=Tryz.sizeOf9
  v9:=Tryz.zeroValue9
  t12:=Tryz.underlying12
  a12:=Tryz.isAgg12
  z12:=Tryz.sizeOf12
  v12:=Tryz.zeroValue12
  t46:=Tryz.underlying37
  a46:=Tryz.isAgg37
  z46:=Tryz.sizeOf37
  v46:=Tryz.zeroValue37
  t53:=Tryz.underlying194
  a53:=Tryz.isAgg194
  z53:=Tryz.sizeOf194
  v53:=Tryz.zeroValue194
  t119:=Tryz.underlying173
  a119:=Tryz.isAgg173
  z119:=Tryz.sizeOf173
  t138:=Tryz.underlying175
  a138:=Tryz.isAgg175
  z138:=Tryz.sizeOf175
  v138:=Tryz.zeroValue175
  t139:=Tryz.underlying176
  a139:=Tryz.isAgg176
  z139:=Tryz.sizeOf176
  v139:=Tryz.zeroValue176
  g3:=by kernel_rfl
  g4:=by kernel_rfl }
end Go.Proofs
namespace Go.Proofs.YtppgfiklmfoaeaaGreatDoor
open Go.Sw Go.Esc Go.RowKit
theorem cell_lt {w:World} {b off:Nat} {v:Value} (h:w.cell? ⟨b,off,none⟩=some v):b<w.heap.size:=by
  rcases Nat.lt_or_ge b w.heap.size with h' | h'
  · exact h'
  · unfold World.cell? at h
    simp only [Array.getElem?_eq_none h'] at h
    cases h
theorem tabs_sat {W0:World} {H:List Grp} {w:World} {g3 g4:Nat} (h:Lib.Utf8Tabs g3 g4 W0) (hs:Sat W0 H w):Lib.Utf8Tabs g3 g4 w:=by
  have c:∀ {b off:Nat} {v:Value},W0.cell? ⟨b,off,none⟩=some v→w.cell? ⟨b,off,none⟩=some v:=fun h=>cell_base hs (cell_lt h) h
  exact ⟨fun q hq=>c (h.1 q hq),fun i hi=>⟨c (h.2 i hi).1,c (h.2 i hi).2⟩⟩
theorem validStr (s:ByteArray) (hs:s.size≤1000000000000) (W0:World) (H:List Grp) (hW:S0 W0):Tri Tryz.prog 97 #[.string s] W0 H (fun v H'=>v=.bool (M4 s.data.toList)∧H'=H):=by
  rw [validP_D]
  exact Tri_below (fun w hw=>Any.utf8_ValidString Tryz.laysValid s w (by omega) (tabs_sat hW.utf hw))
end Go.Proofs.YtppgfiklmfoaeaaGreatDoor
namespace Go.Proofs.YtppgfiklmfoaeaaGreatDoor
open Go Go.ChangeShapes Go.WideShapes Go.ChangeAt Go.RowKit Go.Sw Go.Lib Go.Shelf Go.Proofs
theorem frozen_below {W W':World} (h:Below W.heap.size W W') {a:Addr} (ha:a.block<W.heap.size):W'.frozen? a=W.frozen? a:=by
  unfold World.frozen?
  rw [h.block _ ha]
theorem post_below {H:Type} {enc:TypeId × Value→H} {P:Program} {f:Func} {s:ChangeSpec} {apart fresh handsOn again:Bool} {W W':World} {args:Array Value} {v:Value} {ds gs:List (DataW H)} {before pa pv:List MemPlace}
    (hW:DataW.Whole enc P f.params.toList s.vars apart W args.toList ds gs before)
    (hres:∀ (b:Nat) (sp:Nat→Bool) (hd:Bool),DataW.TrodAll enc P W' b sp hd f.resultTypes.toList (v.resultList f.resultTypes.size) (s.fn H (ds++gs)).results [])
    (hargs:∀ sp:Nat→Bool,(∀ p∈before,sp p.block=true)→DataW.TrodAll enc P W' 0 sp true f.params.toList args.toList (s.fn H (ds++gs)).args pa)
    (hvars:∀ sp:Nat→Bool,(∀ p∈before,sp p.block=true)→DataW.TrodVars enc P W' sp s.vars (s.fn H (ds++gs)).vars pv)
    (hps:before=pa++pv) (hb:Below W.heap.size W W')
    (hok:∀ (j:Nat) (t:TypeId) (r:Value),f.resultTypes[j]? = some t→(v.resultList f.resultTypes.size)[j]? = some r→Value.okWide P W' .any 0 t r) :
    s.post enc P f apart fresh handsOn again W args v W':=by
  have hold:∀ p∈before,(fun b=>decide (b<W.heap.size)) p.block=true:=fun p hp=>by simpa using hW.lt p hp
  have hlt:=hW.lt
  refine ⟨ds,gs,before,[],pa,pv,hW,hres _ _ _,hargs _ hold,hvars _ hold,hb.frame _,fun _=>?_⟩
  obtain ⟨_,_,_,_,_,hz,hn⟩:=hW
  refine ⟨hok,_,_,([]++pa)++pv,⟨[]++pa,pv,trodAll_append (hargs _ (fun _ _=>rfl)) (hres _ _ _),hvars _ (fun _ _=>rfl),rfl,?_,?_⟩,?_⟩
  · intro b off hp
    have hp':MemPlace.cell b off∈before:=by rw [hps]; simpa using hp
    rw [frozen_below hb (hlt _ hp')]
    exact hz b off hp'
  · intro ha
    have:=hn ha
    rw [hps] at this
    simpa using this
  · intro p hp _
    rw [hps]
    simpa using hp
theorem Q6 {P:Program} {x:String × DataW Unit} {r:List (String × DataW Unit)} {W:World} (h:laidMet P (x::r) W):laidMet P r W:=by
  obtain ⟨ps,⟨g,t,cs,fuel,p,q,_,_,_,_,h5,h6⟩,hn,hc⟩:=h
  subst h6
  exact ⟨q,h5,(List.nodup_append.1 hn).2.1,fun b off hm=>hc b off (List.mem_append_right _ hm)⟩
theorem sat_nil (W:World):Sat W [] W:=⟨Below.refl _ _,by simp,by simp,by simp⟩
theorem eStar : "*" ++ "errors.errorString" = "*errors.errorString" := by decide
theorem eRow (u : TypeId) (h : Tryz.prog.typeName? 3 u = some "*errors.errorString") : u = 292 :=
  typeName_ptr_named (nm := "errors.errorString") (by rw [eStar]; kernel_rfl) (by kernel_rfl) (by decide) u (by rw [eStar]; exact h)
theorem eGlob : Tryz.prog.globalNamed "strconv.ErrSyntax" = some 4 := by kernel_rfl
theorem eU8:U8Extra Tryz.prog Tryz.laysValid_ren:={ n3:=by kernel_rfl,n4:=by kernel_rfl,y3:=by kernel_rfl,y4:=by kernel_rfl,c5:=by kernel_rfl,c119:=by kernel_rfl,c138:=by kernel_rfl }
def de64:List Int:=[0,1,56,2,57,49,28,3,61,58,42,50,38,29,17,4,62,47,59,36,45,43,51,22,53,39,33,30,24,18,12,5,63,55,48,27,60,41,37,16,46,35,44,21,52,32,23,11,54,26,40,15,34,20,31,10,25,14,19,9,13,8,7,6]
theorem eTz : Tryz.prog.globalNamed "math/bits.deBruijn64tab" = some 7 := by kernel_rfl
theorem base_of {W : World} (h : laidMet Tryz.prog [("math/bits.deBruijn32tab", Rows.laid_math_bits_deBruijn32tab), ("math/bits.deBruijn64tab", Rows.laid_math_bits_deBruijn64tab), ("internal/strconv.uint64pow10", Rows.laid_internal_strconv_uint64pow10), ("unicode/utf8.acceptRanges", Rows.laid_unicode_utf8_acceptRanges), ("strconv.ErrRange", Rows.laid_strconv_ErrRange), ("strconv.ErrSyntax", Rows.laid_strconv_ErrSyntax), ("unicode/utf8.first", Rows.laid_unicode_utf8_first)] W) : S0 W := by
  have h2:=Q6 h
  have h6:=Q6 (Q6 (Q6 (Q6 h2)))
  refine ⟨?_,?_,?_⟩
  · obtain ⟨a0,s0,hv0,-,-,-⟩:=laid_sentinel h6 eGlob (ti:=120) (tp:=292) (te:=294) (ts:=9) (by kernel_rfl) Tryz.underlying120 eRow Tryz.underlying292 Tryz.underlying294 rfl rfl Tryz.underlying9 (by kernel_rfl) (by kernel_rfl)
    have hc:W.cell? ⟨4,0,none⟩=some (.iface 292 (.pointer (some a0))):=by
      have h0:=World.var?_cell eGlob hv0 0; simpa using h0
    exact ⟨_,cell_lt hc,hc,.inr ⟨_,_,rfl⟩⟩
  · have hT : Lib.TabIs Tryz.prog W "math/bits.deBruijn64tab" .u8 de64 := by
      rw [show Rows.laid_math_bits_deBruijn64tab=Lib.tabData .u8 de64 from by kernel_rfl] at h2
      exact Lib.tabIs_of_head (t:=289) (e:=5) (n:=64) eTz (by kernel_rfl) (by kernel_rfl) (by kernel_rfl) (by kernel_rfl) (by kernel_rfl) h2
    unfold Lib.TabIs World.var? at hT
    rw [eTz] at hT
    simp only [Option.bind_some] at hT
    cases hb:W.heap[7]? with
    | none=>rw [hb] at hT; cases hT
    | some ob =>
      rw [hb] at hT
      cases ob with
      | cells c e fz =>
        have hlt:7<W.heap.size:=(Array.getElem?_eq_some_iff.1 hb).1
        simp only [Option.some.injEq] at hT
        subst hT
        exact ⟨_,_,_,hlt,rfl,by rfl⟩
      | _=>cases hT
  · have h3 := laidMet.reads h (n := "unicode/utf8.first") (d := Rows.laid_unicode_utf8_first) (by simp)
    have h4 := laidMet.reads h (n := "unicode/utf8.acceptRanges") (d := Rows.laid_unicode_utf8_acceptRanges) (by simp)
    rw [show Rows.laid_unicode_utf8_first=Lib.firstData from by kernel_rfl] at h3
    rw [show Rows.laid_unicode_utf8_acceptRanges=Lib.acceptData from by kernel_rfl] at h4
    exact utf8Tabs_of_readsT (U8Types.of196 Tryz.laysValid) eU8 h3 h4
end Go.Proofs.YtppgfiklmfoaeaaGreatDoor
namespace Go.Json
open Go.Sw Go.Esc
def strV (ns:List (List UInt8)):List Value:=ns.map fun n=>.string (bk n)
theorem strV_len (a:List (List UInt8)):(strV a).length=a.length:=List.length_map _
theorem strV_at {a:List (List UInt8)} {k:Nat} (h:k<a.length):(strV a)[k]? = some (.string (bk a[k])):=by
  unfold strV; rw [List.getElem?_map,List.getElem?_eq_getElem h]; rfl
theorem X7 {S S':Nat→Obj→Prop} {a:Option Addr} {cs:List Value} (h:Rd S a cs) (hs:∀ b o,S b o→S' b o):Rd S' a cs:=by
  unfold Rd at h ⊢
  rcases h with h | ⟨b,off,c,t,z,h1,h2,h3⟩
  · exact .inl h
  · exact .inr ⟨b,off,c,t,z,h1,hs _ _ h2,h3⟩
mutual
inductive JRd (S:Nat→Obj→Prop):JV→List Value→Prop
  | mk {k:Int} {t:List UInt8} {ns:List (List UInt8)} {l:List JV} {an al:Option Addr} {cn cl:Nat} {cs:List Value}:Rd S an (strV ns)→Rd S al cs→JRdL S l cs→JRd S (.mk k t ns l) [.int .i64 k,.string (bk t),.slice an ns.length cn,.slice al l.length cl]
inductive JRdL (S:Nat→Obj→Prop):List JV→List Value→Prop
  | nil:JRdL S [] []
  | cons {v:JV} {l:List JV} {c cs:List Value}:JRd S v c→JRdL S l cs→JRdL S (v::l) (c++cs)
end
mutual
/-- owned: one group for all of it -/
inductive JRep (ts tj:TypeId):JV→List Value→Grp→Prop
  | mk {k:Int} {t:List UInt8} {ns:List (List UInt8)} {l:List JV} {an al:Option Addr} {cn cl:Nat} {cs:List Value} {gn gl gs:Grp}:Own ts 1 (.slice an ns.length cn) gn ns.length (strV ns)→Own tj 4 (.slice al l.length cl) gl l.length cs→JRepL ts tj l cs gs→JRep ts tj (.mk k t ns l) [.int .i64 k,.string (bk t),.slice an ns.length cn,.slice al l.length cl] (gn++(gl++gs))
inductive JRepL (ts tj:TypeId):List JV→List Value→Grp→Prop
  | nil:JRepL ts tj [] [] []
  | cons {v:JV} {l:List JV} {c cs:List Value} {g gs:Grp}:JRep ts tj v c g→JRepL ts tj l cs gs→JRepL ts tj (v::l) (c++cs) (g++gs)
end
theorem JRd.len {S:Nat→Obj→Prop} {v:JV} {c:List Value} (h:JRd S v c):c.length=4:=by cases h; rfl
theorem JRdL.len {S:Nat→Obj→Prop}:∀ {l:List JV} {cs:List Value},JRdL S l cs→cs.length=l.length * 4
  | [],_,h=>by cases h; rfl
  | v::l,_,h=>by
    cases h with
    | cons h1 h2=>rw [List.length_append,h1.len,h2.len,List.length_cons]; omega
theorem JRdL.at {S:Nat→Obj→Prop}:∀ {l:List JV} {cs:List Value} {i:Nat} (hi:i<l.length),JRdL S l cs→JRd S l[i] ((cs.drop (i * 4)).take 4)
  | [],_,_,hi,_=>absurd hi (Nat.not_lt_zero _)
  | v::l,_,0,_,h=>by
    cases h with
    | cons h1 h2 =>
      rw [Nat.zero_mul,List.drop_zero,List.take_append_of_le_length (by rw [h1.len]; exact Nat.le_refl _),List.take_of_length_le (by rw [h1.len]; exact Nat.le_refl _)]; exact h1
  | v::l,_,i+1,hi,h=>by
    cases h with
    | cons h1 h2 =>
      rename_i c cs
      have e:(c++cs).drop ((i+1) * 4)=cs.drop (i * 4):=by
        rw [List.drop_append,List.drop_eq_nil_of_le (by rw [h1.len]; omega),h1.len,List.nil_append,show (i+1) * 4 - 4=i * 4 by omega]
      rw [e]; exact JRdL.at (l:=l) (by simpa using hi) h2
theorem JRep.nul {ts tj:TypeId}:JRep ts tj nul [.int .i64 0,.string (bk []),.slice none 0 0,.slice none 0 0] []:=.mk (ns:=[]) (l:=[]) Own.nil Own.nil .nil
theorem JRepL.snoc {ts tj:TypeId}:∀ {l:List JV} {cs:List Value} {gs:Grp} {v:JV} {c:List Value} {g:Grp},JRepL ts tj l cs gs→JRep ts tj v c g→JRepL ts tj (l++[v]) (cs++c) (gs++g)
  | [],_,_,v,c,g,h,hv=>by
    cases h
    have:=JRepL.cons hv .nil
    rw [List.append_nil,List.append_nil] at this
    exact this
  | x::l,_,_,v,c,g,h,hv=>by
    cases h with
    | cons h1 h2 =>
      rw [List.cons_append,List.append_assoc,List.append_assoc]
      exact .cons h1 (JRepL.snoc h2 hv)
mutual
theorem JRep.rd {ts tj:TypeId} {S:Nat→Obj→Prop}:∀ {v:JV} {c:List Value} {g:Grp},JRep ts tj v c g→(∀ b o,inG g b o→S b o)→JRd S v c
  | .mk _ _ _ _,_,_,.mk h1 h2 h3,hs=>.mk (X7 (I4 h1) fun b o h=>hs b o (List.mem_append_left _ h)) (X7 (I4 h2) fun b o h=>hs b o (List.mem_append_right _ (List.mem_append_left _ h))) (JRepL.rd h3 fun b o h=>hs b o (List.mem_append_right _ (List.mem_append_right _ h)))
theorem JRepL.rd {ts tj:TypeId} {S:Nat→Obj→Prop}:∀ {l:List JV} {cs:List Value} {g:Grp},JRepL ts tj l cs g→(∀ b o,inG g b o→S b o)→JRdL S l cs
  | [],_,_,.nil,_=>.nil
  | _::_,_,_,.cons h1 h2,hs=>.cons (JRep.rd h1 fun b o h=>hs b o (List.mem_append_left _ h)) (JRepL.rd h2 fun b o h=>hs b o (List.mem_append_right _ h))
end
end Go.Json
namespace Go.Proofs.YtppgfiklmfoaeaaGreatDoor
open Go Go.ChangeShapes Go.WideShapes Go.ChangeAt Go.RowKit Go.Sw Go.Sha Go.Esc
theorem laidOut_:laidOutB Tryz.prog=true:=by kernel_rfl
end Go.Proofs.YtppgfiklmfoaeaaGreatDoor
namespace Go.Proofs.YtppgfiklmfoaeaaGreatDoor
open Go Go.ChangeShapes Go.WideShapes Go.ChangeAt Go.RowKit Go.Sw Go.Esc Go.Xml
theorem cell_in {W:World} {g:Nat} {v:Value} (h:W.cell? ⟨g,0,none⟩=some v):g<W.heap.size:=by
  rcases Nat.lt_or_ge g W.heap.size with h1 | h1
  · exact h1
  · unfold World.cell? at h
    rw [show (⟨g,0,none⟩:Addr).block=g from rfl,Array.getElem?_eq_none h1] at h; cases h
theorem baseX_of {W:World} (hB:S0 W) (h:W.ShapedOpen Tryz.prog):R6 W:=by
  obtain ⟨m,hm⟩:=cell_of_shapedOpen_int (k:=.i64) h (g:=2) (of_decide_eq_true (by kernel_rfl)) (t:=3) (zero:=#[.int .i64 0]) (by kernel_rfl) rfl (by kernel_rfl) (by kernel_rfl) Tryz.underlying3
  exact ⟨hB,m,cell_in hm,hm⟩
variable {H : Type} {enc : TypeId × Value → H}
theorem returnsIn_shaped {a:Assume} {C:Checked} {os:Os} {f:FuncId} {fn:Func} {s:ChangeSpec} {conds:List PathCond} {apart fresh handsOn again:Bool} {X:World→Array Value→Prop}
    (hX:∀ (w w':World) (args:Array Value),w.heap=w'.heap→X w args→X w' args)
    (own:ownKnob C.prog.godebug=none) (started:os.Started) (noInit:C.prog.inits.idxOf? f=none) (hfn:C.prog.funcs[f]? = some fn)
    (witness:∃ (w:World) (tape:Tape) (i:Input),w.os=os∧(w.forCall tape i).Shaped C.prog∧i.vars=[]∧Input.okWide C.prog (w.forCall tape i) .any w.heap.size f i ∧
      ((s.pre enc C.prog fn conds apart (w.forCall tape i).memory i.args∧X (w.forCall tape i).memory i.args)∧sizedMet enc C.prog fn (OpenSpec.ofChange s) apart (w.forCall tape i).memory i.args)∧a.holds C.prog (lone (Frame.enter C.prog f i.args .normal) [] (w.forCall tape i)))
    (contract:∀ (W:World) (base:Nat) (args:Array Value) (ds gs:List (DataW H)) (before:List MemPlace),
      (∀ (j:Nat) t v,fn.params[j]? = some t→args[j]? = some v→Value.okWide C.prog W .any base t v) →
      DataW.Whole enc C.prog fn.params.toList s.vars apart W args.toList ds gs before →
      conds.all (PathCond.test C.prog ⟨fn.params.toList,ds,s.plain.varTypes C.prog,gs⟩)=true →
      X W args→W.ShapedOpen C.prog →
      Calls C.prog f args W fun e W'=>∃ v,e=.returned v∧s.post enc C.prog fn apart fresh handsOn again W args v W') :
    ReturnsInHanded a C os f .any (fun w args=>(s.pre enc C.prog fn conds apart w args∧X w args)∧sizedMet enc C.prog fn (OpenSpec.ofChange s) apart w args) (s.post enc C.prog fn apart fresh handsOn again):=by
  refine returnsInHanded_of_calls own started noInit witness ?_
  intro w tape i _ hsh _ hok hpre _
  obtain ⟨_,_,_,fn',hfn',_,_,_,_,hval⟩:=hok
  have e:fn'=fn:=Option.some.inj (hfn'.symm.trans hfn)
  subst e
  obtain ⟨⟨⟨ds,gs,before,hw,hc⟩,hx⟩,_⟩:=hpre
  have hw':=DataW.Whole.of_heap (w':=w.forCall tape i) (by rfl) hw
  refine (contract (w.forCall tape i) w.heap.size i.args ds gs before hval hw' hc (hX _ _ _ (by rfl) hx) hsh).mono fun e W' ⟨v,he,hp⟩=>?_
  subst he
  exact ChangeSpec.post_blind hp
end Go.Proofs.YtppgfiklmfoaeaaGreatDoor
namespace Go.Proofs.YtppgfiklmfoaeaaGreatDoor
open Go Go.ChangeShapes Go.WideShapes Go.ChangeAt Go.RowKit Go.Sw
theorem and_tt {a b:Bool} (h:a=true) (h2:b=true):(a&&b)=true:=by rw [h,h2]; rfl
theorem cl_may:Tryz.prog.mayEnter=true:=by kernel_rfl
theorem cl_lift:Tryz.prog.liftsFinal=Rows.jsonParsesRow.lifted:=by kernel_rfl
theorem cl_make:Tryz.prog.make=some Rows.jsonParsesRow.make:=by kernel_rfl
theorem cl_heard:Tryz.prog.stopsHeard=true:=by kernel_rfl
theorem cl_keys:Tryz.prog.plainKeys=Rows.jsonParsesRow.plainKeys:=by kernel_rfl
end Go.Proofs.YtppgfiklmfoaeaaGreatDoor
namespace Go.Proofs.YtppgfiklmfoaeaaGreatDoor
open Go.Sw Go.Esc
def quoT:List Value:=[.string (mB #[10]),.string (mB #[38,35,49,48,59]),.string (mB #[9]),.string (mB #[38,35,57,59])]
theorem newRepQ_ (v:Nat) (W0:World) (H:List Grp):Tri Tryz.prog 148 #[.slice (some ⟨v,0,none⟩) 4 4] W0 ([(v,.cells #[.string (mB #[10]),.string (mB #[38,35,49,48,59]),.string (mB #[9]),.string (mB #[38,35,57,59])] 9 (0,0))]::H) (fun x H'=>∃ b a cap g,x=pt b∧Go.Sw.Own 9 1 (.slice a 4 cap) g 4 quoT∧H'=repG b 0 0 .nilIface (.slice a 4 cap)::g::[(v,.cells #[.string (mB #[10]),.string (mB #[38,35,49,48,59]),.string (mB #[9]),.string (mB #[38,35,57,59])] 9 (0,0))]::H):=by
 refine D3 12 Tryz.func148 ?_
 refine A1 (G_p [0] [0] (k:=A0 (A1 (A1 (A2 (A3 (j:=3) [0,0,0] (k:=?_)))))))
 have hw1:Int.tmod 4 2=4 % 2:=r64 (by omega)
 refine GL_w 5 hw1 kr (A7 [0] [0,6] (k:=A0 (B2 (b:=(4 % 2)==1) kr (fun hc2=>?_) (fun hc2=>?_))))
 ·
  exact absurd hc2 (by decide)
 ·
  skip
  refine A8 (A0 (A1 (A2 (A3 (j:=1) [0] (k:=GL_heap rfl (H':=([]::[(v,.cells #[.string (mB #[10]),.string (mB #[38,35,49,48,59]),.string (mB #[9]),.string (mB #[38,35,57,59])] 9 (0,0))]::H)) (fun w h=>h.flat (List.Perm.refl _)) (M1 (inf:=Tryz.t9) (e:=9) (s:=.slice none 0 0) 4 1 0 rfl rfl Go.Sw.Own.nil (by omega) (by show (0+4) * 16≤140737488355328; omega) (fun v3 g4 hO5=>?_)))))))
  replace hO5:=own_nilE hO5
  obtain ⟨a6,cap7,rfl,hcap8,hrd9⟩:=hO5.shape
  refine A3 (j:=3) [0] (k:=T7 (.agg #[.int .u32 0,.int .i32 0,.int .u32 0,.nilIface,.slice a6 4 cap7]) (fun b10=>B1 (E':=[⟨2,[],pt b10⟩]) [0] [2] (k:=A0 (B9 (B6 [.tmp 2] [pt b10] (k:=?_))))))
  exact ⟨_,_,_,_,rfl,hO5,rfl⟩
def quoOlds:List Value:=[.string (mB #[9]),.string (mB #[10])]
def buildRQ (b:Nat) (a:Option Addr) (cap:Nat) (g:Grp) (H:List Grp) (x:Value) (H':List Grp):Prop:=∃ c aT cT gT a10 c10 g10 a9 c9 g9,x=.iface 249 (pt c)∧Go.Sw.Own 9 1 (.slice aT 2 cT) gT 2 quoOlds∧(Rd (inG g10) (some ⟨a10,0,none⟩) (u8s (mB #[38,35,49,48,59]).data.toList)∧Rd (inG g9) (some ⟨a9,0,none⟩) (u8s (mB #[38,35,57,59]).data.toList))∧H'=[(c,.cells (bsr [(9,.slice (some ⟨a9,0,none⟩) 4 c9),(10,.slice (some ⟨a10,0,none⟩) 5 c10)] (.slice aT 2 cT)) 248 (0,0))]::gT::g10::g9::([(b,.cells #[.int .u32 0,.int .i32 1,.int .u32 0,.nilIface,.slice a 4 cap] 213 (0,0))]::g::H)
theorem buildQ_ (b:Nat) (a:Option Addr) (cap:Nat) (g:Grp) (hr:Rd (inG g) a quoT) (W0:World) (H:List Grp):Tri Tryz.prog 190 #[pt b] W0 ([(b,.cells #[.int .u32 0,.int .i32 1,.int .u32 0,.nilIface,.slice a 4 cap] 213 (0,0))]::g::H) (buildRQ b a cap g H):=by
  refine D3 132 Tryz.func190 ?_
  refine A1 (C1 (E':=[⟨0,[],pt b⟩]) [0] [0] (k:=A0 (A1 (A2 (A3 (j:=3) [0,0,0] (k:=C6 0 4 rfl rfl (B1 (E':=[⟨3,[],.slice a 4 cap⟩]) [0] [3] (k:=A0 ?_))))))))
  refine A1 (A1 (G_p [0,0,0,0,1,1,1,1,1,3] [3,28] (k:=A0 (C8 kr (A8 (A0 (A1 (G_p [0] [3,4] (k:=?_)))))))))
  refine A0 (A1 (A1 (G_p [0] [3,4,5] (k:=A0 (B4 (M7 3 (E9 (A1 ?_))))))))
  refine A1 (G_p [0,0,0,0] [3,4,5,40] (k:=A0 (C4 kr (A8 (A0 (A1 (B4 (A1 ?_))))))))
  refine A1 (A2 (A3 (j:=2) [0,0] (k:=E6 4 0 1 hr (by exact ⟨by decide,by decide,by intro h; cases h⟩) (H6 (0 * 1) (.string (mB #[10])) hr (D7 1 rfl) (fun _=>rfl) (A7 [0,0] [3,4,5,48] (k:=A0 (C8 kr (A8 ?_))))))))
  refine A0 (A1 (A2 (A3 (j:=3) [0,0,0] (k:=E6 4 1 1 hr (by exact ⟨by decide,by decide,by intro h; cases h⟩) (H6 (1 * 1) (.string (mB #[38,35,49,48,59])) hr (D7 1 rfl) (fun _=>rfl) (B1 (E':=[⟨3,[],.slice a 4 cap⟩,⟨4,[],.bool true⟩,⟨5,[],.int .i64 0⟩,⟨58,[],.bool true⟩]) [0,0] [3,4,5,58] (k:=A0 (C4 kr ?_))))))))
  refine G_p [0] [3,4,5] (k:=B7 (A0 (G_p [0,0,0] [3,4,5] (k:=N_rd (E9 (A1 (A1 (G_p [0,0,0,0] [3,4,5,40] (k:=?_)))))))))
  refine A0 (C4 kr (A8 (A0 (A1 (B4 (A1 (A1 (A2 ?_))))))))
  refine A3 (j:=2) [0,0] (k:=E6 4 2 1 hr (by exact ⟨by decide,by decide,by intro h; cases h⟩) (H6 (2 * 1) (.string (mB #[9])) hr (D7 1 rfl) (fun _=>rfl) (A7 [0,0] [3,4,5,48] (k:=A0 (C8 kr (A8 (A0 (A1 ?_))))))))
  refine A2 (A3 (j:=3) [0,0,0] (k:=E6 4 3 1 hr (by exact ⟨by decide,by decide,by intro h; cases h⟩) (H6 (3 * 1) (.string (mB #[38,35,57,59])) hr (D7 1 rfl) (fun _=>rfl) (A7 [0,0] [3,4,5,58] (k:=A0 (C4 kr (C1 (E':=[⟨3,[],.slice a 4 cap⟩,⟨4,[],.bool false⟩,⟨5,[],.int .i64 2⟩]) [0] [3,4,5] (k:=B7 ?_))))))))
  refine A0 (G_p [0,0,0] [3,4,5] (k:=N_rd (E9 (A1 (A1 (G_p [0,0,0,0] [3,4,5,40] (k:=A0 (C8 kr ?_))))))))
  refine E8 (A6 (A6 (B5 (A0 (A1 (A1 (G_p [0] [3,59] (k:=A0 ?_))))))))
  refine C8 kr (A8 (A0 (A1 (A2 (A3 (j:=3) [0,0,0] (k:=GL_makeLC (i:=3) (ch:=[]) (t:=25) (e:=9) (inf:=Tryz.t9) (l:=0) (m:=2) (c:=[.string eB,.string eB]) rfl rfl kr kr kr kr rfl (by decide) (by decide) (by decide) (by decide) kr kr kr kr (fun b1=>A3 (j:=5) [0] (k:=L1 (.agg (bsr [] (.slice none 0 0))) (fun b2=>?_)))))))))
  refine X1 0 0 (.agg (bsr [] (.slice (some ⟨b1,0,none⟩) 0 2))) (bsr [] (.slice (some ⟨b1,0,none⟩) 0 2)) rfl (A7 [] [3,11] (k:=A0 (A1 (A1 (G_p [0,0,0,0] [3,11,12] (k:=A0 (B4 (M7 3 ?_))))))))
  refine E9 (A1 (A1 (C1 (E':=[⟨3,[],.slice a 4 cap⟩,⟨11,[],pt b2⟩,⟨12,[],.int .i64 2⟩,⟨100,[],.bool true⟩]) [0,0] [3,11,12,100] (k:=A0 (C4 kr (A8 (A0 (A1 ?_))))))))
  refine B4 (A1 (A2 (A3 (j:=2) [0,0] (k:=E6 4 2 1 hr (by exact ⟨by decide,by decide,by intro h; cases h⟩) (H6 (2 * 1) (.string (mB #[9])) hr (D7 3 rfl) (fun _=>rfl) (H0 (mB #[9]) 0 (fun _=>by decide) (A7 [0] [3,11,12,13] (k:=A0 ?_))))))))
  refine A1 (A2 (A3 (j:=3) [0,0,0] (k:=E6 4 3 1 hr (by exact ⟨by decide,by decide,by intro h; cases h⟩) (H6 (3 * 1) (.string (mB #[38,35,57,59])) hr (D7 3 rfl) (fun _=>rfl) (A7 [0] [3,11,12,13,14] (k:=A0 (A1 (A1 ?_))))))))
  refine A2 (A3 (j:=2) [0,0] (k:=D8 (ch:=[]) (b:=b2) (off:=0) (len:=256) (sz:=1) (e:=22) (kd:=.u8) (j:=9) (hb:=(fun _=>⟨by decide,by decide⟩)) (k:=C6 (v:=.slice none 0 0) 0 9 rfl kr (A7 [0] [3,11,12,13,14,117] (k:=A0 (C4 kr (A2 (A3 (j:=1) [0] (k:=?_)))))))))
  refine C6 (v:=.slice (some ⟨b1,0,none⟩) 0 2) 0 256 rfl kr (A3 (j:=3) [0] (k:=J2 5 1 [.int .u8 9] (fun b3=>L6 (ch:=[]) (a:=⟨b3,0,none⟩) (cap:=1) (e:=5) (S:=(inG [(b3,.cells #[.int .u8 9] 5 (0,0))])) ([9]) (hrd:=Rd.lit (c:=[.int .u8 9])) (hS:=D7 0 rfl) (k:=J2 9 1 [.string (mB #[9])] (fun b4=>M1 (inf:=Tryz.t9) (e:=9) (s:=.slice (some ⟨b1,0,none⟩) 0 2) 1 0 3 rfl rfl (own_cut0 (c:=[.string eB,.string eB]) rfl) (by omega) (by show (0+1) * 16≤140737488355328; omega) (fun v5 g6 hO7=>?_))))))
  obtain ⟨a8,cap9,rfl,hcap10,hrd11⟩:=hO7.shape
  refine A3 (j:=8) [0] (k:=X1 2 256 (.slice a8 (0+1) cap9) (bsr [] (.slice a8 (0+1) cap9)) rfl (A7 [] [3,11,12,13,14] (k:=A0 (A2 (A3 (j:=2) [0,0] (k:=K6 (ch:=[]) (src:=9) (dst:=22) (e:=5) (s:=(mB #[38,35,57,59])) (k:=(fun b12 cap13 g14 hcap15 hrd16=>?_))))))))
  refine A3 (j:=4) [0] (k:=D8 (ch:=[]) (b:=b2) (off:=0) (len:=256) (sz:=1) (e:=22) (kd:=.u8) (j:=9) (hb:=(fun _=>⟨by decide,by decide⟩)) (k:=X1 3 9 (.slice (some ⟨b12,0,none⟩) ((mB #[38,35,57,59]).size) cap13) (bsr [(9,.slice (some ⟨b12,0,none⟩) ((mB #[38,35,57,59]).size) cap13)] (.slice a8 (0+1) cap9)) rfl (A7 [] [3,11,12] (k:=B7 (A0 (C1 (E':=[⟨3,[],.slice a 4 cap⟩,⟨11,[],pt b2⟩,⟨12,[],.int .i64 0⟩]) [0,0,0] [3,11,12] (k:=N_rd (E9 ?_))))))))
  refine A1 (A1 (G_p [0,0] [3,11,12,100] (k:=A0 (C4 kr (A8 (A0 (A1 (B4 ?_))))))))
  refine A1 (A2 (A3 (j:=2) [0,0] (k:=E6 4 0 1 hr (by exact ⟨by decide,by decide,by intro h; cases h⟩) (H6 (0 * 1) (.string (mB #[10])) hr (D7 6 rfl) (fun _=>rfl) (H0 (mB #[10]) 0 (fun _=>by decide) (A7 [0] [3,11,12,13] (k:=A0 (A1 ?_))))))))
  refine A2 (A3 (j:=3) [0,0,0] (k:=E6 4 1 1 hr (by exact ⟨by decide,by decide,by intro h; cases h⟩) (H6 (1 * 1) (.string (mB #[38,35,49,48,59])) hr (D7 6 rfl) (fun _=>rfl) (A7 [0] [3,11,12,13,14] (k:=A0 (A1 (A1 (A2 ?_))))))))
  refine A3 (j:=2) [0,0] (k:=D8 (ch:=[]) (b:=b2) (off:=0) (len:=256) (sz:=1) (e:=22) (kd:=.u8) (j:=10) (hb:=(fun _=>⟨by decide,by decide⟩)) (k:=C6 (v:=.slice none 0 0) 3 10 rfl kr (A7 [0] [3,11,12,13,14,117] (k:=A0 (C4 kr (A2 (A3 (j:=1) [0] (k:=C6 (v:=.slice a8 (0+1) cap9) 3 256 rfl kr ?_))))))))
  refine A3 (j:=3) [0] (k:=J2 5 1 [.int .u8 10] (fun b17=>L6 (ch:=[]) (a:=⟨b17,0,none⟩) (cap:=1) (e:=5) (S:=(inG [(b17,.cells #[.int .u8 10] 5 (0,0))])) ([10]) (hrd:=Rd.lit (c:=[.int .u8 10])) (hS:=D7 0 rfl) (k:=J2 9 1 [.string (mB #[10])] (fun b18=>M1 (inf:=Tryz.t9) 1 0 6 rfl rfl hO7 (by omega) (by show ((0+1)+1) * 16≤140737488355328; omega) (fun v19 g20 hO21=>?_)))))
  obtain ⟨a22,cap23,rfl,hcap24,hrd25⟩:=hO21.shape
  refine A3 (j:=8) [0] (k:=GL_st (ch:=[]) (b:=b2) (off:=256) (v:=.slice a22 ((0+1)+1) cap23) (j:=5) ([(b18,.cells #[.string (mB #[10])] 9 (0,0))]::[(b17,.cells #[.int .u8 10] 5 (0,0))]::g14::[(b4,.cells #[.string (mB #[9])] 9 (0,0))]::[(b3,.cells #[.int .u8 9] 5 (0,0))]::[(b2,.cells (bsr [(9,.slice (some ⟨b12,0,none⟩) ((mB #[38,35,57,59]).size) cap13)] (.slice a22 ((0+1)+1) cap23)) 248 (0,0))]::g20::[(b,.cells #[.int .u32 0,.int .i32 1,.int .u32 0,.nilIface,.slice a 4 cap] 213 (0,0))]::g::H) (h1:=kr) (hoff:=Nat.le_of_ble_eq_true kr) (hfz:=(fun _ _=>thaw0)) (k:=A7 [] [3,11,12,13,14] (k:=A0 (A2 (A3 (j:=2) [0,0] (k:=K6 (ch:=[]) (src:=9) (dst:=22) (e:=5) (s:=(mB #[38,35,49,48,59])) (k:=(fun b26 cap27 g28 hcap29 hrd30=>?_))))))))
  refine A3 (j:=4) [0] (k:=D8 (ch:=[]) (b:=b2) (off:=0) (len:=256) (sz:=1) (e:=22) (kd:=.u8) (j:=10) (hb:=(fun _=>⟨by decide,by decide⟩)) (k:=X1 6 10 (.slice (some ⟨b26,0,none⟩) ((mB #[38,35,49,48,59]).size) cap27) (bsr [(9,.slice (some ⟨b12,0,none⟩) ((mB #[38,35,57,59]).size) cap13),(10,.slice (some ⟨b26,0,none⟩) ((mB #[38,35,49,48,59]).size) cap27)] (.slice a22 ((0+1)+1) cap23)) rfl (B1 (E':=[⟨3,[],.slice a 4 cap⟩,⟨11,[],pt b2⟩,⟨12,[],.int .i64 0⟩]) [] [3,11,12] (k:=B7 (A0 (G_p [0,0,0] [3,11,12] (k:=N_rd (E9 ?_))))))))
  refine A1 (A1 (G_p [0,0] [3,11,12,100] (k:=A0 (C8 kr (E8 (A6 (A6 (B5 ?_))))))))
  refine A0 (A1 (C1 (E':=[⟨2,[],.iface 249 (pt b2)⟩]) [0,0] [2] (k:=A0 (B9 (G9 (H':=(g28::[(b18,.cells #[.string (mB #[10])] 9 (0,0))]::[(b17,.cells #[.int .u8 10] 5 (0,0))]::g14::[(b4,.cells #[.string (mB #[9])] 9 (0,0))]::[(b2,.cells (bsr [(9,.slice (some ⟨b12,0,none⟩) ((mB #[38,35,57,59]).size) cap13),(10,.slice (some ⟨b26,0,none⟩) ((mB #[38,35,49,48,59]).size) cap27)] (.slice a22 ((0+1)+1) cap23)) 248 (0,0))]::g20::[(b,.cells #[.int .u32 0,.int .i32 1,.int .u32 0,.nilIface,.slice a 4 cap] 213 (0,0))]::g::H)) (fun w h=>h.erase 5) (G9 (H':=(g28::[(b18,.cells #[.string (mB #[10])] 9 (0,0))]::[(b17,.cells #[.int .u8 10] 5 (0,0))]::g14::[(b2,.cells (bsr [(9,.slice (some ⟨b12,0,none⟩) ((mB #[38,35,57,59]).size) cap13),(10,.slice (some ⟨b26,0,none⟩) ((mB #[38,35,49,48,59]).size) cap27)] (.slice a22 ((0+1)+1) cap23)) 248 (0,0))]::g20::[(b,.cells #[.int .u32 0,.int .i32 1,.int .u32 0,.nilIface,.slice a 4 cap] 213 (0,0))]::g::H)) (fun w h=>h.erase 4) (G9 (H':=(g28::[(b18,.cells #[.string (mB #[10])] 9 (0,0))]::g14::[(b2,.cells (bsr [(9,.slice (some ⟨b12,0,none⟩) ((mB #[38,35,57,59]).size) cap13),(10,.slice (some ⟨b26,0,none⟩) ((mB #[38,35,49,48,59]).size) cap27)] (.slice a22 ((0+1)+1) cap23)) 248 (0,0))]::g20::[(b,.cells #[.int .u32 0,.int .i32 1,.int .u32 0,.nilIface,.slice a 4 cap] 213 (0,0))]::g::H)) (fun w h=>h.erase 2) (G9 (H':=(g28::g14::[(b2,.cells (bsr [(9,.slice (some ⟨b12,0,none⟩) ((mB #[38,35,57,59]).size) cap13),(10,.slice (some ⟨b26,0,none⟩) ((mB #[38,35,49,48,59]).size) cap27)] (.slice a22 ((0+1)+1) cap23)) 248 (0,0))]::g20::[(b,.cells #[.int .u32 0,.int .i32 1,.int .u32 0,.nilIface,.slice a 4 cap] 213 (0,0))]::g::H)) (fun w h=>h.erase 1) ?_))))))))
  refine F9 0 [2,2,0,0,0,0] (B6 [.tmp 2] [.iface 249 (pt b2)] (k:=?_))
  refine ⟨b2,a22,cap23,g20,b26,cap27,g28,b12,cap13,g14,rfl,?_,⟨hrd30,hrd16⟩,?_⟩
  · exact hO21
  · kernel_rfl
def quoRep (g:Grp) (x:Value) (K:List Grp):Prop:=∃ c aT cT gT a10 c10 g10 a9 c9 g9,x=.iface 249 (pt c)∧Go.Sw.Own 9 1 (.slice aT 2 cT) gT 2 quoOlds∧(Rd (inG g10) (some ⟨a10,0,none⟩) (u8s (mB #[38,35,49,48,59]).data.toList)∧Rd (inG g9) (some ⟨a9,0,none⟩) (u8s (mB #[38,35,57,59]).data.toList))∧K=[[(c,.cells (bsr [(9,.slice (some ⟨a9,0,none⟩) 4 c9),(10,.slice (some ⟨a10,0,none⟩) 5 c10)] (.slice aT 2 cT)) 248 (0,0))],gT,g10,g9,g]
theorem buildOnceQ_ (b:Nat) (a:Option Addr) (cap:Nat) (g:Grp) (hr:Rd (inG g) a quoT) (W0:World) (H:List Grp):Tri Tryz.prog 172 #[pt b] W0 ([(b,.cells #[.int .u32 0,.int .i32 1,.int .u32 0,.nilIface,.slice a 4 cap] 213 (0,0))]::g::H) (fun _ H'=>∃ r2 K2,quoRep g r2 K2∧H'=repG b 0 1 r2 (.slice none 0 0)::(K2++H)):=by
 refine D3 10 Tryz.func172 ?_
 refine A1 (A2 (A3 (j:=2) [0,0] (k:=D9 Tryz.func190 (buildQ_ b a cap g hr _ _) ?_)))
 rintro _ _ ⟨c,aT,cT,gT,a10,c10,g10,a9,c9,g9,rfl,hT,hR,rfl⟩
 refine A3 (j:=5) [0,0] (k:=E3 4 3 (.iface 249 (pt c)) rfl (B1 (E':=[⟨0,[],pt b⟩]) [] [0] (k:=A0 (A2 (A3 (j:=3) [0,0,0] (k:=E3 4 4 (.slice none 0 0) rfl (B1 (E':=[]) [] [] (k:=F9 0 [4,0,0,0,0,0] ?_))))))))
 refine B6 [] [] (k:=?_)
 exact ⟨_,_,⟨c,aT,cT,gT,a10,c10,g10,a9,c9,g9,rfl,hT,hR,rfl⟩,rfl⟩
theorem quoOnce (b:Nat) (a:Option Addr) (cap:Nat) (g:Grp) (hr:Rd (inG g) a quoT) (W0:World) (H:List Grp):Tri Tryz.prog 171 #[pt b,.func (.func 172) #[pt b] #[]] W0 (repG b 0 0 .nilIface (.slice a 4 cap)::([g]++H)) (fun _ H'=>∃ r2 K2,quoRep g r2 K2∧H'=repG b 1 0 r2 (.slice none 0 0)::(K2++H)) :=
  onceDo_ b .nilIface (.slice a 4 cap) (.slice none 0 0) [g] (quoRep g) (fun W0 H=>buildOnceQ_ b a cap g hr W0 H) W0 H
theorem repReplaceQ_ (b:Nat) (a:Option Addr) (cap:Nat) (g:Grp) (hr:Rd (inG g) a quoT) (x y:ByteArray) (hrep:∀ c aT cT gT a10 c10 g10 a9 c9 g9 W0 H,Go.Sw.Own 9 1 (.slice aT 2 cT) gT 2 quoOlds→(Rd (inG g10) (some ⟨a10,0,none⟩) (u8s (mB #[38,35,49,48,59]).data.toList)∧Rd (inG g9) (some ⟨a9,0,none⟩) (u8s (mB #[38,35,57,59]).data.toList))→Tri Tryz.prog 284 #[pt c,.string x] W0 ([(c,.cells (bsr [(9,.slice (some ⟨a9,0,none⟩) 4 c9),(10,.slice (some ⟨a10,0,none⟩) 5 c10)] (.slice aT 2 cT)) 248 (0,0))]::gT::g10::g9::H) (fun v H'=>v=.string y∧H'=[(c,.cells (bsr [(9,.slice (some ⟨a9,0,none⟩) 4 c9),(10,.slice (some ⟨a10,0,none⟩) 5 c10)] (.slice aT 2 cT)) 248 (0,0))]::gT::g10::g9::H)) (W0:World) (H:List Grp):Tri Tryz.prog 149 #[pt b,.string x] W0 ([(b,.cells #[.int .u32 0,.int .i32 0,.int .u32 0,.nilIface,.slice a 4 cap] 213 (0,0))]::g::H) (fun v H'=>v=.string y∧H'=H):=by
 refine D3 17 Tryz.func149 ?_
 refine A1 (C1 (E':=[⟨0,[],pt b⟩,⟨1,[],.string x⟩]) [0] [0,1] (k:=A0 (A1 (A2 (A3 (j:=5) [0,0,0,0,0] (k:=D9 Tryz.func171 (quoOnce b a cap g hr _ _) ?_))))))
 rintro _ _ ⟨_,_,⟨c,aT,cT,gT,a10,c10,g10,a9,c9,g9,rfl,hT,hR,rfl⟩,rfl⟩
 refine B1 (E':=[⟨0,[],pt b⟩,⟨1,[],.string x⟩]) [] [0,1] (k:=A0 (A1 (A2 (A3 (j:=3) [0,0,0] (k:=C6 0 3 rfl rfl (A3 (j:=5) [0] (k:=M9 0 [1,1,1,1] (R0 (t:=249) (rv:=pt c) (f:=284) (vs:=[.string x]) (av:=#[pt c,.string x]) (hm:=(fun _=>by kernel_rfl)) (hc:=hrep c aT cT gT a10 c10 g10 a9 c9 g9 _ _ hT hR) (k:=?_)))))))))
 rintro _ _ ⟨rfl,rfl⟩
 refine B1 (E':=[⟨4,[],.string y⟩]) [0] [4] (k:=A0 (B9 (G9 (H':=([(c,.cells (bsr [(9,.slice (some ⟨a9,0,none⟩) 4 c9),(10,.slice (some ⟨a10,0,none⟩) 5 c10)] (.slice aT 2 cT)) 248 (0,0))]::gT::g10::g9::[(b,.cells #[.int .u32 1,.int .i32 0,.int .u32 0,.iface 249 (pt c),.slice none 0 0] 213 (0,0))]::H)) (fun w h=>h.erase 5) (G9 (H':=([(c,.cells (bsr [(9,.slice (some ⟨a9,0,none⟩) 4 c9),(10,.slice (some ⟨a10,0,none⟩) 5 c10)] (.slice aT 2 cT)) 248 (0,0))]::gT::g10::g9::H)) (fun w h=>h.erase 4) (G9 (H':=([(c,.cells (bsr [(9,.slice (some ⟨a9,0,none⟩) 4 c9),(10,.slice (some ⟨a10,0,none⟩) 5 c10)] (.slice aT 2 cT)) 248 (0,0))]::gT::g10::H)) (fun w h=>h.erase 3) (G9 (H':=([(c,.cells (bsr [(9,.slice (some ⟨a9,0,none⟩) 4 c9),(10,.slice (some ⟨a10,0,none⟩) 5 c10)] (.slice aT 2 cT)) 248 (0,0))]::gT::H)) (fun w h=>h.erase 2) (G9 (H':=([(c,.cells (bsr [(9,.slice (some ⟨a9,0,none⟩) 4 c9),(10,.slice (some ⟨a10,0,none⟩) 5 c10)] (.slice aT 2 cT)) 248 (0,0))]::H)) (fun w h=>h.erase 1) (G9 (H':=H) (fun w h=>h.erase 0) ?_))))))))
 refine B6 [.tmp 4] [.string y] (k:=?_)
 exact ⟨rfl,rfl⟩
end Go.Proofs.YtppgfiklmfoaeaaGreatDoor
namespace Go.Esc
def D6 (b:UInt8):Option (List UInt8):=if b=10 then some [38,35,49,48,59] else if b=9 then some [38,35,57,59] else none
theorem quoR_count (l:List UInt8):((C2 D6 l).length:Int)=l.length+(l.count 9:Int) * 3+(l.count 10:Int) * 4:=by
  rw [outR_len]
  induction l with
  | nil=>rfl
  | cons b l ih =>
    simp only [List.map_cons,List.sum_cons,List.length_cons,List.count_cons]
    have hg:gainR D6 b=(if (b==9)=true then 3 else 0)+(if (b==10)=true then 4 else 0):=by
      unfold gainR D6
      by_cases h1:b=10
      · subst h1; rfl
      by_cases h2:b=9
      · subst h2; rfl
      simp [h1,h2]
    rw [hg]
    split <;> split <;> omega
theorem quoR_same (l:List UInt8) (h1:l.count 9=0) (h2:l.count 10=0):C2 D6 l=l:=by
  refine W3 _ _ fun b hb=>?_
  unfold D6
  rw [List.count_eq_zero] at h1 h2
  have n1:b≠9:=by rintro rfl; exact h1 hb
  have n2:b≠10:=by rintro rfl; exact h2 hb
  rw [if_neg n2,if_neg n1]
end Go.Esc
namespace Go.Proofs.YtppgfiklmfoaeaaGreatDoor
open Go.Sw Go.Esc
theorem tabQ_case (t a10 a9 c10 c9:_) (x:UInt8) :
    (∃ A L C u,(A,L,C,u)∈[(a10,5,c10,[38,35,49,48,59]),(a9,4,c9,[38,35,57,59])]∧D6 x=some u∧L=u.length ∧
      (bsr [(9,.slice (some ⟨a9,0,none⟩) 4 c9),(10,.slice (some ⟨a10,0,none⟩) 5 c10)] t)[x.toNat]? = some (.slice (some ⟨A,0,none⟩) L C)) ∨
    (D6 x=none∧(bsr [(9,.slice (some ⟨a9,0,none⟩) 4 c9),(10,.slice (some ⟨a10,0,none⟩) 5 c10)] t)[x.toNat]? = some (.slice none 0 0)):=by
  have hx:=x.toNat_lt
  unfold bsr
  rw [List.getElem?_toArray,List.getElem?_append_left (by simpa using hx),List.getElem?_map,List.getElem?_range hx]
  simp only [Option.map_some]
  by_cases h1:x=10
  · subst h1; exact .inl ⟨a10,5,c10,_,by simp,rfl,rfl,rfl⟩
  by_cases h2:x=9
  · subst h2; exact .inl ⟨a9,4,c9,_,by simp,rfl,rfl,rfl⟩
  refine .inr ⟨by simp [D6,h1,h2],?_⟩
  have n1:x.toNat≠10:=fun h=>h1 (UInt8.toNat_inj.1 h)
  have n2:x.toNat≠9:=fun h=>h2 (UInt8.toNat_inj.1 h)
  have e:∀ (k m:Nat),m≠k→(m==k)=false:=fun k m h=>beq_eq_false_iff_ne.2 h
  simp only [List.lookup,e _ _ n1,e _ _ n2,Option.getD_none]
end Go.Proofs.YtppgfiklmfoaeaaGreatDoor
namespace Go.Proofs.YtppgfiklmfoaeaaGreatDoor
open Go.Sw Go.Esc
theorem tab_rowQ {a10 c10 a9 c9:Nat} {g10 g9:Grp} (h:Rd (inG g10) (some ⟨a10,0,none⟩) (u8s (mB #[38,35,49,48,59]).data.toList)∧Rd (inG g9) (some ⟨a9,0,none⟩) (u8s (mB #[38,35,57,59]).data.toList)) {A L C:Nat} {u:List UInt8} (hm:(A,L,C,u)∈[(a10,5,c10,([38,35,49,48,59]:List UInt8)),(a9,4,c9,[38,35,57,59])]) (W0:World) (X Y Z:Grp) (H:List Grp) :
    ∃ Q,Rd Q (some ⟨A,0,none⟩) (u8s u)∧∀ y o,Q y o→At W0 (X::Y::Z::([g10,g9]++H)) y o:=by
  obtain ⟨h1,h2⟩:=h
  have at5:∀ g,g∈[g10,g9]→∀ y o,inG g y o→At W0 (X::Y::Z::([g10,g9]++H)) y o:=fun g hg y o h=>At.mem (List.mem_cons_of_mem _ (List.mem_cons_of_mem _ (List.mem_cons_of_mem _ (List.mem_append_left H hg)))) h
  simp only [List.mem_cons,List.not_mem_nil,or_false,Prod.mk.injEq] at hm
  rcases hm with ⟨rfl,rfl,rfl,rfl⟩ | ⟨rfl,rfl,rfl,rfl⟩
  · exact ⟨_,h1,at5 _ (by simp)⟩
  · exact ⟨_,h2,at5 _ (by simp)⟩
def anyRQ (l:List UInt8):Bool:=l.any fun b=>(D6 b).isSome
theorem anyR_snocQ (l:List UInt8) (b:UInt8):anyRQ (l++[b])=(anyRQ l||(D6 b).isSome):=by simp [anyRQ]
theorem Q4 (b:UInt8) {u:List UInt8} (h:D6 b=some u):C2 D6 [b]=u:=by simp [C2,h]
theorem O6 (b:UInt8) (h:D6 b=none):C2 D6 [b]=[b]:=by simp [C2,h]
theorem anyR_sameQ (l:List UInt8) (h:anyRQ l=false):C2 D6 l=l:=by
  refine W3 _ _ fun b hb=>?_
  unfold anyRQ at h
  rw [List.any_eq_false] at h
  have:=h b hb
  cases hr:D6 b with
  | none=>rfl
  | some u=>rw [hr] at this; exact absurd rfl this
theorem X8 (l:List UInt8) {i:Nat} (h:i<l.length):C2 D6 l=C2 D6 (l.take i)++(C2 D6 [l.getD i 0]++C2 D6 (l.drop (i+1))):=by
  rw [← K7,← K7,← List.append_assoc,← J1 l h,List.take_append_drop]
theorem u_posQ {b:UInt8} {u:List UInt8} (h:D6 b=some u):4≤u.length∧u.length≤6:=by
  unfold D6 at h
  (repeat' split at h) <;> first | (injection h with h; subst h; exact ⟨by decide,by decide⟩) | cases h
theorem outR_le6Q (l:List UInt8):l.length≤(C2 D6 l).length∧(C2 D6 l).length≤6 * l.length:=by
  induction l with
  | nil=>exact ⟨Nat.le_refl _,Nat.le_refl _⟩
  | cons b l ih =>
    rw [W4,List.length_append,List.length_cons]
    have:1≤((D6 b).getD [b]).length∧((D6 b).getD [b]).length≤6:=by
      cases h:D6 b with
      | none=>exact ⟨Nat.le_refl _,by show 1≤6; decide⟩
      | some u=>have:=u_posQ h; show 1≤u.length∧u.length≤6; omega
    omega
theorem count_9 (s:ByteArray) (W0:World) (H:List Grp):Tri Tryz.prog 204 #[.string s,.string (mB #[9])] W0 H (fun v H'=>v=.int .i64 (s.data.toList.count 9:Int)∧H'=H):=by
 refine D3 34 Tryz.func204 ?_
 refine A1 (G_p [0] [0,1] (k:=A0 (A1 (A1 (G_p [0,0,0] [0,1,9] (k:=A0 (C8 kr (A8 ?_))))))))
 refine A0 (A1 (A1 (G_p [0,0,0] [0,1,15] (k:=A0 (C4 kr (A1 (A2 (A3 (j:=2) [0,0] (k:=?_)))))))))
 refine H0 (mB #[9]) 0 (fun _=>by decide) (P5 (ch:=[]) (f:=223) (vs:=[.string s,.int .u8 9]) (v:=.int .i64 (s.data.toList.count 9:Int)) (e:=Extern.BytealgCount.count) (hf:=Tryz.func223) (hrun:=(fun w=>run_cnt s 9 w)) (k:=A7 [0] [4] (k:=A0 (B9 (A5 (B6 [.tmp 4] [.int .i64 (s.data.toList.count 9:Int)] (k:=?_)))))))
 exact ⟨rfl,rfl⟩
theorem count_10 (s:ByteArray) (W0:World) (H:List Grp):Tri Tryz.prog 204 #[.string s,.string (mB #[10])] W0 H (fun v H'=>v=.int .i64 (s.data.toList.count 10:Int)∧H'=H):=by
 refine D3 34 Tryz.func204 ?_
 refine A1 (G_p [0] [0,1] (k:=A0 (A1 (A1 (G_p [0,0,0] [0,1,9] (k:=A0 (C8 kr (A8 ?_))))))))
 refine A0 (A1 (A1 (G_p [0,0,0] [0,1,15] (k:=A0 (C4 kr (A1 (A2 (A3 (j:=2) [0,0] (k:=?_)))))))))
 refine H0 (mB #[10]) 0 (fun _=>by decide) (P5 (ch:=[]) (f:=223) (vs:=[.string s,.int .u8 10]) (v:=.int .i64 (s.data.toList.count 10:Int)) (e:=Extern.BytealgCount.count) (hf:=Tryz.func223) (hrun:=(fun w=>run_cnt s 10 w)) (k:=A7 [0] [4] (k:=A0 (B9 (A5 (B6 [.tmp 4] [.int .i64 (s.data.toList.count 10:Int)] (k:=?_)))))))
 exact ⟨rfl,rfl⟩
theorem tabReplaceQ_ (c c10 c9:Nat) (aT:Option Addr) (cT:Nat) (gT:Grp) (a10 a9:Nat) (g10 g9:Grp) (s:ByteArray) (hs:s.size≤2000000) (hT:Go.Sw.Own 9 1 (.slice aT 2 cT) gT 2 quoOlds) (hR:Rd (inG g10) (some ⟨a10,0,none⟩) (u8s (mB #[38,35,49,48,59]).data.toList)∧Rd (inG g9) (some ⟨a9,0,none⟩) (u8s (mB #[38,35,57,59]).data.toList)) (W0:World) (H:List Grp):Tri Tryz.prog 284 #[pt c,.string s] W0 ([(c,.cells (bsr [(9,.slice (some ⟨a9,0,none⟩) 4 c9),(10,.slice (some ⟨a10,0,none⟩) 5 c10)] (.slice aT 2 cT)) 248 (0,0))]::gT::g10::g9::H) (fun v H'=>v=.string ⟨(C2 D6 s.data.toList).toArray⟩∧H'=([(c,.cells (bsr [(9,.slice (some ⟨a9,0,none⟩) 4 c9),(10,.slice (some ⟨a10,0,none⟩) 5 c10)] (.slice aT 2 cT)) 248 (0,0))]::gT::g10::g9::H)):=by
 have hrT:Rd (inG gT) aT quoOlds:=by
  obtain ⟨a',c',he,_,hr⟩:=hT.shape
  injection he with h1 h2 h3; subst h1; exact hr
 have ho6:=outR_le6Q s.data.toList
 rw [show s.data.toList.length=s.size from Array.length_toList] at ho6
 have hlen:s.data.toList.length=s.size:=Array.length_toList
 have hcnt10:=List.count_le_length (a:=(10:UInt8)) (l:=s.data.toList)
 have hcnt9:=List.count_le_length (a:=(9:UInt8)) (l:=s.data.toList)
 refine D3 122 Tryz.func284 ?_
 refine A1 (C1 (E':=[⟨0,[],pt c⟩,⟨1,[],.string s⟩]) [0] [0,1] (k:=A0 (A1 (G_p [0,0,0] [0,1,5] (k:=A0 (A1 (G_p [0] [0,1,5,6] (k:=A0 ?_))))))))
 refine A1 (A1 (A2 (A3 (j:=3) [0,0,0] (k:=C5 (ch:=[]) (b:=c) (off:=256) (v:=.slice aT 2 cT) (hA:=At.grp 0 0 rfl rfl) (hv:=kr) (k:=A7 [0,0,0,0,0] [0,1,5,6,26] (k:=A0 (R9 (T:=Int × Bool) (fun ξ:Int × Bool=>[⟨0,[],pt c⟩,⟨1,[],.string s⟩,⟨5,[],.int .i64 ξ.1⟩,⟨6,[],.bool ξ.2⟩]) (fun ξ:Int × Bool=>([(c,.cells (bsr [(9,.slice (some ⟨a9,0,none⟩) 4 c9),(10,.slice (some ⟨a10,0,none⟩) 5 c10)] (.slice aT 2 cT)) 248 (0,0))]::gT::g10::g9::H)) (fun ξ:Int × Bool=>(ξ.1=((C2 D6 s.data.toList).length:Int))∧(ξ.2=false→(C2 D6 s.data.toList)=s.data.toList)) ?_ ?_)))))))
 ·
  refine B2 (b:=decide (16≤(s.size:Int))) kr (fun hc1=>?_) (fun hc1=>?_)
  ·
   try simp only [decide_eq_true_eq] at hc1
   refine A1 (A2 (A3 (j:=3) [0,0,0] (k:=C5 (ch:=[]) (b:=c) (off:=256) (v:=.slice aT 2 cT) (hA:=At.grp 0 0 rfl rfl) (hv:=kr) (k:=A7 [0,0] [0,1,5,6,30,31,32] (k:=A0 (B4 (M7 3 (E9 ?_))))))))
   refine A1 (G_p [0] [0,1,5,6,30,31,32,33] (k:=A0 (A1 (C4 kr (A8 (A0 (A1 (B4 ?_))))))))
   refine A1 (A2 (E6 2 0 1 hrT (by exact ⟨by decide,by decide,by intro h; cases h⟩) (H6 (0 * 1) (.string (mB #[9])) hrT (D7 1 rfl) (fun _=>rfl) (B1 (E':=[⟨0,[],pt c⟩,⟨1,[],.string s⟩,⟨5,[],.int .i64 (s.size:Int)⟩,⟨6,[],.bool false⟩,⟨8,[],.string (mB #[9])⟩,⟨30,[],.slice aT 2 cT⟩,⟨31,[],.int .i64 2⟩,⟨32,[],.int .i64 0⟩]) [0] [0,1,5,6,8,30,31,32] (k:=A0 (A1 (A2 (A3 (j:=2) [0,0] (k:=?_)))))))))
   refine K9 Tryz.func204 (count_9 s _ _) (A7 [0] [0,1,5,6,8,9,30,31,32] (k:=A0 (A1 (G_p [0,0] [0,1,5,6,8,9,30,31,32,40] (k:=A0 (R9 (T:=Int × Bool) (fun ξ:Int × Bool=>[⟨0,[],pt c⟩,⟨1,[],.string s⟩,⟨5,[],.int .i64 ξ.1⟩,⟨6,[],.bool ξ.2⟩,⟨30,[],.slice aT 2 cT⟩,⟨31,[],.int .i64 2⟩,⟨32,[],.int .i64 0⟩]) (fun ξ:Int × Bool=>([(c,.cells (bsr [(9,.slice (some ⟨a9,0,none⟩) 4 c9),(10,.slice (some ⟨a10,0,none⟩) 5 c10)] (.slice aT 2 cT)) 248 (0,0))]::gT::g10::g9::H)) (fun ξ:Int × Bool=>(ξ.1=(s.size:Int)+(s.data.toList.count 9:Int) * 3)∧(ξ.2=false→false=false∧s.data.toList.count 9=0)) ?_ ?_))))))
   ·
    refine B2 (b:=(s.data.toList.count 9:Int) != 0) kr (fun hc2=>?_) (fun hc2=>?_)
    ·
     try simp only [decide_eq_true_eq,decide_eq_false_iff_not] at hc2
     refine A1 (I1 (k:=A3 (j:=4) [0,0,0,0] (k:=H0 (mB #[9]) 0 (fun _=>by decide) (A3 (j:=7) [0,0] (k:=D8 (ch:=[]) (b:=c) (off:=0) (len:=256) (sz:=1) (e:=22) (kd:=.u8) (j:=9) (hb:=(fun _=>⟨by decide,by decide⟩)) (k:=C5 (ch:=[]) (b:=c) (off:=9) (v:=.slice (some ⟨a9,0,none⟩) 4 c9) (hA:=At.grp 0 0 rfl rfl) (hv:=kr) (k:=A3 (j:=12) [0,0,0] (k:=D1 52 ((s.data.toList.count 9:Int) * 3) (by omega) (by omega) kr ?_))))))))
     refine A3 (j:=13) [0] (k:=D1 53 ((s.size:Int)+((s.data.toList.count 9:Int) * 3)) (by omega) (by omega) kr (A7 [0] [0,1,5,30,31,32] (k:=A0 (G_p [0] [0,1,5,6,30,31,32] (k:=G5 ((s.size:Int)+((s.data.toList.count 9:Int) * 3),true) [0,1,5,6,30,31,32] kr (fun w h=>h) ⟨(by first | rfl | (simp only [bne_eq_false_iff_eq] at *; omega)),(by intro h; dsimp only at h; first | exact Bool.noConfusion h | (simp only [bne_eq_false_iff_eq] at *; exact ⟨h,by omega⟩))⟩)))))
    ·
     try simp only [decide_eq_true_eq,decide_eq_false_iff_not] at hc2
     refine A8 (G5 ((s.size:Int),false) [0,1,5,6,30,31,32] kr (fun w h=>h) ⟨(by first | rfl | (simp only [bne_eq_false_iff_eq] at *; omega)),(by intro h; dsimp only at h; first | exact Bool.noConfusion h | (simp only [bne_eq_false_iff_eq] at *; exact ⟨h,by omega⟩))⟩)
   ·
    rintro ⟨n1,b1⟩ ⟨hn1,hb1⟩
    refine B7 (A0 (G_p [0,0] [0,1,5,6,30,31,32] (k:=N_rd (E9 (A1 (G_p [0] [0,1,5,6,30,31,32,33] (k:=A0 (A1 ?_))))))))
    refine C4 kr (A8 (A0 (A1 (B4 (A1 (A2 (E6 2 1 1 hrT (by exact ⟨by decide,by decide,by intro h; cases h⟩) (H6 (1 * 1) (.string (mB #[10])) hrT (D7 1 rfl) (fun _=>rfl) ?_))))))))
    refine A7 [0] [0,1,5,6,8,30,31,32] (k:=A0 (A1 (A2 (A3 (j:=2) [0,0] (k:=K9 Tryz.func204 (count_10 s _ _) (A7 [0] [0,1,5,6,8,9,30,31,32] (k:=A0 (A1 ?_))))))))
    refine G_p [0,0] [0,1,5,6,8,9,30,31,32,40] (k:=A0 (R9 (T:=Int × Bool) (fun ξ:Int × Bool=>[⟨0,[],pt c⟩,⟨1,[],.string s⟩,⟨5,[],.int .i64 ξ.1⟩,⟨6,[],.bool ξ.2⟩,⟨30,[],.slice aT 2 cT⟩,⟨31,[],.int .i64 2⟩,⟨32,[],.int .i64 1⟩]) (fun ξ:Int × Bool=>([(c,.cells (bsr [(9,.slice (some ⟨a9,0,none⟩) 4 c9),(10,.slice (some ⟨a10,0,none⟩) 5 c10)] (.slice aT 2 cT)) 248 (0,0))]::gT::g10::g9::H)) (fun ξ:Int × Bool=>(ξ.1=n1+(s.data.toList.count 10:Int) * 4)∧(ξ.2=false→b1=false∧s.data.toList.count 10=0)) ?_ ?_))
    ·
     refine B2 (b:=(s.data.toList.count 10:Int) != 0) kr (fun hc5=>?_) (fun hc5=>?_)
     ·
      try simp only [decide_eq_true_eq,decide_eq_false_iff_not] at hc5
      refine A1 (I1 (k:=A3 (j:=4) [0,0,0,0] (k:=H0 (mB #[10]) 0 (fun _=>by decide) (A3 (j:=7) [0,0] (k:=D8 (ch:=[]) (b:=c) (off:=0) (len:=256) (sz:=1) (e:=22) (kd:=.u8) (j:=10) (hb:=(fun _=>⟨by decide,by decide⟩)) (k:=C5 (ch:=[]) (b:=c) (off:=10) (v:=.slice (some ⟨a10,0,none⟩) 5 c10) (hA:=At.grp 0 0 rfl rfl) (hv:=kr) (k:=A3 (j:=12) [0,0,0] (k:=D1 52 ((s.data.toList.count 10:Int) * 4) (by omega) (by omega) kr ?_))))))))
      refine A3 (j:=13) [0] (k:=D1 53 (n1+((s.data.toList.count 10:Int) * 4)) (by omega) (by omega) kr (B1 (E':=[⟨0,[],pt c⟩,⟨1,[],.string s⟩,⟨5,[],.int .i64 (n1+((s.data.toList.count 10:Int) * 4))⟩,⟨30,[],.slice aT 2 cT⟩,⟨31,[],.int .i64 2⟩,⟨32,[],.int .i64 1⟩]) [0] [0,1,5,30,31,32] (k:=A0 (G_p [0] [0,1,5,6,30,31,32] (k:=G5 (n1+((s.data.toList.count 10:Int) * 4),true) [0,1,5,6,30,31,32] kr (fun w h=>h) ⟨(by first | rfl | (simp only [bne_eq_false_iff_eq] at *; omega)),(by intro h; dsimp only at h; first | exact Bool.noConfusion h | (simp only [bne_eq_false_iff_eq] at *; exact ⟨h,by omega⟩))⟩)))))
     ·
      try simp only [decide_eq_true_eq,decide_eq_false_iff_not] at hc5
      refine A8 (G5 (n1,b1) [0,1,5,6,30,31,32] kr (fun w h=>h) ⟨(by first | rfl | (simp only [bne_eq_false_iff_eq] at *; omega)),(by intro h; dsimp only at h; first | exact Bool.noConfusion h | (simp only [bne_eq_false_iff_eq] at *; exact ⟨h,by omega⟩))⟩)
    ·
     rintro ⟨n2,b2⟩ ⟨hn2,hb2⟩
     refine B7 (A0 (G_p [0,0] [0,1,5,6,30,31,32] (k:=N_rd (E9 (A1 (G_p [0] [0,1,5,6,30,31,32,33] (k:=A0 (A1 ?_))))))))
     refine C8 kr (E8 (A6 (A6 (B5 (G5 (n2,b2) [0,1,5,6] kr (fun w h=>h) ⟨(by rw [quoR_count,show s.data.toList.length=s.size from Array.length_toList]; omega),(by intro h; obtain ⟨h1,h2⟩:=hb2 h; obtain ⟨_,h4⟩:=hb1 h1; exact quoR_same _ h4 h2)⟩)))))
  ·
   try simp only [decide_eq_false_iff_not] at hc1
   refine A1 (G_p [0] [0,1,5,6,10] (k:=A0 (B4 (J7 (EI:=(fun ξ:Nat × Int × Bool=>[⟨0,[],pt c⟩,⟨1,[],.string s⟩,⟨5,[],.int .i64 ξ.2.1⟩,⟨6,[],.bool ξ.2.2⟩,⟨10,[],.int .i64 (ξ.1:Int)⟩])) (HI:=(fun ξ:Nat × Int × Bool=>([(c,.cells (bsr [(9,.slice (some ⟨a9,0,none⟩) 4 c9),(10,.slice (some ⟨a10,0,none⟩) 5 c10)] (.slice aT 2 cT)) 248 (0,0))]::gT::g10::g9::H))) (Φ:=(fun ξ:Nat × Int × Bool=>(ξ.1≤s.size)∧(ξ.2.1=((C2 D6 (s.data.toList.take ξ.1)).length:Int)+s.size - ξ.1)∧(ξ.2.2=anyRQ (s.data.toList.take ξ.1)))) (μ:=(fun ξ:Nat × Int × Bool=>s.size - ξ.1)) (s0:=(0,(s.size:Int),false)) [0,1,5,6,10] kr rfl ⟨(by omega),(by dsimp only; simp [outR_nil]),rfl⟩ ?_))))
   rintro ⟨i,ns,ac⟩ ⟨hi,hns,hac⟩
   dsimp only at hi hns hac
   have hto:=outR_le6Q (s.data.toList.take i)
   rw [List.length_take,hlen,Nat.min_eq_left hi] at hto
   refine A1 (A1 (G_p [0,0,0,0] [0,1,5,6,10,58] (k:=A0 (B2 (b:=decide ((i:Int)<(s.size:Int))) kr (fun hc8=>?_) (fun hc8=>?_)))))
   ·
    try simp only [decide_eq_true_eq] at hc8
    refine A8 (A0 (A1 (B4 (A1 (A2 (A3 (j:=2) [0,0] (k:=H0 s (i:Int) (fun _=>by omega) ?_)))))))
    have hb9:=F3 s (i:Int)
    refine A7 [0] [0,1,5,6,10,11] (k:=A0 (A1 (A2 (A3 (j:=4) [0,0,0,0] (k:=D8 (ch:=[]) (b:=c) (off:=0) (len:=256) (sz:=1) (e:=22) (kd:=.u8) (j:=A9 s (i:Int)) (hb:=(fun _=>by have hbx:=F3 s (i:Int); exact ⟨by omega,by omega⟩)) (k:=?_))))))
    rcases tabQ_case (.slice aT 2 cT) a10 a9 c10 c9 (s.data.toList.getD i 0) with ⟨A,L,C,u,hmem,hu,hL,hcell⟩ | ⟨hu,hcell⟩
    ·
     have hu4:=u_posQ hu
     have hsp:=congrArg List.length (X8 s.data.toList (show i<s.data.toList.length by omega))
     rw [Q4 _ hu] at hsp
     simp only [List.length_append] at hsp
     refine C5 (ch:=[]) (b:=c) (off:=0+Int.toNat (A9 s (i:Int)) * 1) (v:=.slice (some ⟨A,0,none⟩) L C) (hA:=At.grp 0 0 rfl rfl) (hv:=(by rw [R5]; exact hcell)) (k:=A7 [0] [0,1,5,6,10,11,70] (k:=A0 (C4 kr (A1 (A2 (A3 (j:=5) [0,0,0,0,0] (k:=D8 (ch:=[]) (b:=c) (off:=0) (len:=256) (sz:=1) (e:=22) (kd:=.u8) (j:=A9 s (i:Int)) (hb:=(fun _=>by have hbx:=F3 s (i:Int); exact ⟨by omega,by omega⟩)) (k:=C5 (ch:=[]) (b:=c) (off:=0+Int.toNat (A9 s (i:Int)) * 1) (v:=.slice (some ⟨A,0,none⟩) L C) (hA:=At.grp 0 0 rfl rfl) (hv:=(by rw [R5]; exact hcell)) (k:=?_)))))))))
     refine A3 (j:=9) [0,0] (k:=D1 79 (((L:Nat):Int) - 1) (by omega) (by omega) kr (A3 (j:=10) [0] (k:=D1 80 (ns+(((L:Nat):Int) - 1)) (by omega) (by omega) kr (A7 [0] [0,1,5,10] (k:=A0 (G_p [0] [0,1,5,6,10] (k:=B7 (A0 ?_))))))))
     refine A2 (A3 (j:=2) [0,0] (k:=D1 60 ((i:Int)+1) (by omega) (by omega) kr (B1 (E':=[⟨0,[],pt c⟩,⟨1,[],.string s⟩,⟨5,[],.int .i64 (ns+(((L:Nat):Int) - 1))⟩,⟨6,[],.bool true⟩,⟨10,[],.int .i64 ((i:Int)+1)⟩]) [0] [0,1,5,6,10] (k:=D2 (s':=(i+1,ns+(((L:Nat):Int) - 1),true)) [0,1,5,6,10] kr rfl ⟨(by omega),(by dsimp only; rw [J1 _ (show i<s.data.toList.length by omega),K7,List.length_append]; first | (rw [Q4 _ hu]; omega) | (rw [O6 _ hu]; simp only [List.length_cons,List.length_nil]; omega)),(by dsimp only; rw [J1 _ (show i<s.data.toList.length by omega),anyR_snocQ,hu]; simp [])⟩ (by omega)))))
    ·
     have hsp:=congrArg List.length (X8 s.data.toList (show i<s.data.toList.length by omega))
     rw [O6 _ hu] at hsp
     simp only [List.length_append,List.length_cons,List.length_nil] at hsp
     refine C5 (ch:=[]) (b:=c) (off:=0+Int.toNat (A9 s (i:Int)) * 1) (v:=.slice none 0 0) (hA:=At.grp 0 0 rfl rfl) (hv:=(by rw [R5]; exact hcell)) (k:=A7 [0] [0,1,5,6,10,11,70] (k:=A0 (C8 kr (A8 (B7 (A0 (A2 (A3 (j:=2) [0,0] (k:=?_)))))))))
     refine D1 60 ((i:Int)+1) (by omega) (by omega) kr (A7 [0] [0,1,5,6,10] (k:=D2 (s':=(i+1,ns,ac)) [0,1,5,6,10] kr rfl ⟨(by omega),(by dsimp only; rw [J1 _ (show i<s.data.toList.length by omega),K7,List.length_append]; first | (rw [Q4 _ hu]; omega) | (rw [O6 _ hu]; simp only [List.length_cons,List.length_nil]; omega)),(by dsimp only; rw [J1 _ (show i<s.data.toList.length by omega),anyR_snocQ,hu]; simp [hac])⟩ (by omega)))
   ·
    try simp only [decide_eq_false_iff_not] at hc8
    refine E8 (A6 (A6 (B5 (G5 (ns,ac) [0,1,5,6] kr (fun w h=>h) ⟨(by rw [show i=s.data.toList.length by rw [show s.data.toList.length=s.size from Array.length_toList]; omega] at hns; rw [List.take_length] at hns; omega),(by intro h; rw [show i=s.data.toList.length by rw [show s.data.toList.length=s.size from Array.length_toList]; omega] at hac; rw [List.take_length] at hac; exact anyR_sameQ _ (by rw [← hac]; exact h))⟩))))
 ·
  rintro ⟨ns,ac⟩ ⟨hN,hA⟩
  dsimp only at hN hA
  refine M0 (E':=[⟨0,[],pt c⟩,⟨1,[],.string s⟩,⟨5,[],.int .i64 ((C2 D6 s.data.toList).length:Int)⟩,⟨6,[],.bool ac⟩]) (by dsimp only; rw [hN]) (A0 (A1 (A1 (G_p [0,0] [0,1,5,82] (k:=A0 (B2 (b:=!ac) kr (fun hc14=>?_) (fun hc14=>?_)))))))
  ·
   try simp only [decide_eq_true_eq,decide_eq_false_iff_not] at hc14
   refine A1 (C1 (E':=[⟨4,[],.string s⟩]) [0,0] [4] (k:=A0 (B9 (A5 (B6 [.tmp 4] [.string s] (k:=?_))))))
   exact ⟨congrArg Value.string (by rw [hA (by first | assumption | simp_all)]),rfl⟩
  ·
   try simp only [decide_eq_true_eq,decide_eq_false_iff_not] at hc14
   refine A8 (A0 (A1 (A2 (A3 (j:=1) [0] (k:=GL_makeS (ch:=[]) (t:=22) (e:=5) (inf:=Tryz.t5) (l:=(C2 D6 s.data.toList).length) (c:=(R2 [] (C2 D6 s.data.toList).length).toList) (hz:=rfl) (hb:=(by show (1:Int) * _≤_; omega)) (hl:=(by omega)) (hm:=(by show (C2 D6 s.data.toList).length * 1≤16777216; omega)) (hc:=(by rw [Array.toArray_toList]; exact madeZ _)) (k:=(fun B=>A7 [0] [0,1,12] (k:=A0 (A1 ?_)))))))))
   refine G_p [0] [0,1,12,13] (k:=A0 (A1 (A1 (G_p [0] [0,1,12,13,14] (k:=A0 (B4 (T5 (H':=([(B,.cells (R2 [] ((C2 D6 s.data.toList).length)) 5 (0,0))]::[(c,.cells (bsr [(9,.slice (some ⟨a9,0,none⟩) 4 c9),(10,.slice (some ⟨a10,0,none⟩) 5 c10)] (.slice aT 2 cT)) 248 (0,0))]::gT::g10::g9::H)) (fun w h=>by rw [Array.toArray_toList] at h; exact h) (J7 (EI:=(fun ξ:Nat × Nat=>[⟨0,[],pt c⟩,⟨1,[],.string s⟩,⟨12,[],.slice (some ⟨B,0,none⟩) ((C2 D6 s.data.toList).length) ((C2 D6 s.data.toList).length)⟩,⟨13,[],.int .i64 ((C2 D6 (s.data.toList.take ξ.1)).length:Int)⟩,⟨14,[],.int .i64 (ξ.1:Int)⟩])) (HI:=(fun ξ:Nat × Nat=>([(B,.cells (R2 (C2 D6 (s.data.toList.take ξ.1)) (ξ.2)) 5 (0,0))]::[(c,.cells (bsr [(9,.slice (some ⟨a9,0,none⟩) 4 c9),(10,.slice (some ⟨a10,0,none⟩) 5 c10)] (.slice aT 2 cT)) 248 (0,0))]::gT::g10::g9::H))) (Φ:=(fun ξ:Nat × Nat=>(ξ.1≤s.size)∧(ξ.2+(C2 D6 (s.data.toList.take ξ.1)).length=(C2 D6 s.data.toList).length))) (μ:=(fun ξ:Nat × Nat=>s.size - ξ.1)) (s0:=(0,(C2 D6 s.data.toList).length)) [0,1,12,13,14] kr rfl ⟨(by omega),(by simp [outR_nil])⟩ ?_))))))))
   rintro ⟨i,k⟩ ⟨hi,hk⟩
   dsimp only at hi hk
   have hto:=outR_le6Q (s.data.toList.take i)
   rw [List.length_take,hlen,Nat.min_eq_left hi] at hto
   have hto2:=outR_le6Q (s.data.toList.drop (i+1))
   refine A1 (A1 (G_p [0,0,0,0] [0,1,12,13,14,89] (k:=A0 (B2 (b:=decide ((i:Int)<(s.size:Int))) kr (fun hc15=>?_) (fun hc15=>?_)))))
   ·
    try simp only [decide_eq_true_eq] at hc15
    refine A8 (A0 (A1 (B4 (A1 (A2 (A3 (j:=2) [0,0] (k:=H0 s (i:Int) (fun _=>by omega) ?_)))))))
    have hb16:=F3 s (i:Int)
    refine A7 [0] [0,1,12,13,14,15] (k:=A0 (A1 (A2 (A3 (j:=4) [0,0,0,0] (k:=D8 (ch:=[]) (b:=c) (off:=0) (len:=256) (sz:=1) (e:=22) (kd:=.u8) (j:=A9 s (i:Int)) (hb:=(fun _=>by have hbx:=F3 s (i:Int); exact ⟨by omega,by omega⟩)) (k:=?_))))))
    rcases tabQ_case (.slice aT 2 cT) a10 a9 c10 c9 (s.data.toList.getD i 0) with ⟨A,L,C,u,hmem,hu,hL,hcell⟩ | ⟨hu,hcell⟩
    ·
     have hu4:=u_posQ hu
     have hsp:=congrArg List.length (X8 s.data.toList (show i<s.data.toList.length by omega))
     rw [Q4 _ hu] at hsp
     simp only [List.length_append] at hsp
     refine C5 (ch:=[]) (b:=c) (off:=0+Int.toNat (A9 s (i:Int)) * 1) (v:=.slice (some ⟨A,0,none⟩) L C) (hA:=At.grp 1 0 rfl rfl) (hv:=(by rw [R5]; exact hcell)) (k:=A7 [0] [0,1,12,13,14,15,101] (k:=A0 (C4 kr (H5 ([(c,.cells (bsr [(9,.slice (some ⟨a9,0,none⟩) 4 c9),(10,.slice (some ⟨a10,0,none⟩) 5 c10)] (.slice aT 2 cT)) 248 (0,0))]::gT::g10::g9::H) kr (G0 (fuel:=10) [(0,0),(1,0),(2,0)] (fun w h=>(h.pk 1 [1,1,1,1])) (k:=F5 (E':=[⟨105,[],.slice (cutA (some ⟨B,0,none⟩) ((C2 D6 s.data.toList).length) (Int.toNat ((C2 D6 (s.data.toList.take i)).length:Int)) 1) ((Int.toNat (((C2 D6 s.data.toList).length:Nat):Int)) - (Int.toNat ((C2 D6 (s.data.toList.take i)).length:Int))) ((C2 D6 s.data.toList).length - (Int.toNat ((C2 D6 (s.data.toList.take i)).length:Int)))⟩,⟨104,[],.int .i64 ((C2 D6 (s.data.toList.take i)).length:Int)⟩,⟨103,[],.slice (some ⟨B,0,none⟩) ((C2 D6 s.data.toList).length) ((C2 D6 s.data.toList).length)⟩,⟨102,[],.int .i64 ((C2 D6 (s.data.toList.take i)).length:Int)⟩,⟨0,[],pt c⟩,⟨1,[],.string s⟩,⟨12,[],.slice (some ⟨B,0,none⟩) ((C2 D6 s.data.toList).length) ((C2 D6 s.data.toList).length)⟩,⟨13,[],.int .i64 ((C2 D6 (s.data.toList.take i)).length:Int)⟩,⟨14,[],.int .i64 (i:Int)⟩,⟨15,[],.int .u8 (A9 s (i:Int))⟩,⟨101,[],.bool true⟩]) 3 kr (fun w h=>(h.pk 1 [1,1,1,1])) ?_ ?_))))))
     ·
      exact GL_sliceL (ch:=[]) (a:=(some ⟨B,0,none⟩)) (len:=(C2 D6 s.data.toList).length) (cap:=(C2 D6 s.data.toList).length) (e:=5) (sz:=1) (vl:=(some (.int .i64 ((C2 D6 (s.data.toList.take i)).length:Int)))) (vh:=none) (l:=((C2 D6 (s.data.toList.take i)).length:Int)) (h:=(((C2 D6 s.data.toList).length:Nat):Int)) (hb:=(fun _=>by omega)) (k:=G2)
     refine GH_env (E':=[⟨105,[],.slice (some ⟨B,(C2 D6 (s.data.toList.take i)).length,none⟩) ((C2 D6 s.data.toList).length - (C2 D6 (s.data.toList.take i)).length) ((C2 D6 s.data.toList).length - (C2 D6 (s.data.toList.take i)).length)⟩,⟨104,[],.int .i64 ((C2 D6 (s.data.toList.take i)).length:Int)⟩,⟨103,[],.slice (some ⟨B,0,none⟩) ((C2 D6 s.data.toList).length) ((C2 D6 s.data.toList).length)⟩,⟨102,[],.int .i64 ((C2 D6 (s.data.toList.take i)).length:Int)⟩,⟨0,[],pt c⟩,⟨1,[],.string s⟩,⟨12,[],.slice (some ⟨B,0,none⟩) ((C2 D6 s.data.toList).length) ((C2 D6 s.data.toList).length)⟩,⟨13,[],.int .i64 ((C2 D6 (s.data.toList.take i)).length:Int)⟩,⟨14,[],.int .i64 (i:Int)⟩,⟨15,[],.int .u8 (A9 s (i:Int))⟩,⟨101,[],.bool true⟩]) (by rw [Int.toNat_natCast,Int.toNat_natCast,cut_some (by omega)]) (G0 (fuel:=7) [(4,0),(5,0)] (fun w h=>(h.pk 1 [1,1,1,1])) (k:=K3 (ad:=⟨c,0,none⟩) 6 (hL:=(fun w h=>(h.pk 1 [1,1,1,1]))) (k:=G0 (fuel:=5) [(7,0)] (fun w h=>(h.pk 1 [1,1,1,1])) (k:=F5 8 (hL:=(fun w h=>(h.pk 1 [1,1,1,1]))) (hy:=D8 (i:=8) (ch:=[]) (b:=c) (off:=0) (len:=256) (sz:=1) (e:=22) (kd:=.u8) (j:=A9 s (i:Int)) (hb:=(fun _=>by have hbx:=F3 s (i:Int); exact ⟨by omega,by omega⟩)) (k:=G2 kr rfl)) (k:=F5 9 kr (fun w h=>(h.pk 1 [1,1,1,1])) (C5 (i:=9) (ch:=[]) (b:=c) (off:=0+Int.toNat (A9 s (i:Int)) * 1) (v:=.slice (some ⟨A,0,none⟩) L C) rfl rfl kr kr kr kr kr (At.grp 0 0 rfl rfl) (by rw [R5]; exact hcell) (G2 kr rfl)) (D4 10 (k:=?_)))))))
     obtain ⟨Q,hrd,hQ⟩:=tab_rowQ hR hmem W0 [(B,.cells (R2 (C2 D6 (s.data.toList.take i)) (k)) 5 (0,0))] [(c,.cells (bsr [(9,.slice (some ⟨a9,0,none⟩) 4 c9),(10,.slice (some ⟨a10,0,none⟩) 5 c10)] (.slice aT 2 cT)) 248 (0,0))] gT H
     refine GL_copy (i:=10) (ch:=[]) (dT:=22) (sT:=22) (el:=5) (b:=B) (o1:=(C2 D6 (s.data.toList.take i)).length) (n1:=((C2 D6 s.data.toList).length - (C2 D6 (s.data.toList.take i)).length)) (c1:=((C2 D6 s.data.toList).length - (C2 D6 (s.data.toList.take i)).length)) (a:=⟨A,0,none⟩) (n2:=L) (c2:=C) (c:=R2 (C2 D6 (s.data.toList.take i)) k) (c':=R2 (C2 D6 (s.data.toList.take i)++u) (k - u.length)) (j:=0) (m:=0) (H':=([(B,.cells (R2 (C2 D6 (s.data.toList.take i)++u) (k - u.length)) 5 (0,0))]::[(c,.cells (bsr [(9,.slice (some ⟨a9,0,none⟩) 4 c9),(10,.slice (some ⟨a10,0,none⟩) 5 c10)] (.slice aT 2 cT)) 248 (0,0))]::gT::g10::g9::H)) (u8s u) rfl rfl kr kr kr kr kr kr kr rfl rfl (by rw [show (u8s u).length=u.length from List.length_map _,hL]; exact (Nat.min_eq_left (by omega)).symm) (rd_cell hrd hQ) (by rw [T0,show (u8s u).length=u.length from List.length_map _]; omega) (u8s_one u) (rowZ_copy _ _ _ (by omega)) kr ?_
     have hul:(u8s u).length=u.length:=List.length_map _
     refine B3 kr (fun w h=>(h.pk 1 [1,1,1,1])) (G0 (fuel:=1) [(11,0)] (fun w h=>(h.pk 1 [1,1,1,1])) (k:=GH_wi 113 (((C2 D6 (s.data.toList.take i)).length:Int)+((u8s u).length:Int)) (by omega) (by omega) kr (G0 (fuel:=0) [(12,0)] (fun w h=>(h.pk 1 [1,1,1,1])) (k:=F8 (E':=[⟨0,[],pt c⟩,⟨1,[],.string s⟩,⟨12,[],.slice (some ⟨B,0,none⟩) ((C2 D6 s.data.toList).length) ((C2 D6 s.data.toList).length)⟩,⟨13,[],.int .i64 (((C2 D6 (s.data.toList.take i)).length:Int)+((u8s u).length:Int))⟩,⟨14,[],.int .i64 (i:Int)⟩]) [0,1,12,13,14] (k:=B7 (A0 (A2 (A3 (j:=2) [0,0] (k:=?_)))))))))
     refine D1 91 ((i:Int)+1) (by omega) (by omega) kr (A7 [0] [0,1,12,13,14] (k:=?_))
     have hj2:((C2 D6 (s.data.toList.take i)).length:Int)+((u8s u).length:Int)=((C2 D6 (s.data.toList.take (i+1))).length:Int):=by rw [J1 _ (show i<s.data.toList.length by omega),K7,List.length_append]; first | (rw [Q4 _ hu,show (u8s u).length=u.length from List.length_map _]; omega) | (rw [O6 _ hu]; simp only [List.length_cons,List.length_nil]; omega)
     refine M0 (E':=[⟨0,[],pt c⟩,⟨1,[],.string s⟩,⟨12,[],.slice (some ⟨B,0,none⟩) ((C2 D6 s.data.toList).length) ((C2 D6 s.data.toList).length)⟩,⟨13,[],.int .i64 (((C2 D6 (s.data.toList.take i)).length:Int)+((u8s u).length:Int))⟩,⟨14,[],.int .i64 ((i:Int)+1)⟩]) kr (M0 (E':=[⟨0,[],pt c⟩,⟨1,[],.string s⟩,⟨12,[],.slice (some ⟨B,0,none⟩) ((C2 D6 s.data.toList).length) ((C2 D6 s.data.toList).length)⟩,⟨13,[],.int .i64 ((C2 D6 (s.data.toList.take (i+1))).length:Int)⟩,⟨14,[],.int .i64 ((i:Int)+1)⟩]) (by rw [hj2]) ?_)
     have hl2:(C2 D6 (s.data.toList.take i)++u)=C2 D6 (s.data.toList.take (i+1)):=by rw [J1 _ (show i<s.data.toList.length by omega),K7]; first | rw [Q4 _ hu] | rw [O6 _ hu]
     refine X0 (H':=([(B,.cells (R2 (C2 D6 (s.data.toList.take (i+1))) (k - u.length)) 5 (0,0))]::[(c,.cells (bsr [(9,.slice (some ⟨a9,0,none⟩) 4 c9),(10,.slice (some ⟨a10,0,none⟩) 5 c10)] (.slice aT 2 cT)) 248 (0,0))]::gT::g10::g9::H)) (by rw [hl2]) (D2 (s':=(i+1,k - u.length)) [0,1,12,13,14] kr rfl ⟨(by omega),(by dsimp only; rw [← hl2,List.length_append]; first | omega | (simp only [List.length_cons,List.length_nil]; omega))⟩ (by omega))
    ·
     have hsp:=congrArg List.length (X8 s.data.toList (show i<s.data.toList.length by omega))
     rw [O6 _ hu] at hsp
     simp only [List.length_append,List.length_cons,List.length_nil] at hsp
     refine C5 (ch:=[]) (b:=c) (off:=0+Int.toNat (A9 s (i:Int)) * 1) (v:=.slice none 0 0) (hA:=At.grp 1 0 rfl rfl) (hv:=(by rw [R5]; exact hcell)) (k:=A7 [0] [0,1,12,13,14,15,101] (k:=A0 (C8 kr (A1 (A2 (A3 (j:=3) [0,0,0] (k:=J0 (ch:=[]) (a:=(some ⟨B,0,none⟩)) (len:=(C2 D6 s.data.toList).length) (cap:=(C2 D6 s.data.toList).length) (kd:=.i64) (j:=((C2 D6 (s.data.toList.take i)).length:Int)) (e:=5) (sz:=1) (S:=inG [(B,.cells (R2 (C2 D6 (s.data.toList.take i)) (k)) 5 (0,0))]) (cs:=(R2 (C2 D6 (s.data.toList.take i)) k).toList) (hrd:=row_rd _ _) (hb:=(fun _=>⟨by omega,by omega,by intro h; have:=congrArg List.length h; rw [Array.length_toList,T0] at this; simp only [List.length_nil] at this; omega⟩)) (k:=GL_env (E':=[⟨117,[],.pointer (some ⟨B,0+Int.toNat ((C2 D6 (s.data.toList.take i)).length:Int) * 1,none⟩)⟩,⟨116,[],.int .u8 (A9 s (i:Int))⟩,⟨115,[],.int .i64 ((C2 D6 (s.data.toList.take i)).length:Int)⟩,⟨114,[],.slice (some ⟨B,0,none⟩) ((C2 D6 s.data.toList).length) ((C2 D6 s.data.toList).length)⟩,⟨0,[],pt c⟩,⟨1,[],.string s⟩,⟨12,[],.slice (some ⟨B,0,none⟩) ((C2 D6 s.data.toList).length) ((C2 D6 s.data.toList).length)⟩,⟨13,[],.int .i64 ((C2 D6 (s.data.toList.take i)).length:Int)⟩,⟨14,[],.int .i64 (i:Int)⟩,⟨15,[],.int .u8 (A9 s (i:Int))⟩,⟨101,[],.bool false⟩]) (by have hz:([⟨117,[],.pointer (some (eltA (some ⟨B,0,none⟩) (Int.toNat ((C2 D6 (s.data.toList.take i)).length:Int) * 1)))⟩,⟨116,[],.int .u8 (A9 s (i:Int))⟩,⟨115,[],.int .i64 ((C2 D6 (s.data.toList.take i)).length:Int)⟩,⟨114,[],.slice (some ⟨B,0,none⟩) ((C2 D6 s.data.toList).length) ((C2 D6 s.data.toList).length)⟩,⟨0,[],pt c⟩,⟨1,[],.string s⟩,⟨12,[],.slice (some ⟨B,0,none⟩) ((C2 D6 s.data.toList).length) ((C2 D6 s.data.toList).length)⟩,⟨13,[],.int .i64 ((C2 D6 (s.data.toList.take i)).length:Int)⟩,⟨14,[],.int .i64 (i:Int)⟩,⟨15,[],.int .u8 (A9 s (i:Int))⟩,⟨101,[],.bool false⟩]:List Sl)=[⟨117,[],.pointer (some ⟨B,0+Int.toNat ((C2 D6 (s.data.toList.take i)).length:Int) * 1,none⟩)⟩,⟨116,[],.int .u8 (A9 s (i:Int))⟩,⟨115,[],.int .i64 ((C2 D6 (s.data.toList.take i)).length:Int)⟩,⟨114,[],.slice (some ⟨B,0,none⟩) ((C2 D6 s.data.toList).length) ((C2 D6 s.data.toList).length)⟩,⟨0,[],pt c⟩,⟨1,[],.string s⟩,⟨12,[],.slice (some ⟨B,0,none⟩) ((C2 D6 s.data.toList).length) ((C2 D6 s.data.toList).length)⟩,⟨13,[],.int .i64 ((C2 D6 (s.data.toList.take i)).length:Int)⟩,⟨14,[],.int .i64 (i:Int)⟩,⟨15,[],.int .u8 (A9 s (i:Int))⟩,⟨101,[],.bool false⟩]:=(by rw [show Go.Sw.eltA (some ⟨B,0,none⟩) (Int.toNat ((C2 D6 (s.data.toList.take i)).length:Int) * 1)=⟨B,0+Int.toNat ((C2 D6 (s.data.toList.take i)).length:Int) * 1,none⟩ from N2 _ _ _]); exact Eq.trans kr hz) ?_))))))))
     refine N3 (ch:=[]) (b:=B) (off:=0+Int.toNat ((C2 D6 (s.data.toList.take i)).length:Int) * 1) (v:=.int .u8 (A9 s (i:Int))) (c:=(R2 (C2 D6 (s.data.toList.take i)) (k))) (c':=(R2 (C2 D6 (s.data.toList.take i)++[s.data.toList.getD i 0]) (k - 1))) (j:=0) (m:=0) (H':=([(B,.cells (R2 (C2 D6 (s.data.toList.take i)++[s.data.toList.getD i 0]) (k - 1)) 5 (0,0))]::[(c,.cells (bsr [(9,.slice (some ⟨a9,0,none⟩) 4 c9),(10,.slice (some ⟨a10,0,none⟩) 5 c10)] (.slice aT 2 cT)) 248 (0,0))]::gT::g10::g9::H)) (hoff:=(by rw [T0]; show 0+_ * 1+1≤_; rw [Int.toNat_natCast]; omega)) (hfz:=(fun _ _=>thaw0)) (hc':=(by obtain ⟨k',rfl⟩:∃ k',k=k'+1:=⟨k - 1,by omega⟩; rw [Nat.add_sub_cancel]; show setRow _ _ [.int .u8 (A9 s (i:Int))]=_; rw [byteAt_getD]; exact rowZ_set _ _ _ (by rw [Int.toNat_natCast]; omega))) (hH':=kr) (k:=A7 [] [0,1,12,13,14] (k:=A0 (A2 (A3 (j:=2) [0,0] (k:=D1 119 (((C2 D6 (s.data.toList.take i)).length:Int)+1) (by omega) (by omega) kr (A7 [0] [0,1,12,13,14] (k:=B7 (A0 ?_))))))))
     refine A2 (A3 (j:=2) [0,0] (k:=D1 91 ((i:Int)+1) (by omega) (by omega) kr (B1 (E':=[⟨0,[],pt c⟩,⟨1,[],.string s⟩,⟨12,[],.slice (some ⟨B,0,none⟩) ((C2 D6 s.data.toList).length) ((C2 D6 s.data.toList).length)⟩,⟨13,[],.int .i64 (((C2 D6 (s.data.toList.take i)).length:Int)+1)⟩,⟨14,[],.int .i64 ((i:Int)+1)⟩]) [0] [0,1,12,13,14] (k:=?_))))
     have hj2:((C2 D6 (s.data.toList.take i)).length:Int)+1=((C2 D6 (s.data.toList.take (i+1))).length:Int):=by rw [J1 _ (show i<s.data.toList.length by omega),K7,List.length_append]; first | (rw [Q4 _ hu,show (u8s u).length=u.length from List.length_map _]; omega) | (rw [O6 _ hu]; simp only [List.length_cons,List.length_nil]; omega)
     refine M0 (E':=[⟨0,[],pt c⟩,⟨1,[],.string s⟩,⟨12,[],.slice (some ⟨B,0,none⟩) ((C2 D6 s.data.toList).length) ((C2 D6 s.data.toList).length)⟩,⟨13,[],.int .i64 ((C2 D6 (s.data.toList.take (i+1))).length:Int)⟩,⟨14,[],.int .i64 ((i:Int)+1)⟩]) (by rw [hj2]) ?_
     have hl2:(C2 D6 (s.data.toList.take i)++[s.data.toList.getD i 0])=C2 D6 (s.data.toList.take (i+1)):=by rw [J1 _ (show i<s.data.toList.length by omega),K7]; first | rw [Q4 _ hu] | rw [O6 _ hu]
     refine X0 (H':=([(B,.cells (R2 (C2 D6 (s.data.toList.take (i+1))) (k - 1)) 5 (0,0))]::[(c,.cells (bsr [(9,.slice (some ⟨a9,0,none⟩) 4 c9),(10,.slice (some ⟨a10,0,none⟩) 5 c10)] (.slice aT 2 cT)) 248 (0,0))]::gT::g10::g9::H)) (by rw [hl2]) (D2 (s':=(i+1,k - 1)) [0,1,12,13,14] kr rfl ⟨(by omega),(by dsimp only; rw [← hl2,List.length_append]; first | omega | (simp only [List.length_cons,List.length_nil]; omega))⟩ (by omega))
   ·
    try simp only [decide_eq_false_iff_not] at hc15
    refine E8 (A6 (A6 (B5 (A0 (A1 (A2 (A3 (j:=1) [0] (k:=L6 (ch:=[]) (a:=⟨B,0,none⟩) (cap:=(C2 D6 s.data.toList).length) (e:=5) (S:=(inG [(B,.cells (R2 (C2 D6 (s.data.toList.take i)) (k)) 5 (0,0))])) (C2 D6 s.data.toList) (hrd:=(by have e1:s.data.toList.take i=s.data.toList:=List.take_of_length_le (by omega); have e2:k=0:=(by rw [e1] at hk; omega); rw [e1,e2]; exact rowZ_rd _ rfl)) (hS:=D7 0 rfl) (k:=?_)))))))))
    refine A7 [0] [4] (k:=A0 (B9 (F9 1 [1,1,1,1] (B6 [.tmp 4] [.string ⟨(C2 D6 s.data.toList).toArray⟩] (k:=?_)))))
    exact ⟨rfl,rfl⟩
end Go.Proofs.YtppgfiklmfoaeaaGreatDoor
namespace Go.Sw
open Go.Esc
def mapL (f:Nat→Int):List Value:=(List.range 256).map fun k=>Value.int .u8 (f k)
def I2 (h:List Value) (f:Nat→Int):Array Value:=(h++mapL f).toArray
theorem mapL_len (f:Nat→Int):(mapL f).length=256:=by simp [mapL]
theorem mapL_at {f:Nat→Int} {k:Nat} (hk:k<256):(mapL f)[k]? = some (.int .u8 (f k)):=by
  unfold mapL
  rw [List.getElem?_map,List.getElem?_range hk]; rfl
theorem mapA_at {f:Nat→Int} {k:Nat} {x:Int} (hk:k<256) (hx:f k=x):(mapL f).toArray[k]? = some (.int .u8 x):=by
  rw [List.getElem?_toArray,mapL_at hk,hx]
theorem L3 {h:List Value} {f:Nat→Int} {off:Nat} {v:Value} (hv:h[off]? = some v):(I2 h f)[off]? = some v:=by
  unfold I2
  have h1:off<h.length:=(List.getElem?_eq_some_iff.1 hv).1
  rw [List.getElem?_toArray,List.getElem?_append_left h1,hv]
theorem grpC_at {h:List Value} {f:Nat→Int} {k off:Nat} {x:Int} (hh:h.length=6) (ho:off=6+k) (hk:k<256) (hx:f k=x):(I2 h f)[off]? = some (.int .u8 x):=by
  subst ho
  unfold I2
  rw [List.getElem?_toArray,List.getElem?_append_right (by omega),hh,Nat.add_sub_cancel_left,mapL_at hk,hx]
theorem T3 {h:List Value} {f:Nat→Int} (hh:h.length=6):(I2 h f).size=262:=by
  unfold I2; rw [List.size_toArray,List.length_append,mapL_len,hh]
theorem grpC_map {h:List Value} {f:Nat→Int} (hh:h.length=6):((I2 h f).toList.drop 6).take (mapL f).length=mapL f:=by
  unfold I2
  rw [List.toList_toArray,List.drop_append_of_le_length (by omega),List.drop_eq_nil_of_le (by omega),List.nil_append,List.take_of_length_le (Nat.le_refl _)]
def updF (f:Nat→Int) (k:Nat) (v:Int):Nat→Int:=fun j=>if j=k then v else f j
theorem setRow_one (c:Array Value) (off:Nat) (v:Value):setRow c off [v]=c.setIfInBounds off v:=rfl
theorem grpC_sethd {h:List Value} {f:Nat→Int} {off:Nat} {v:Value} {h':List Value} (ho:off<h.length) (hh:h.set off v=h'):setRow (I2 h f) off [v]=I2 h' f:=by
  subst hh
  rw [setRow_one]
  unfold I2
  apply Array.ext'
  rw [Array.toList_setIfInBounds,List.toList_toArray,List.toList_toArray,List.set_append_left _ _ ho]
theorem grpC_set {h:List Value} {f f':Nat→Int} {off k:Nat} {v:Int} (hh:h.length=6) (ho:off=6+k) (hk:k<256) (hf:∀ j,j<256→f' j=if j=k then v else f j):setRow (I2 h f) off [.int .u8 v]=I2 h f':=by
  subst ho
  rw [setRow_one]
  unfold I2
  apply Array.ext'
  rw [Array.toList_setIfInBounds,List.toList_toArray,List.toList_toArray,List.set_append_right _ _ (by omega),hh,Nat.add_sub_cancel_left]
  congr 1
  apply List.ext_getElem?
  intro i
  rw [List.getElem?_set]
  by_cases hi:i<256
  · rw [mapL_at hi,mapL_at hi,hf i hi]
    by_cases e:i=k
    · subst e; rw [if_pos rfl,if_pos (by rw [mapL_len]; exact hi),if_pos rfl]
    · rw [if_neg (fun h=>e h.symm),if_neg e]
  · have n1:∀ g:Nat→Int,(mapL g)[i]? = none:=fun g=>List.getElem?_eq_none (by rw [mapL_len]; omega)
    rw [n1,n1,if_neg (by omega)]
def m1 (k:Nat):Int:=if k=10∨k=13 then 1 else 0
def m2 (k:Nat):Int:=if k=10 then 0 else if k=13 then 1 else 2
def cnt (k:Nat):Int:=(if 10<k then 1 else 0)+(if 13<k then 1 else 0)
theorem cnt_succ (k:Nat):cnt (k+1)=cnt k+m1 k:=by unfold cnt m1; (repeat' split) <;> omega
theorem cnt_bd (k:Nat):0≤cnt k∧cnt k≤2:=by unfold cnt; (repeat' split) <;> omega
theorem m1_bd (k:Nat):0≤m1 k∧m1 k≤1:=by unfold m1; split <;> omega
theorem cnt_m2 {k:Nat} (h:m1 k≠0):cnt k=m2 k:=by unfold m1 at h; unfold cnt m2; (repeat' split at h) <;> (repeat' split) <;> omega
theorem m2_no {k:Nat} (h:m1 k=0):m2 k=2:=by unfold m1 at h; unfold m2; (repeat' split at h) <;> (repeat' split) <;> omega
def V3 (k j:Nat):Int:=if j<k then m2 j else m1 j
theorem finK_0 (j:Nat):V3 0 j=m1 j:=by unfold V3; rw [if_neg (Nat.not_lt_zero _)]
theorem finK_succ {k:Nat} {v:Int} (h:v=m2 k) (j:Nat):V3 (k+1) j=if j=k then v else V3 k j:=by
  subst h; unfold V3; (repeat' split) <;> first | rfl | omega | (subst_vars; rfl)
theorem finK_end {j:Nat} (h:j<256):V3 256 j=m2 j:=by unfold V3; rw [if_pos h]
theorem GL_assertI {d:Bool} {P:Program} {ops:Array Oper} {i:Nat} {Q:E0} {n:Fr} {E:Env} {W0:World} {H:List Grp} {o:Oper} {ch:List (Nat × Bool)} {x:Operand} {xt t:TypeId} {u v:Value} {b:Bool}
    (ho:ops[i]? = some o) (hop:o.op=.typeAssert x xt t b) (hx:evO E ch x=some u) (hrun:∀ w,(Instr.typeAssert u xt t b).run P w=.ok v w)
    (hch:D0 ops E o.guard=some ch) (hd:F1 n ch o.dst=true) (hk:I8 E ch=true)
    (kk:GL d P ops (i+1) Q n (Env.put E o.dst ch v) W0 H):GL d P ops i Q n E W0 H:=by
  refine H9 ho hch hd hk (fun r hr _ w _=>?_) kk
  unfold execOp
  simp only [hop]
  rw [hr _ _ hx]
  simp only [Sem.run_bind,hrun,Result.andThen_ok]
  exact ⟨rfl,rfl⟩
theorem GH_nilF {P:Program} {ops:Array Oper} {L:List Grp} {fuel:Nat} {listed:Array Bool} {Q:E0} {n:Fr} {E:Env} {W0:World} {H:List Grp} {o:Oper} {x:Operand} {fn:Fn} {fa fc:Array Value} (i:Nat)
    (ho:ops[i]? = some o:=by exact rfl) (hop:o.op=.nilCheck x:=by exact rfl) (hgd:o.guard=none:=by exact rfl) (hx:evO E [] x=some (.func fn fa fc):=by kernel_rfl) (hrun:∀ w,(execOp (fun _=>.func fn fa fc) o).run P w=.ok (.value (.func fn fa fc)) w) (hd:F1 n [] o.dst=true:=by kernel_rfl)
    (hs:Region.noSelect ops=true:=by kernel_rfl) (hf:Region.free .any ops listed i=true:=by kernel_rfl)
    (hr:(Region.ready .any ops listed).contains i=true:=by kernel_rfl) (hL:∀ w,Sat W0 H w→Sat W0 L w)
    (k:GH P ops L fuel (listed.setIfInBounds i true) Q n (Env.put E o.dst [] (.func fn fa fc)) W0 H):GH P ops L (fuel+1) listed Q n E W0 H:=by
  intro a w ha hsat
  obtain ⟨β,hβ,hat⟩:=ha.at_
  have hv:a.eval x=.func fn fa fc:=J6 hat rfl hx
  have hw:Region.wanted o (yielded ops a.tmps)=true:=by unfold Region.wanted; rw [hgd]
  have hput:Ag n (Env.put E o.dst [] (.func fn fa fc)) (a.put o.dst (.func fn fa fc)):=by
    have:=ha.put hβ hat hd (.func fn fa fc)
    simpa [chT] using this
  refine wpAnyH_take (v:=.func fn fa fc) ho hs hf hr (fun c a w h=>absurd h.1 (by intro h; cases h)) (.inl ⟨hw,fun w' _=>?_⟩) (hL w hsat) (k _ w hput hsat)
  have h:=hrun w'
  unfold execOp at h ⊢
  simp only [hop] at h ⊢
  rw [hv]
  exact h
end Go.Sw
namespace Go.Proofs.YtppgfiklmfoaeaaGreatDoor
open Go.Sw Go.Esc
theorem addE_ (b:Nat) (x:ByteArray) (y nx:Value) (val:ByteArray) (p:Int) (r:Value) (W0:World) (H:List Grp):Tri Tryz.prog 229 #[pt b,.string eB,.string val,.int .i64 p,r] W0 ([(b,.cells #[.string x,.int .i64 0,y,nx,.slice none 0 0] 266 (0,0))]::H) (fun _ H'=>H'=[(b,.cells #[.string val,.int .i64 p,y,nx,.slice none 0 0] 266 (0,0))]::H):=by
 refine D3 241 Tryz.func229 ?_
 refine A1 (A1 (G_p [0,0] [0,1,2,3,4,16] (k:=A0 (B2 (b:=eB.toList==eB.toList) kr (fun hc1=>?_) (fun hc1=>?_)))))
 ·
  skip
  refine A1 (A1 (A2 (A3 (j:=3) [0,0,0] (k:=C6 0 1 rfl rfl (A7 [0] [0,2,3,21] (k:=A0 (C4 kr (A1 ?_))))))))
  refine A2 (A3 (j:=4) [0,0,0,0] (k:=E3 0 0 (.string val) rfl (B1 (E':=[⟨0,[],pt b⟩,⟨3,[],.int .i64 p⟩]) [] [0,3] (k:=A0 (A2 (A3 (j:=4) [0,0,0,0] (k:=E3 0 1 (.int .i64 p) rfl (B1 (E':=[]) [] [] (k:=?_)))))))))
  refine A0 (B9 (A5 (B6 [] [] (k:=?_))))
  exact rfl
 ·
  exact Bool.noConfusion ((hc1).symm.trans (show _=true from by kernel_rfl))
theorem addK_ (b:Nat) (r:Value) (W0:World) (H:List Grp):Tri Tryz.prog 229 #[pt b,.string (mB #[10]),.string (mB #[10]),.int .i64 4,r] W0 ([(b,.cells #[.string eB,.int .i64 0,.string eB,.pointer none,.slice none 0 0] 266 (0,0))]::H) (fun _ H'=>∃ n,H'=[(b,.cells #[.string eB,.int .i64 0,.string (mB #[10]),pt n,.slice none 0 0] 266 (0,0))]::[(n,.cells #[.string (mB #[10]),.int .i64 4,.string eB,.pointer none,.slice none 0 0] 266 (0,0))]::H):=by
 refine D3 241 Tryz.func229 ?_
 refine A1 (A1 (G_p [0,0] [0,1,2,3,4,16] (k:=A0 (B2 (b:=(mB #[10]).toList==eB.toList) kr (fun hc1=>?_) (fun hc1=>?_)))))
 ·
  exact Bool.noConfusion ((hc1).symm.trans (show _=false from by kernel_rfl))
 ·
  skip
  refine A8 (A0 (A1 (A2 (A3 (j:=3) [0,0,0] (k:=C6 0 2 rfl rfl (A7 [0] [0,1,2,3,4,34] (k:=A0 (B2 (b:=!(eB.toList==eB.toList)) kr (fun hc2=>?_) (fun hc2=>?_)))))))))
  ·
   exact Bool.noConfusion ((hc2).symm.trans (show _=false from by kernel_rfl))
  ·
   skip
   refine A1 (A2 (A3 (j:=3) [0,0,0] (k:=C6 0 4 rfl rfl (A7 [0] [0,1,2,3,4,189] (k:=A0 (C8 kr (A1 (A2 ?_))))))))
   refine A3 (j:=4) [0,0,0,0] (k:=E3 0 2 (.string (mB #[10])) rfl (A7 [] [0,2,3,4] (k:=A0 (A1 (A2 (A3 (j:=1) [0] (k:=L1 (.agg #[.string eB,.int .i64 0,.string eB,.pointer none,.slice none 0 0]) (fun b3=>A3 (j:=4) [0,0] (k:=?_)))))))))
   refine E3 1 3 (pt b3) rfl (A7 [] [0,2,3,4] (k:=A0 (A2 (A3 (j:=3) [0,0,0] (k:=C6 1 3 rfl rfl (A3 (j:=7) [0,0,0] (k:=D9 Tryz.func229 (addE_ b3 eB (.string eB) (.pointer none) (mB #[10]) 4 (r) _ _) ?_)))))))
   rintro _ _ rfl
   refine B1 (E':=[]) [] [] (k:=F9 0 [1,0] (B6 [] [] (k:=?_)))
   exact ⟨_,rfl⟩
theorem addR2_ (b t:Nat) (W0:World) (H:List Grp):Tri Tryz.prog 229 #[pt b,.string (mB #[13,10]),.string (mB #[10]),.int .i64 4,pt b] W0 ([(b,.cells (I2 [.string eB,.int .i64 0,.string eB,.pointer none,.slice (some ⟨t,0,none⟩) 2 2,.int .i64 2] (V3 256)) 268 (0,0))]::[(t,.cells #[.pointer none,.pointer none] 263 (0,0))]::H) (fun _ H'=>∃ n1 n2,H'=[(b,.cells (I2 [.string eB,.int .i64 0,.string eB,.pointer none,.slice (some ⟨t,0,none⟩) 2 2,.int .i64 2] (V3 256)) 268 (0,0))]::[(t,.cells #[.pointer none,pt n1] 263 (0,0))]::[(n1,.cells #[.string eB,.int .i64 0,.string (mB #[10]),pt n2,.slice none 0 0] 266 (0,0))]::[(n2,.cells #[.string (mB #[10]),.int .i64 4,.string eB,.pointer none,.slice none 0 0] 266 (0,0))]::H):=by
 refine D3 241 Tryz.func229 ?_
 refine A1 (A1 (G_p [0,0] [0,1,2,3,4,16] (k:=A0 (B2 (b:=(mB #[13,10]).toList==eB.toList) kr (fun hc1=>?_) (fun hc1=>?_)))))
 ·
  exact Bool.noConfusion ((hc1).symm.trans (show _=false from by kernel_rfl))
 ·
  skip
  refine A8 (A0 (A1 (A2 (A3 (j:=3) [0,0,0] (k:=C5 (ch:=[]) (b:=b) (off:=2) (v:=.string eB) (hA:=At.grp 0 0 rfl rfl) (hv:=L3 rfl) (k:=A7 [0] [0,1,2,3,4,34] (k:=A0 (B2 (b:=!(eB.toList==eB.toList)) kr (fun hc2=>?_) (fun hc2=>?_)))))))))
  ·
   exact Bool.noConfusion ((hc2).symm.trans (show _=false from by kernel_rfl))
  ·
   skip
   refine A1 (A2 (A3 (j:=3) [0,0,0] (k:=C5 (ch:=[]) (b:=b) (off:=4) (v:=.slice (some ⟨t,0,none⟩) 2 2) (hA:=At.grp 0 0 rfl rfl) (hv:=L3 rfl) (k:=A7 [0] [0,1,2,3,4,189] (k:=A0 (C4 kr (A1 (I1 (k:=?_)))))))))
   refine A3 (j:=2) [0,0] (k:=H0 (mB #[13,10]) 0 (fun _=>by decide) (A3 (j:=5) [0,0] (k:=D8 (ch:=[]) (b:=b) (off:=6) (len:=256) (sz:=1) (e:=5) (kd:=.u8) (j:=13) (hb:=(fun _=>⟨by decide,by decide⟩)) (k:=C5 (ch:=[]) (b:=b) (off:=19) (v:=.int .u8 1) (hA:=At.grp 0 0 rfl rfl) (hv:=grpC_at (k:=13) rfl rfl (by decide) rfl) (k:=A7 [0] [0,1,2,3,4,14] (k:=A0 (A1 (A1 ?_))))))))
   refine A2 (A3 (j:=3) [0,0,0] (k:=C5 (ch:=[]) (b:=b) (off:=4) (v:=.slice (some ⟨t,0,none⟩) 2 2) (hA:=At.grp 0 0 rfl rfl) (hv:=L3 rfl) (k:=A3 (j:=5) [0] (k:=J0 (ch:=[]) (a:=(some ⟨t,0,none⟩)) (len:=2) (cap:=2) (kd:=.u8) (j:=1) (e:=263) (sz:=1) (S:=(inG [(t,.cells #[.pointer none,.pointer none] 263 (0,0))])) (cs:=[.pointer none,.pointer none]) (hrd:=Rd.lit) (hb:=(fun _=>by exact ⟨by omega,by omega,by first | exact List.cons_ne_nil _ _ | (intro h; simp [strs] at h; simp [h] at *; omega)⟩)) (k:=GL_env (E':=[⟨202,[],.pointer (some ⟨t,1,none⟩)⟩,⟨201,[],.int .u8 1⟩,⟨200,[],.slice (some ⟨t,0,none⟩) 2 2⟩,⟨199,[],.pointer (some ⟨b,4,none⟩)⟩,⟨198,[],pt b⟩,⟨197,[],pt b⟩,⟨0,[],pt b⟩,⟨1,[],.string (mB #[13,10])⟩,⟨2,[],.string (mB #[10])⟩,⟨3,[],.int .i64 4⟩,⟨4,[],pt b⟩,⟨14,[],.int .u8 1⟩]) kr (C6 1 1 rfl rfl (A7 [0] [0,1,2,3,4,14,204] (k:=A0 ?_))))))))
   refine C4 kr (A2 (A3 (j:=3) [0,0,0] (k:=C5 (ch:=[]) (b:=b) (off:=4) (v:=.slice (some ⟨t,0,none⟩) 2 2) (hA:=At.grp 0 0 rfl rfl) (hv:=L3 rfl) (k:=A3 (j:=5) [0] (k:=L1 (.agg #[.string eB,.int .i64 0,.string eB,.pointer none,.slice none 0 0]) (fun b3=>J0 (ch:=[]) (a:=(some ⟨t,0,none⟩)) (len:=2) (cap:=2) (kd:=.u8) (j:=1) (e:=263) (sz:=1) (S:=(inG [(t,.cells #[.pointer none,.pointer none] 263 (0,0))])) (cs:=[.pointer none,.pointer none]) (hrd:=Rd.lit) (hb:=(fun _=>by exact ⟨by omega,by omega,by first | exact List.cons_ne_nil _ _ | (intro h; simp [strs] at h; simp [h] at *; omega)⟩)) (k:=GL_env (E':=[⟨211,[],.pointer (some ⟨t,1,none⟩)⟩,⟨210,[],pt b3⟩,⟨209,[],.int .u8 1⟩,⟨208,[],.slice (some ⟨t,0,none⟩) 2 2⟩,⟨207,[],.pointer (some ⟨b,4,none⟩)⟩,⟨206,[],pt b⟩,⟨205,[],pt b⟩,⟨0,[],pt b⟩,⟨1,[],.string (mB #[13,10])⟩,⟨2,[],.string (mB #[10])⟩,⟨3,[],.int .i64 4⟩,⟨4,[],pt b⟩,⟨14,[],.int .u8 1⟩,⟨204,[],.bool true⟩]) kr (E3 2 1 (pt b3) rfl ?_))))))))
   refine B1 (E':=[⟨0,[],pt b⟩,⟨1,[],.string (mB #[13,10])⟩,⟨2,[],.string (mB #[10])⟩,⟨3,[],.int .i64 4⟩,⟨4,[],pt b⟩,⟨14,[],.int .u8 1⟩]) [] [0,1,2,3,4,14] (k:=A0 (H5 ([(b,.cells (I2 [.string eB,.int .i64 0,.string eB,.pointer none,.slice (some ⟨t,0,none⟩) 2 2,.int .i64 2] (V3 256)) 268 (0,0))]::[(t,.cells #[.pointer none,pt b3] 263 (0,0))]::H) kr (G0 (fuel:=12) [(0,0)] (fun w h=>(h.pk 1 [1,1])) (k:=K3 (ad:=⟨b,0,none⟩) 1 (hL:=(fun w h=>(h.pk 1 [1,1]))) (k:=G0 (fuel:=10) [(2,0)] (fun w h=>(h.pk 1 [1,1])) (k:=F5 3 kr (fun w h=>(h.pk 1 [1,1])) (C5 (i:=3) (ch:=[]) (b:=b) (off:=4) (v:=.slice (some ⟨t,0,none⟩) 2 2) rfl rfl kr kr kr kr kr (At.grp 0 0 rfl rfl) (L3 rfl) (G2 kr rfl)) (G0 (fuel:=8) [(4,0)] (fun w h=>(h.pk 1 [1,1])) (k:=F5 (E':=[⟨217,[],.pointer (some ⟨t,1,none⟩)⟩,⟨216,[],.int .u8 1⟩,⟨215,[],.slice (some ⟨t,0,none⟩) 2 2⟩,⟨214,[],.pointer (some ⟨b,4,none⟩)⟩,⟨213,[],pt b⟩,⟨212,[],pt b⟩,⟨0,[],pt b⟩,⟨1,[],.string (mB #[13,10])⟩,⟨2,[],.string (mB #[10])⟩,⟨3,[],.int .i64 4⟩,⟨4,[],pt b⟩,⟨14,[],.int .u8 1⟩]) 5 kr (fun w h=>(h.pk 1 [1,1])) ?_ ?_))))))))
   ·
    exact J0 (ch:=[]) (a:=(some ⟨t,0,none⟩)) (len:=2) (cap:=2) (kd:=.u8) (j:=1) (e:=263) (sz:=1) (S:=(inG [(t,.cells #[.pointer none,pt b3] 263 (0,0))])) (cs:=[.pointer none,pt b3]) (hrd:=Rd.lit) (hb:=(fun _=>by exact ⟨by decide,by decide,by intro h; cases h⟩)) (k:=GL_env (E':=[⟨217,[],.pointer (some ⟨t,1,none⟩)⟩,⟨216,[],.int .u8 1⟩,⟨215,[],.slice (some ⟨t,0,none⟩) 2 2⟩,⟨214,[],.pointer (some ⟨b,4,none⟩)⟩,⟨213,[],pt b⟩,⟨212,[],pt b⟩,⟨0,[],pt b⟩,⟨1,[],.string (mB #[13,10])⟩,⟨2,[],.string (mB #[10])⟩,⟨3,[],.int .i64 4⟩,⟨4,[],pt b⟩,⟨14,[],.int .u8 1⟩]) kr G2)
   refine F5 6 kr (fun w h=>(h.pk 1 [1,1])) (C6 1 1 rfl rfl (G2 kr rfl)) (G0 (fuel:=5) [(7,0)] (fun w h=>(h.pk 1 [1,1])) (k:=F5 (E':=[⟨220,[],.string ((mB #[13,10]).extract 1 (Int.toNat ((mB #[13,10]).size:Int)))⟩,⟨219,[],.string (mB #[13,10])⟩,⟨218,[],pt b3⟩,⟨217,[],.pointer (some ⟨t,1,none⟩)⟩,⟨216,[],.int .u8 1⟩,⟨215,[],.slice (some ⟨t,0,none⟩) 2 2⟩,⟨214,[],.pointer (some ⟨b,4,none⟩)⟩,⟨213,[],pt b⟩,⟨212,[],pt b⟩,⟨0,[],pt b⟩,⟨1,[],.string (mB #[13,10])⟩,⟨2,[],.string (mB #[10])⟩,⟨3,[],.int .i64 4⟩,⟨4,[],pt b⟩,⟨14,[],.int .u8 1⟩]) 8 kr (fun w h=>(h.pk 1 [1,1])) ?_ ?_))
   ·
    exact N4 (mB #[13,10]) 1 ((mB #[13,10]).size:Int) (by intro _; exact ⟨by decide,by decide,by decide⟩) G2
   refine GH_env (E':=[⟨220,[],.string (mB #[10])⟩,⟨219,[],.string (mB #[13,10])⟩,⟨218,[],pt b3⟩,⟨217,[],.pointer (some ⟨t,1,none⟩)⟩,⟨216,[],.int .u8 1⟩,⟨215,[],.slice (some ⟨t,0,none⟩) 2 2⟩,⟨214,[],.pointer (some ⟨b,4,none⟩)⟩,⟨213,[],pt b⟩,⟨212,[],pt b⟩,⟨0,[],pt b⟩,⟨1,[],.string (mB #[13,10])⟩,⟨2,[],.string (mB #[10])⟩,⟨3,[],.int .i64 4⟩,⟨4,[],pt b⟩,⟨14,[],.int .u8 1⟩]) (by rfl) (G0 (fuel:=1) [(9,0),(10,0),(11,0)] (fun w h=>(h.pk 1 [1,1])) (k:=D4 12 (k:=D9 Tryz.func229 (addK_ b3 (pt b) _ _) ?_)))
   rintro _ _ ⟨n4,rfl⟩
   refine B3 kr (fun w h=>(h.pk 2 [2,2])) (F8 (E':=[]) [] (k:=F9 0 [2,2,0,0] (B6 [] [] (k:=?_))))
   exact ⟨_,_,rfl⟩
theorem addR1_ (b t:Nat) (n1 n2:Nat) (W0:World) (H:List Grp):Tri Tryz.prog 229 #[pt b,.string (mB #[13]),.string (mB #[10]),.int .i64 2,pt b] W0 ([(b,.cells (I2 [.string eB,.int .i64 0,.string eB,.pointer none,.slice (some ⟨t,0,none⟩) 2 2,.int .i64 2] (V3 256)) 268 (0,0))]::[(t,.cells #[.pointer none,pt n1] 263 (0,0))]::[(n1,.cells #[.string eB,.int .i64 0,.string (mB #[10]),pt n2,.slice none 0 0] 266 (0,0))]::H) (fun _ H'=>H'=[(b,.cells (I2 [.string eB,.int .i64 0,.string eB,.pointer none,.slice (some ⟨t,0,none⟩) 2 2,.int .i64 2] (V3 256)) 268 (0,0))]::[(t,.cells #[.pointer none,pt n1] 263 (0,0))]::[(n1,.cells #[.string (mB #[10]),.int .i64 2,.string (mB #[10]),pt n2,.slice none 0 0] 266 (0,0))]::H):=by
 refine D3 241 Tryz.func229 ?_
 refine A1 (A1 (G_p [0,0] [0,1,2,3,4,16] (k:=A0 (B2 (b:=(mB #[13]).toList==eB.toList) kr (fun hc1=>?_) (fun hc1=>?_)))))
 ·
  exact Bool.noConfusion ((hc1).symm.trans (show _=false from by kernel_rfl))
 ·
  skip
  refine A8 (A0 (A1 (A2 (A3 (j:=3) [0,0,0] (k:=C5 (ch:=[]) (b:=b) (off:=2) (v:=.string eB) (hA:=At.grp 0 0 rfl rfl) (hv:=L3 rfl) (k:=A7 [0] [0,1,2,3,4,34] (k:=A0 (B2 (b:=!(eB.toList==eB.toList)) kr (fun hc2=>?_) (fun hc2=>?_)))))))))
  ·
   exact Bool.noConfusion ((hc2).symm.trans (show _=false from by kernel_rfl))
  ·
   skip
   refine A1 (A2 (A3 (j:=3) [0,0,0] (k:=C5 (ch:=[]) (b:=b) (off:=4) (v:=.slice (some ⟨t,0,none⟩) 2 2) (hA:=At.grp 0 0 rfl rfl) (hv:=L3 rfl) (k:=A7 [0] [0,1,2,3,4,189] (k:=A0 (C4 kr (A1 (I1 (k:=?_)))))))))
   refine A3 (j:=2) [0,0] (k:=H0 (mB #[13]) 0 (fun _=>by decide) (A3 (j:=5) [0,0] (k:=D8 (ch:=[]) (b:=b) (off:=6) (len:=256) (sz:=1) (e:=5) (kd:=.u8) (j:=13) (hb:=(fun _=>⟨by decide,by decide⟩)) (k:=C5 (ch:=[]) (b:=b) (off:=19) (v:=.int .u8 1) (hA:=At.grp 0 0 rfl rfl) (hv:=grpC_at (k:=13) rfl rfl (by decide) rfl) (k:=A7 [0] [0,1,2,3,4,14] (k:=A0 (A1 (A1 ?_))))))))
   refine A2 (A3 (j:=3) [0,0,0] (k:=C5 (ch:=[]) (b:=b) (off:=4) (v:=.slice (some ⟨t,0,none⟩) 2 2) (hA:=At.grp 0 0 rfl rfl) (hv:=L3 rfl) (k:=A3 (j:=5) [0] (k:=J0 (ch:=[]) (a:=(some ⟨t,0,none⟩)) (len:=2) (cap:=2) (kd:=.u8) (j:=1) (e:=263) (sz:=1) (S:=(inG [(t,.cells #[.pointer none,pt n1] 263 (0,0))])) (cs:=[.pointer none,pt n1]) (hrd:=Rd.lit) (hb:=(fun _=>by exact ⟨by omega,by omega,by first | exact List.cons_ne_nil _ _ | (intro h; simp [strs] at h; simp [h] at *; omega)⟩)) (k:=GL_env (E':=[⟨202,[],.pointer (some ⟨t,1,none⟩)⟩,⟨201,[],.int .u8 1⟩,⟨200,[],.slice (some ⟨t,0,none⟩) 2 2⟩,⟨199,[],.pointer (some ⟨b,4,none⟩)⟩,⟨198,[],pt b⟩,⟨197,[],pt b⟩,⟨0,[],pt b⟩,⟨1,[],.string (mB #[13])⟩,⟨2,[],.string (mB #[10])⟩,⟨3,[],.int .i64 2⟩,⟨4,[],pt b⟩,⟨14,[],.int .u8 1⟩]) kr (C6 1 1 rfl rfl (A7 [0] [0,1,2,3,4,14,204] (k:=A0 ?_))))))))
   refine C8 kr (A8 (A0 (H5 ([(b,.cells (I2 [.string eB,.int .i64 0,.string eB,.pointer none,.slice (some ⟨t,0,none⟩) 2 2,.int .i64 2] (V3 256)) 268 (0,0))]::[(t,.cells #[.pointer none,pt n1] 263 (0,0))]::H) kr (G0 (fuel:=12) [(0,0)] (fun w h=>(h.pk 1 [0,0])) (k:=K3 (ad:=⟨b,0,none⟩) 1 (hL:=(fun w h=>(h.pk 1 [0,0]))) (k:=G0 (fuel:=10) [(2,0)] (fun w h=>(h.pk 1 [0,0])) (k:=F5 3 kr (fun w h=>(h.pk 1 [0,0])) (C5 (i:=3) (ch:=[]) (b:=b) (off:=4) (v:=.slice (some ⟨t,0,none⟩) 2 2) rfl rfl kr kr kr kr kr (At.grp 0 0 rfl rfl) (L3 rfl) (G2 kr rfl)) (G0 (fuel:=8) [(4,0)] (fun w h=>(h.pk 1 [0,0])) (k:=?_)))))))))
   refine F5 (E':=[⟨217,[],.pointer (some ⟨t,1,none⟩)⟩,⟨216,[],.int .u8 1⟩,⟨215,[],.slice (some ⟨t,0,none⟩) 2 2⟩,⟨214,[],.pointer (some ⟨b,4,none⟩)⟩,⟨213,[],pt b⟩,⟨212,[],pt b⟩,⟨0,[],pt b⟩,⟨1,[],.string (mB #[13])⟩,⟨2,[],.string (mB #[10])⟩,⟨3,[],.int .i64 2⟩,⟨4,[],pt b⟩,⟨14,[],.int .u8 1⟩,⟨204,[],.bool false⟩]) 5 kr (fun w h=>(h.pk 1 [0,0])) ?_ ?_
   ·
    exact J0 (ch:=[]) (a:=(some ⟨t,0,none⟩)) (len:=2) (cap:=2) (kd:=.u8) (j:=1) (e:=263) (sz:=1) (S:=(inG [(t,.cells #[.pointer none,pt n1] 263 (0,0))])) (cs:=[.pointer none,pt n1]) (hrd:=Rd.lit) (hb:=(fun _=>by exact ⟨by decide,by decide,by intro h; cases h⟩)) (k:=GL_env (E':=[⟨217,[],.pointer (some ⟨t,1,none⟩)⟩,⟨216,[],.int .u8 1⟩,⟨215,[],.slice (some ⟨t,0,none⟩) 2 2⟩,⟨214,[],.pointer (some ⟨b,4,none⟩)⟩,⟨213,[],pt b⟩,⟨212,[],pt b⟩,⟨0,[],pt b⟩,⟨1,[],.string (mB #[13])⟩,⟨2,[],.string (mB #[10])⟩,⟨3,[],.int .i64 2⟩,⟨4,[],pt b⟩,⟨14,[],.int .u8 1⟩,⟨204,[],.bool false⟩]) kr G2)
   refine F5 6 kr (fun w h=>(h.pk 1 [0,0])) (C6 1 1 rfl rfl (G2 kr rfl)) (G0 (fuel:=5) [(7,0)] (fun w h=>(h.pk 1 [0,0])) (k:=F5 (E':=[⟨220,[],.string ((mB #[13]).extract 1 (Int.toNat ((mB #[13]).size:Int)))⟩,⟨219,[],.string (mB #[13])⟩,⟨218,[],pt n1⟩,⟨217,[],.pointer (some ⟨t,1,none⟩)⟩,⟨216,[],.int .u8 1⟩,⟨215,[],.slice (some ⟨t,0,none⟩) 2 2⟩,⟨214,[],.pointer (some ⟨b,4,none⟩)⟩,⟨213,[],pt b⟩,⟨212,[],pt b⟩,⟨0,[],pt b⟩,⟨1,[],.string (mB #[13])⟩,⟨2,[],.string (mB #[10])⟩,⟨3,[],.int .i64 2⟩,⟨4,[],pt b⟩,⟨14,[],.int .u8 1⟩,⟨204,[],.bool false⟩]) 8 kr (fun w h=>(h.pk 1 [0,0])) ?_ ?_))
   ·
    exact N4 (mB #[13]) 1 ((mB #[13]).size:Int) (by intro _; exact ⟨by decide,by decide,by decide⟩) G2
   refine GH_env (E':=[⟨220,[],.string eB⟩,⟨219,[],.string (mB #[13])⟩,⟨218,[],pt n1⟩,⟨217,[],.pointer (some ⟨t,1,none⟩)⟩,⟨216,[],.int .u8 1⟩,⟨215,[],.slice (some ⟨t,0,none⟩) 2 2⟩,⟨214,[],.pointer (some ⟨b,4,none⟩)⟩,⟨213,[],pt b⟩,⟨212,[],pt b⟩,⟨0,[],pt b⟩,⟨1,[],.string (mB #[13])⟩,⟨2,[],.string (mB #[10])⟩,⟨3,[],.int .i64 2⟩,⟨4,[],pt b⟩,⟨14,[],.int .u8 1⟩,⟨204,[],.bool false⟩]) (by rfl) (G0 (fuel:=1) [(9,0),(10,0),(11,0)] (fun w h=>(h.pk 1 [0,0])) (k:=D4 12 (k:=M9 0 [2] (D9 Tryz.func229 (addE_ n1 eB (.string (mB #[10])) (pt n2) (mB #[10]) 2 (pt b) _ _) ?_))))
   rintro _ _ rfl
   refine B3 kr (fun w h=>(h.pk 1 [1,1])) (F8 (E':=[]) [] (k:=F9 0 [1,1,0] (B6 [] [] (k:=?_))))
   exact rfl
def crT:List Value:=[.string (mB #[13,10]),.string (mB #[10]),.string (mB #[13]),.string (mB #[10])]
theorem mkGen_ (a:Option Addr) (cap:Nat) (g:Grp) (hr:Rd (inG g) a crT) (W0:World) (H:List Grp):Tri Tryz.prog 212 #[.slice a 4 cap] W0 (g::H) (fun v H'=>∃ b t n1 n2,v=pt b∧H'=[(b,.cells (I2 [.string eB,.int .i64 0,.string eB,.pointer none,.slice (some ⟨t,0,none⟩) 2 2,.int .i64 2] (V3 256)) 268 (0,0))]::[(t,.cells #[.pointer none,pt n1] 263 (0,0))]::[(n1,.cells #[.string (mB #[10]),.int .i64 2,.string (mB #[10]),pt n2,.slice none 0 0] 266 (0,0))]::[(n2,.cells #[.string (mB #[10]),.int .i64 4,.string eB,.pointer none,.slice none 0 0] 266 (0,0))]::g::H):=by
 refine D3 117 Tryz.func212 ?_
 refine A1 (C1 (E':=[⟨0,[],.slice a 4 cap⟩]) [0] [0] (k:=A0 (A1 (A2 (GL_alloc (i:=0) (ch:=[]) (z:=.agg (I2 [.string eB,.int .i64 0,.string eB,.pointer none,.slice none 0 0,.int .i64 0] (fun _=>0))) rfl rfl kr kr kr kr (fun b1=>?_))))))
 refine A7 [0] [0,3] (k:=A0 (A1 (A1 (G_p [0] [0,3,4] (k:=A0 (B4 (M7 3 (E9 ?_))))))))
 refine A1 (A1 (G_p [0,0,0,0] [0,3,4,17] (k:=A0 (C4 kr (A8 (A0 (A1 (B4 ?_))))))))
 refine A1 (A2 (A3 (j:=2) [0,0] (k:=E6 4 0 1 hr (by exact ⟨by decide,by decide,by intro h; cases h⟩) (H6 (0 * 1) (.string (mB #[13,10])) hr (D7 1 rfl) (fun _=>rfl) (A7 [0] [0,3,4,5] (k:=A0 (A1 (G_p [0] [0,3,4,5,6] (k:=?_)))))))))
 refine A0 (B4 (M7 3 (E9 (A1 (A1 (C1 (E':=[⟨0,[],.slice a 4 cap⟩,⟨3,[],pt b1⟩,⟨4,[],.int .i64 0⟩,⟨5,[],.string (mB #[13,10])⟩,⟨6,[],.int .i64 0⟩,⟨27,[],.bool true⟩]) [0,0,0,0] [0,3,4,5,6,27] (k:=A0 (C4 kr ?_))))))))
 refine A8 (A0 (A1 (B4 (H5 (g::H) kr (G0 (fuel:=5) [(0,0),(1,0),(2,0)] (fun w h=>(h.pk 1 [1])) (k:=F5 3 kr (fun w h=>(h.pk 1 [1])) (H0 (mB #[13,10]) 0 (fun _=>by decide) (G2 kr rfl)) (K3 (ad:=⟨b1,0,none⟩) 4 (hL:=(fun w h=>(h.pk 1 [1]))) (k:=G0 (fuel:=2) [(5,0)] (fun w h=>(h.pk 1 [1])) (k:=?_)))))))))
 refine F5 6 (hL:=(fun w h=>(h.pk 1 [1]))) (hy:=D8 (i:=6) (ch:=[]) (b:=b1) (off:=6) (len:=256) (sz:=1) (e:=5) (kd:=.u8) (j:=13) (hb:=(fun _=>⟨by decide,by decide⟩)) (k:=G2 kr rfl)) (k:=D4 7 (k:=N3 (ch:=[]) (b:=b1) (off:=19) (v:=.int .u8 1) (c:=(I2 [.string eB,.int .i64 0,.string eB,.pointer none,.slice none 0 0,.int .i64 0] (fun _=>0))) (c':=(I2 [.string eB,.int .i64 0,.string eB,.pointer none,.slice none 0 0,.int .i64 0] (updF (fun _=>0) 13 1))) (j:=0) (m:=0) (H':=([(b1,.cells (I2 [.string eB,.int .i64 0,.string eB,.pointer none,.slice none 0 0,.int .i64 0] (updF (fun _=>0) 13 1)) 268 (0,0))]::g::H)) (hoff:=(by rw [T3 rfl]; show 19+1≤262; omega)) (hfz:=(fun _ _=>thaw0)) (hc':=grpC_set rfl rfl (by decide) (fun _ _=>rfl)) (k:=B3 kr (fun w h=>(h.pk 1 [1])) (F8 (E':=[⟨0,[],.slice a 4 cap⟩,⟨3,[],pt b1⟩,⟨4,[],.int .i64 0⟩,⟨5,[],.string (mB #[13,10])⟩,⟨6,[],.int .i64 0⟩]) [0,3,4,5,6] (k:=B7 (A0 (G_p [0,0,0] [0,3,4,5,6] (k:=N_rd ?_))))))))
 refine E9 (A1 (A1 (G_p [0,0,0,0] [0,3,4,5,6,27] (k:=A0 (C4 kr (A8 (A0 (A1 ?_))))))))
 refine B4 (H5 (g::H) kr (G0 (fuel:=5) [(0,0),(1,0),(2,0)] (fun w h=>(h.pk 1 [1])) (k:=F5 3 kr (fun w h=>(h.pk 1 [1])) (H0 (mB #[13,10]) 1 (fun _=>by decide) (G2 kr rfl)) (K3 (ad:=⟨b1,0,none⟩) 4 (hL:=(fun w h=>(h.pk 1 [1]))) (k:=G0 (fuel:=2) [(5,0)] (fun w h=>(h.pk 1 [1])) (k:=F5 6 (hL:=(fun w h=>(h.pk 1 [1]))) (hy:=D8 (i:=6) (ch:=[]) (b:=b1) (off:=6) (len:=256) (sz:=1) (e:=5) (kd:=.u8) (j:=10) (hb:=(fun _=>⟨by decide,by decide⟩)) (k:=G2 kr rfl)) (k:=D4 7 (k:=N3 (ch:=[]) (b:=b1) (off:=16) (v:=.int .u8 1) (c:=(I2 [.string eB,.int .i64 0,.string eB,.pointer none,.slice none 0 0,.int .i64 0] (updF (fun _=>0) 13 1))) (c':=(I2 [.string eB,.int .i64 0,.string eB,.pointer none,.slice none 0 0,.int .i64 0] (updF (updF (fun _=>0) 13 1) 10 1))) (j:=0) (m:=0) (H':=([(b1,.cells (I2 [.string eB,.int .i64 0,.string eB,.pointer none,.slice none 0 0,.int .i64 0] (updF (updF (fun _=>0) 13 1) 10 1)) 268 (0,0))]::g::H)) (hoff:=(by rw [T3 rfl]; show 16+1≤262; omega)) (hfz:=(fun _ _=>thaw0)) (hc':=grpC_set rfl rfl (by decide) (fun _ _=>rfl)) (k:=?_)))))))))
 refine B3 kr (fun w h=>(h.pk 1 [1])) (F8 (E':=[⟨0,[],.slice a 4 cap⟩,⟨3,[],pt b1⟩,⟨4,[],.int .i64 0⟩,⟨5,[],.string (mB #[13,10])⟩,⟨6,[],.int .i64 1⟩]) [0,3,4,5,6] (k:=B7 (A0 (G_p [0,0,0] [0,3,4,5,6] (k:=N_rd (E9 (A1 (A1 ?_))))))))
 refine G_p [0,0,0,0] [0,3,4,5,6,27] (k:=A0 (C8 kr (E8 (A6 (A6 (B5 (B7 (A0 ?_))))))))
 refine G_p [0,0,0] [0,3,4] (k:=N_rd (E9 (A1 (A1 (G_p [0,0,0,0] [0,3,4,17] (k:=A0 (C4 kr (A8 ?_))))))))
 refine A0 (A1 (B4 (A1 (A2 (A3 (j:=2) [0,0] (k:=E6 4 2 1 hr (by exact ⟨by decide,by decide,by intro h; cases h⟩) (H6 (2 * 1) (.string (mB #[13])) hr (D7 1 rfl) (fun _=>rfl) (A7 [0] [0,3,4,5] (k:=?_)))))))))
 refine A0 (A1 (C1 (E':=[⟨0,[],.slice a 4 cap⟩,⟨3,[],pt b1⟩,⟨4,[],.int .i64 2⟩,⟨5,[],.string (mB #[13])⟩,⟨6,[],.int .i64 0⟩]) [0] [0,3,4,5,6] (k:=A0 (B4 (M7 2 (E9 (A1 (A1 ?_))))))))
 refine G_p [0,0,0,0] [0,3,4,5,6,27] (k:=A0 (C4 kr (A8 (A0 (A1 (B4 (H5 (g::H) kr (G0 (fuel:=5) [(0,0),(1,0),(2,0)] (fun w h=>(h.pk 1 [1])) (k:=?_)))))))))
 refine F5 3 kr (fun w h=>(h.pk 1 [1])) (H0 (mB #[13]) 0 (fun _=>by decide) (G2 kr rfl)) (K3 (ad:=⟨b1,0,none⟩) 4 (hL:=(fun w h=>(h.pk 1 [1]))) (k:=G0 (fuel:=2) [(5,0)] (fun w h=>(h.pk 1 [1])) (k:=F5 6 (hL:=(fun w h=>(h.pk 1 [1]))) (hy:=D8 (i:=6) (ch:=[]) (b:=b1) (off:=6) (len:=256) (sz:=1) (e:=5) (kd:=.u8) (j:=13) (hb:=(fun _=>⟨by decide,by decide⟩)) (k:=G2 kr rfl)) (k:=D4 7 (k:=N3 (ch:=[]) (b:=b1) (off:=19) (v:=.int .u8 1) (c:=(I2 [.string eB,.int .i64 0,.string eB,.pointer none,.slice none 0 0,.int .i64 0] (updF (updF (fun _=>0) 13 1) 10 1))) (c':=(I2 [.string eB,.int .i64 0,.string eB,.pointer none,.slice none 0 0,.int .i64 0] (updF (updF (updF (fun _=>0) 13 1) 10 1) 13 1))) (j:=0) (m:=0) (H':=([(b1,.cells (I2 [.string eB,.int .i64 0,.string eB,.pointer none,.slice none 0 0,.int .i64 0] (updF (updF (updF (fun _=>0) 13 1) 10 1) 13 1)) 268 (0,0))]::g::H)) (hoff:=(by rw [T3 rfl]; show 19+1≤262; omega)) (hfz:=(fun _ _=>thaw0)) (hc':=grpC_set rfl rfl (by decide) (fun _ _=>rfl)) (k:=B3 kr (fun w h=>(h.pk 1 [1])) (F8 (E':=[⟨0,[],.slice a 4 cap⟩,⟨3,[],pt b1⟩,⟨4,[],.int .i64 2⟩,⟨5,[],.string (mB #[13])⟩,⟨6,[],.int .i64 0⟩]) [0,3,4,5,6] (k:=B7 ?_))))))))
 refine A0 (G_p [0,0,0] [0,3,4,5,6] (k:=N_rd (E9 (A1 (A1 (G_p [0,0,0,0] [0,3,4,5,6,27] (k:=A0 (C8 kr ?_))))))))
 refine E8 (A6 (A6 (B5 (B7 (A0 (G_p [0,0,0] [0,3,4] (k:=N_rd (E9 ?_))))))))
 refine A1 (A1 (G_p [0,0,0,0] [0,3,4,17] (k:=A0 (C8 kr (E8 (A6 (A6 (B5 ?_))))))))
 refine A0 (A1 (A1 (A2 (A3 (j:=3) [0,0,0] (k:=N5 (ch:=[]) (b:=b1) (off:=6) (l:=mapL (updF (updF (updF (fun _=>0) 13 1) 10 1) 13 1)) (hA:=At.grp 0 0 rfl rfl) (hv':=grpC_map rfl) (k:=A7 [0] [0,3,40,41] (k:=A0 (B4 ?_))))))))
 refine G_env (E':=[⟨0,[],.slice a 4 cap⟩,⟨3,[],pt b1⟩,⟨40,[],(.agg (mapL (updF (updF (updF (fun _=>0) 13 1) 10 1) 13 1)).toArray)⟩,⟨41,[],.int .i64 0⟩]) kr ?_
 have hm1:(updF (updF (updF (fun _=>0) 13 1) 10 1) 13 1)=m1:=by funext j; unfold updF m1; (repeat' split) <;> first | rfl | omega
 refine G_env (E':=[⟨0,[],.slice a 4 cap⟩,⟨3,[],pt b1⟩,⟨40,[],(.agg (mapL m1).toArray)⟩,⟨41,[],.int .i64 0⟩]) (by rw [← hm1]) (T5 (H':=([(b1,.cells (I2 [.string eB,.int .i64 0,.string eB,.pointer none,.slice none 0 0,.int .i64 0] m1) 268 (0,0))]::g::H)) (fun w h=>by rw [← hm1]; exact h) (J7 (EI:=(fun ξ:Nat=>[⟨0,[],.slice a 4 cap⟩,⟨3,[],pt b1⟩,⟨40,[],(.agg (mapL m1).toArray)⟩,⟨41,[],.int .i64 ((ξ:Nat):Int)⟩])) (HI:=(fun ξ:Nat=>([(b1,.cells (I2 [.string eB,.int .i64 0,.string eB,.pointer none,.slice none 0 0,.int .i64 (cnt ξ)] m1) 268 (0,0))]::g::H))) (Φ:=(fun ξ:Nat=>(ξ≤256))) (μ:=(fun ξ:Nat=>256 - ξ)) (s0:=(0)) [0,3,40,41] kr kr (by omega) ?_))
 rintro k hk
 have hmb:=m1_bd k
 have hcb:=cnt_bd k
 refine A1 (G_p [0] [0,3,40,41,42] (k:=A0 (A1 (B2 (b:=decide (((k:Nat):Int)<256)) kr (fun hc2=>?_) (fun hc2=>?_)))))
 ·
  have hkl:=hc2; simp only [decide_eq_true_eq] at hkl
  refine A8 (A0 (A1 (B4 (A1 (A2 (GL_indexV (i:=0) (ch:=[]) (vs:=(mapL m1).toArray) (kd:=.i64) (j:=((k:Nat):Int)) (len:=256) (e:=5) (v:=.int .u8 (m1 k)) rfl rfl kr kr kr kr kr kr kr kr (fun _=>⟨by omega,by omega,by rw [Int.toNat_natCast]; exact mapA_at (by omega) rfl⟩) (A7 [0] [0,3,8,40,41] (k:=A0 ?_))))))))
  refine A2 (A3 (j:=3) [0,0,0] (k:=C5 (ch:=[]) (b:=b1) (off:=5) (v:=.int .i64 (cnt k)) (hA:=At.grp 0 0 rfl rfl) (hv:=L3 rfl) (k:=A3 (j:=6) [0,0] (k:=D1 49 (m1 k) (by omega) (by omega) kr (A3 (j:=7) [0] (k:=D1 50 ((cnt k)+(m1 k)) (by omega) (by omega) kr (A3 (j:=9) [0,0] (k:=N3 (ch:=[]) (b:=b1) (off:=5) (v:=.int .i64 ((cnt k)+(m1 k))) (c:=(I2 [.string eB,.int .i64 0,.string eB,.pointer none,.slice none 0 0,.int .i64 (cnt k)] m1)) (c':=(I2 [.string eB,.int .i64 0,.string eB,.pointer none,.slice none 0 0,.int .i64 ((cnt k)+(m1 k))] m1)) (j:=0) (m:=0) (H':=([(b1,.cells (I2 [.string eB,.int .i64 0,.string eB,.pointer none,.slice none 0 0,.int .i64 ((cnt k)+(m1 k))] m1) 268 (0,0))]::g::H)) (hoff:=(by rw [T3 rfl]; show 5+1≤262; omega)) (hfz:=(fun _ _=>thaw0)) (hc':=grpC_sethd (Nat.le_of_ble_eq_true rfl) rfl) (k:=?_)))))))))
  refine A7 [] [0,3,40,41] (k:=B7 (A0 (A2 (A3 (j:=1) [0] (k:=D1 53 (((k:Nat):Int)+1) (by omega) (by omega) kr (A7 [0] [0,3,40,41] (k:=?_)))))))
  have hcs:(cnt k)+(m1 k)=cnt (k+1):=(cnt_succ k).symm
  refine X0 (H':=([(b1,.cells (I2 [.string eB,.int .i64 0,.string eB,.pointer none,.slice none 0 0,.int .i64 (cnt (k+1))] m1) 268 (0,0))]::g::H)) (by rw [hcs]) (D2 (s':=(k+1)) [0,3,40,41] kr rfl (by omega) (by omega))
 ·
  have hkl:=hc2; simp only [decide_eq_false_iff_not] at hkl
  refine E8 (A6 (A6 (B5 (A0 (A1 (G_p [0] [0,3,9] (k:=A0 (A1 ?_))))))))
  refine A1 (A2 (A3 (j:=3) [0,0,0] (k:=N5 (ch:=[]) (b:=b1) (off:=6) (l:=mapL m1) (hA:=At.grp 0 0 rfl rfl) (hv':=grpC_map rfl) (k:=A7 [0] [0,3,9,57,58] (k:=A0 (B4 (T5 (H':=([(b1,.cells (I2 [.string eB,.int .i64 0,.string eB,.pointer none,.slice none 0 0,.int .i64 2] (V3 0)) 268 (0,0))]::g::H)) (fun w h=>by rw [show V3 0=m1 from funext finK_0]; rw [show k=256 by omega] at h; exact h) (J7 (EI:=(fun ξ:Nat=>[⟨0,[],.slice a 4 cap⟩,⟨3,[],pt b1⟩,⟨9,[],.int .u8 (cnt ξ)⟩,⟨57,[],(.agg (mapL m1).toArray)⟩,⟨58,[],.int .i64 ((ξ:Nat):Int)⟩])) (HI:=(fun ξ:Nat=>([(b1,.cells (I2 [.string eB,.int .i64 0,.string eB,.pointer none,.slice none 0 0,.int .i64 2] (V3 ξ)) 268 (0,0))]::g::H))) (Φ:=(fun ξ:Nat=>(ξ≤256))) (μ:=(fun ξ:Nat=>256 - ξ)) (s0:=(0)) [0,3,9,57,58] kr kr (by omega) ?_))))))))
  rintro q hq
  have hmq:=m1_bd q
  have hcq:=cnt_bd q
  refine A1 (G_p [0] [0,3,9,57,58,59] (k:=A0 (A1 (B2 (b:=decide (((q:Nat):Int)<256)) kr (fun hc6=>?_) (fun hc6=>?_)))))
  ·
   have hql:=hc6; simp only [decide_eq_true_eq] at hql
   refine A8 (A0 (A1 (B4 (A1 (A2 (A3 (j:=1) [0] (k:=GL_indexV (i:=1) (ch:=[]) (vs:=(mapL m1).toArray) (kd:=.i64) (j:=((q:Nat):Int)) (len:=256) (e:=5) (v:=.int .u8 (m1 q)) rfl rfl kr kr kr kr kr kr kr kr (fun _=>⟨by omega,by omega,by rw [Int.toNat_natCast]; exact mapA_at (by omega) rfl⟩) (A7 [0,0] [0,3,9,10,11,57,58] (k:=?_)))))))))
   refine A0 (A1 (G_p [0,0] [0,3,9,10,57,58,63] (k:=A0 (B2 (b:=(m1 q)==0) kr (fun hc7=>?_) (fun hc7=>?_)))))
   ·
    have hz:m1 q=0:=by simpa using hc7
    refine H5 (g::H) kr (G0 (fuel:=8) [(0,0),(1,0),(2,0)] (fun w h=>(h.pk 1 [1])) (k:=K3 (ad:=⟨b1,0,none⟩) 3 (hL:=(fun w h=>(h.pk 1 [1]))) (k:=G0 (fuel:=6) [(4,0)] (fun w h=>(h.pk 1 [1])) (k:=K3 (ad:=⟨b1,0,none⟩) 7 (hL:=(fun w h=>(h.pk 1 [1]))) (k:=G0 (fuel:=4) [(8,0)] (fun w h=>(h.pk 1 [1])) (k:=D4 5 (k:=C5 (ch:=[]) (b:=b1) (off:=5) (v:=.int .i64 2) (hA:=At.grp 0 0 rfl rfl) (hv:=L3 rfl) (k:=B3 kr (fun w h=>(h.pk 1 [1])) ?_))))))))
    refine G0 (fuel:=2) [(6,0)] (fun w h=>(h.pk 1 [1])) (k:=F5 9 (hL:=(fun w h=>(h.pk 1 [1]))) (hy:=D8 (i:=9) (ch:=[]) (b:=b1) (off:=6) (len:=256) (sz:=1) (e:=5) (kd:=.i64) (j:=((q:Nat):Int)) (hb:=(fun _=>by exact ⟨by omega,by omega⟩)) (k:=G2 kr rfl)) (k:=D4 10 (k:=N3 (ch:=[]) (b:=b1) (off:=6+Int.toNat ((q:Nat):Int) * 1) (v:=.int .u8 2) (c:=(I2 [.string eB,.int .i64 0,.string eB,.pointer none,.slice none 0 0,.int .i64 2] (V3 q))) (c':=(I2 [.string eB,.int .i64 0,.string eB,.pointer none,.slice none 0 0,.int .i64 2] (V3 (q+1)))) (j:=0) (m:=0) (H':=([(b1,.cells (I2 [.string eB,.int .i64 0,.string eB,.pointer none,.slice none 0 0,.int .i64 2] (V3 (q+1))) 268 (0,0))]::g::H)) (hoff:=(by rw [T3 rfl]; show 6+Int.toNat ((q:Nat):Int) * 1+1≤262; omega)) (hfz:=(fun _ _=>thaw0)) (hc':=grpC_set (k:=q) rfl (by rw [Int.toNat_natCast]; omega) (by omega) (fun j _=>finK_succ (m2_no hz).symm j)) (k:=B3 kr (fun w h=>(h.pk 1 [1])) (F8 (E':=[⟨0,[],.slice a 4 cap⟩,⟨3,[],pt b1⟩,⟨9,[],.int .u8 (cnt q)⟩,⟨57,[],(.agg (mapL m1).toArray)⟩,⟨58,[],.int .i64 ((q:Nat):Int)⟩]) [0,3,9,57,58] (k:=B7 (A0 (A2 ?_))))))))
    refine A3 (j:=1) [0] (k:=D1 82 (((q:Nat):Int)+1) (by omega) (by omega) kr (A7 [0] [0,3,9,57,58] (k:=?_)))
    have hc9:(cnt q)=cnt (q+1):=by rw [cnt_succ,hz]; omega
    refine M0 (E':=[⟨0,[],.slice a 4 cap⟩,⟨3,[],pt b1⟩,⟨9,[],.int .u8 (cnt q)⟩,⟨57,[],(.agg (mapL m1).toArray)⟩,⟨58,[],.int .i64 (((q:Nat):Int)+1)⟩]) kr (M0 (E':=[⟨0,[],.slice a 4 cap⟩,⟨3,[],pt b1⟩,⟨9,[],.int .u8 (cnt (q+1))⟩,⟨57,[],(.agg (mapL m1).toArray)⟩,⟨58,[],.int .i64 (((q:Nat):Int)+1)⟩]) (by rw [hc9]) (D2 (s':=(q+1)) [0,3,9,57,58] kr kr (by omega) (by omega)))
   ·
    have hz:m1 q≠0:=by simpa using hc7
    refine A1 (A2 (A3 (j:=5) [0,0,0,0,0] (k:=D8 (ch:=[]) (b:=b1) (off:=6) (len:=256) (sz:=1) (e:=5) (kd:=.i64) (j:=((q:Nat):Int)) (hb:=(fun _=>by exact ⟨by omega,by omega⟩)) (k:=N3 (ch:=[]) (b:=b1) (off:=6+Int.toNat ((q:Nat):Int) * 1) (v:=.int .u8 (cnt q)) (c:=(I2 [.string eB,.int .i64 0,.string eB,.pointer none,.slice none 0 0,.int .i64 2] (V3 q))) (c':=(I2 [.string eB,.int .i64 0,.string eB,.pointer none,.slice none 0 0,.int .i64 2] (V3 (q+1)))) (j:=0) (m:=0) (H':=([(b1,.cells (I2 [.string eB,.int .i64 0,.string eB,.pointer none,.slice none 0 0,.int .i64 2] (V3 (q+1))) 268 (0,0))]::g::H)) (hoff:=(by rw [T3 rfl]; show 6+Int.toNat ((q:Nat):Int) * 1+1≤262; omega)) (hfz:=(fun _ _=>thaw0)) (hc':=grpC_set (k:=q) rfl (by rw [Int.toNat_natCast]; omega) (by omega) (fun j _=>finK_succ (cnt_m2 hz) j)) (k:=A7 [] [0,3,9,57,58] (k:=A0 (G_p [0,0,0] [0,3,9,57,58] (k:=B7 ?_))))))))
    refine A0 (A2 (A3 (j:=1) [0] (k:=D1 82 (((q:Nat):Int)+1) (by omega) (by omega) kr (B1 (E':=[⟨0,[],.slice a 4 cap⟩,⟨3,[],pt b1⟩,⟨9,[],.int .u8 (IntKind.wrap .u8 ((cnt q)+1))⟩,⟨57,[],(.agg (mapL m1).toArray)⟩,⟨58,[],.int .i64 (((q:Nat):Int)+1)⟩]) [0] [0,3,9,57,58] (k:=?_)))))
    have hc9:IntKind.wrap .u8 ((cnt q)+1)=cnt (q+1):=by rw [cnt_succ,show m1 q=1 by omega]; rw [show IntKind.wrap .u8 (cnt q+1)=(cnt q+1) % 256 from by first | rfl | simp [IntKind.wrap,IntKind.bits,IntKind.signed]]; omega
    refine M0 (E':=[⟨0,[],.slice a 4 cap⟩,⟨3,[],pt b1⟩,⟨9,[],.int .u8 (cnt (q+1))⟩,⟨57,[],(.agg (mapL m1).toArray)⟩,⟨58,[],.int .i64 (((q:Nat):Int)+1)⟩]) (by rw [hc9]) (D2 (s':=(q+1)) [0,3,9,57,58] kr kr (by omega) (by omega))
  ·
   have hql:=hc6; simp only [decide_eq_false_iff_not] at hql
   have hq6:q=256:=by omega
   refine E8 (A6 (A6 (B5 (A0 (A1 (A2 (A3 (j:=4) [0,0,0,0] (k:=C5 (ch:=[]) (b:=b1) (off:=5) (v:=.int .i64 2) (hA:=At.grp 0 0 rfl rfl) (hv:=L3 rfl) (k:=?_)))))))))
   refine GL_makeS (ch:=[]) (t:=264) (e:=263) (inf:=Tryz.t263) (l:=2) (c:=[.pointer none,.pointer none]) (z:=.pointer none) (hz:=kr) (hb:=of_decide_eq_true kr) (hl:=of_decide_eq_true kr) (hm:=of_decide_eq_true kr) (hc:=kr) (k:=(fun b10=>A3 (j:=9) [0,0,0] (k:=N3 (ch:=[]) (b:=b1) (off:=4) (v:=.slice (some ⟨b10,0,none⟩) 2 2) (c:=(I2 [.string eB,.int .i64 0,.string eB,.pointer none,.slice none 0 0,.int .i64 2] (V3 q))) (c':=(I2 [.string eB,.int .i64 0,.string eB,.pointer none,.slice (some ⟨b10,0,none⟩) 2 2,.int .i64 2] (V3 q))) (j:=1) (m:=0) (H':=([(b10,.cells #[.pointer none,.pointer none] 263 (0,0))]::[(b1,.cells (I2 [.string eB,.int .i64 0,.string eB,.pointer none,.slice (some ⟨b10,0,none⟩) 2 2,.int .i64 2] (V3 q)) 268 (0,0))]::g::H)) (hoff:=(by rw [T3 rfl]; show 4+1≤262; omega)) (hfz:=(fun _ _=>thaw0)) (hc':=grpC_sethd (Nat.le_of_ble_eq_true rfl) rfl) (k:=A7 [] [0,3] (k:=A0 (A1 (A1 (G_p [0] [0,3,12] (k:=A0 ?_)))))))))
   refine B4 (T5 (H':=([(b10,.cells #[.pointer none,.pointer none] 263 (0,0))]::[(b1,.cells (I2 [.string eB,.int .i64 0,.string eB,.pointer none,.slice (some ⟨b10,0,none⟩) 2 2,.int .i64 2] (V3 256)) 268 (0,0))]::g::H)) (fun w h=>by rw [hq6] at h; exact h) (M7 3 (E9 (A1 (A1 (G_p [0,0,0,0] [0,3,12,95] (k:=A0 (C4 kr ?_))))))))
   refine A8 (A0 (A1 (B4 (H5 (g::H) kr (G0 (fuel:=17) [(0,0)] (fun w h=>(h.pk 2 [2])) (k:=K3 (ad:=⟨b1,0,none⟩) 1 (hL:=(fun w h=>(h.pk 2 [2]))) (k:=G0 (fuel:=13) [(2,0),(3,0),(4,0)] (fun w h=>(h.pk 2 [2])) (k:=F5 5 kr (fun w h=>(h.pk 2 [2])) (E6 4 0 1 hr (by exact ⟨by decide,by decide,by intro h; cases h⟩) (G2 kr rfl)) ?_))))))))
   refine F5 6 kr (fun w h=>(h.pk 2 [2])) (H6 (0 * 1) (.string (mB #[13,10])) hr (D7 0 rfl) (fun _=>rfl) (G2 kr rfl)) (G0 (fuel:=8) [(7,0),(8,0),(9,0)] (fun w h=>(h.pk 2 [2])) (k:=F5 10 kr (fun w h=>(h.pk 2 [2])) (E6 4 1 1 hr (by exact ⟨by decide,by decide,by intro h; cases h⟩) (G2 kr rfl)) (F5 11 kr (fun w h=>(h.pk 2 [2])) (H6 (1 * 1) (.string (mB #[10])) hr (D7 0 rfl) (fun _=>rfl) (G2 kr rfl)) (G0 (fuel:=5) [(12,0)] (fun w h=>(h.pk 2 [2])) (k:=X4 (v:=.int .i64 4) 13 (hL:=(fun w h=>(h.pk 2 [2]))) (k:=G0 (fuel:=1) [(14,0),(15,0),(16,0)] (fun w h=>(h.pk 2 [2])) (k:=D4 17 (k:=M9 0 [1] ?_))))))))
   refine D9 Tryz.func229 (addR2_ b1 b10 _ _) ?_
   rintro _ _ ⟨n11,n12,rfl⟩
   refine B3 kr (fun w h=>(h.pk 4 [4])) (F8 (E':=[⟨0,[],.slice a 4 cap⟩,⟨3,[],pt b1⟩,⟨12,[],.int .i64 0⟩]) [0,3,12] (k:=B7 (A0 (G_p [0,0,0] [0,3,12] (k:=N_rd (E9 (A1 (A1 ?_))))))))
   refine G_p [0,0,0,0] [0,3,12,95] (k:=A0 (C4 kr (A8 (A0 (A1 (B4 (H5 (g::H) kr (G0 (fuel:=17) [(0,0)] (fun w h=>(h.pk 4 [4])) (k:=?_)))))))))
   refine K3 (ad:=⟨b1,0,none⟩) 1 (hL:=(fun w h=>(h.pk 4 [4]))) (k:=G0 (fuel:=13) [(2,0),(3,0),(4,0)] (fun w h=>(h.pk 4 [4])) (k:=F5 5 kr (fun w h=>(h.pk 4 [4])) (E6 4 2 1 hr (by exact ⟨by decide,by decide,by intro h; cases h⟩) (G2 kr rfl)) (F5 6 kr (fun w h=>(h.pk 4 [4])) (H6 (2 * 1) (.string (mB #[13])) hr (D7 0 rfl) (fun _=>rfl) (G2 kr rfl)) (G0 (fuel:=8) [(7,0),(8,0),(9,0)] (fun w h=>(h.pk 4 [4])) (k:=F5 10 kr (fun w h=>(h.pk 4 [4])) (E6 4 3 1 hr (by exact ⟨by decide,by decide,by intro h; cases h⟩) (G2 kr rfl)) (F5 11 kr (fun w h=>(h.pk 4 [4])) (H6 (3 * 1) (.string (mB #[10])) hr (D7 0 rfl) (fun _=>rfl) (G2 kr rfl)) (G0 (fuel:=5) [(12,0)] (fun w h=>(h.pk 4 [4])) (k:=X4 (v:=.int .i64 4) 13 (hL:=(fun w h=>(h.pk 4 [4]))) (k:=?_)))))))))
   refine G0 (fuel:=1) [(14,0),(15,0),(16,0)] (fun w h=>(h.pk 4 [4])) (k:=D4 17 (k:=D9 Tryz.func229 (addR1_ b1 b10 n11 n12 _ _) ?_))
   rintro _ _ rfl
   refine B3 kr (fun w h=>(h.pk 4 [4])) (F8 (E':=[⟨0,[],.slice a 4 cap⟩,⟨3,[],pt b1⟩,⟨12,[],.int .i64 2⟩]) [0,3,12] (k:=B7 (A0 (G_p [0,0,0] [0,3,12] (k:=N_rd (E9 (A1 (A1 ?_))))))))
   refine G_p [0,0,0,0] [0,3,12,95] (k:=A0 (C8 kr (E8 (A6 (A6 (B5 (A0 (A1 ?_))))))))
   refine C1 (E':=[⟨2,[],pt b1⟩]) [0,0] [2] (k:=A0 (B9 (B6 [.tmp 2] [pt b1] (k:=?_))))
   exact ⟨_,_,_,_,rfl,rfl⟩
end Go.Proofs.YtppgfiklmfoaeaaGreatDoor
namespace Go.Xml
open Go.Esc Go.Json
theorem drop_getD {l:List UInt8} {i:Nat} (h:i<l.length):l.drop i=l.getD i 0::l.drop (i+1):=by
  rw [List.drop_eq_getElem_cons h]; congr 1; simp [List.getD,h]
theorem take_dropS {l:List UInt8} {last i:Nat} (hl:last≤i) (h:i<l.length):(l.drop last).take (i+1 - last)=(l.drop last).take (i - last)++[l.getD i 0]:=by
  have h1:i - last<(l.drop last).length:=by rw [List.length_drop]; omega
  rw [show i+1 - last=i - last+1 by omega,List.take_succ_eq_append_getElem h1]
  congr 2
  rw [List.getElem_drop]; simp [List.getD,h,show last+(i - last)=i by omega]
theorem lin_step {l out:List UInt8} {last i:Nat} (h:B0 l=out++((l.drop last).take (i - last)++B0 (l.drop i))) (hl:last≤i) (hi:i<l.length) (hb:l.getD i 0≠13):B0 l=out++((l.drop last).take (i+1 - last)++B0 (l.drop (i+1))):=by
  rw [h,drop_getD hi,lines_no hb,take_dropS hl hi,List.append_assoc]; rfl
theorem lin_one {l out:List UInt8} {last i:Nat} (h:B0 l=out++((l.drop last).take (i - last)++B0 (l.drop i))) (hi:i<l.length) (hb:l.getD i 0=13) (hn:¬ (i+1<l.length∧l.getD (i+1) 0=10)):B0 l=((out++(l.drop last).take (i - last))++[10])++((l.drop (i+1)).take (i+1 - (i+1))++B0 (l.drop (i+1))):=by
  have h1:B0 (l.drop i)=10::B0 (l.drop (i+1)):=by
    rw [drop_getD hi,hb,lines_13]
    intro u hu
    have h2:i+1<l.length:=by
      have:=congrArg List.length hu
      rw [List.length_drop,List.length_cons] at this; omega
    refine hn ⟨h2,?_⟩
    rw [drop_getD h2] at hu
    injection hu
  rw [h,h1,Nat.sub_self,List.take_zero,List.nil_append]
  simp only [List.append_assoc]; rfl
theorem lin_two {l out:List UInt8} {last i:Nat} (h:B0 l=out++((l.drop last).take (i - last)++B0 (l.drop i))) (hi:i+1<l.length) (hb:l.getD i 0=13) (hn:l.getD (i+1) 0=10):B0 l=((out++(l.drop last).take (i - last))++[10])++((l.drop (i+2)).take (i+2 - (i+2))++B0 (l.drop (i+2))):=by
  have h1:B0 (l.drop i)=10::B0 (l.drop (i+2)):=by
    rw [drop_getD (by omega),hb,drop_getD hi,hn,lines_cr]
  rw [h,h1,Nat.sub_self,List.take_zero,List.nil_append]
  simp only [List.append_assoc]; rfl
theorem lin_at {l out:List UInt8} {last i:Nat} (h:B0 l=out++((l.drop last).take (i - last)++B0 (l.drop i))) (hl:last≤i) (hi:i=l.length):B0 l=out++((l.drop last).take (i+1 - last)++B0 (l.drop (i+1))):=by
  have e1:(l.drop last).take (i+1 - last)=l.drop last:=List.take_of_length_le (by rw [List.length_drop]; omega)
  have e2:(l.drop last).take (i - last)=l.drop last:=List.take_of_length_le (by rw [List.length_drop]; omega)
  rw [h,e1,e2,List.drop_eq_nil_of_le (show l.length≤i by omega),List.drop_eq_nil_of_le (show l.length≤i+1 by omega)]
theorem lin_fin {l out:List UInt8} {last i:Nat} (h:B0 l=out++((l.drop last).take (i - last)++B0 (l.drop i))) (hi:l.length≤i):B0 l=out++l.drop last:=by
  have e1:(l.drop last).take (i - last)=l.drop last:=List.take_of_length_le (by rw [List.length_drop]; omega)
  rw [h,e1,List.drop_eq_nil_of_le hi,show B0 []=[] from rfl,List.append_nil]
end Go.Xml
namespace Go.Proofs.YtppgfiklmfoaeaaGreatDoor
open Go.Sw Go.Sha Go.Esc Go.Json Go.Xml
theorem byte3 (b:UInt8):b=13∨b=10∨(b≠13∧m2 b.toNat=2):=by
  by_cases h1:b=13
  · exact .inl h1
  by_cases h2:b=10
  · exact .inr (.inl h2)
  refine .inr (.inr ⟨h1,?_⟩)
  have e1:b.toNat≠10:=fun h=>h2 (UInt8.toNat_inj.1 h)
  have e2:b.toNat≠13:=fun h=>h1 (UInt8.toNat_inj.1 h)
  unfold m2
  rw [if_neg e1,if_neg e2]
theorem ba_of {a:ByteArray} {l:List UInt8} (h:a.data.toList=l):a=bk l:=ByteArray.ext (Array.ext' h)
theorem ext_mid (l:List UInt8) (a b:Nat):((bk l).extract a b).data.toList=(l.drop a).take (b - a):=ext_list (bk l) a b
theorem app_list (a b:ByteArray):(a++b).data.toList=a.data.toList++b.data.toList:=by rw [ByteArray.data_append,Array.toList_append]
theorem lookup_ (b t n1 n2:Nat) (l:List UInt8) (hl:l.length≤1000000000000) (h13:l=[]∨l.getD 0 0=13) (W0:World) (H:List Grp):Tri Tryz.prog 281 #[pt b,.string (bk l),.bool false] W0 ([(b,.cells (I2 [.string eB,.int .i64 0,.string eB,.pointer none,.slice (some ⟨t,0,none⟩) 2 2,.int .i64 2] (V3 256)) 268 (0,0))]::[(t,.cells #[.pointer none,pt n1] 263 (0,0))]::[(n1,.cells #[.string (mB #[10]),.int .i64 2,.string (mB #[10]),pt n2,.slice none 0 0] 266 (0,0))]::[(n2,.cells #[.string (mB #[10]),.int .i64 4,.string eB,.pointer none,.slice none 0 0] 266 (0,0))]::H) (fun v H'=>((l=[]∧v=.tuple #[.string eB,.int .i64 0,.bool false])∨(l≠[]∧¬ (1<l.length∧l.getD 1 0=10)∧v=.tuple #[.string (mB #[10]),.int .i64 1,.bool true])∨(1<l.length∧l.getD 1 0=10∧v=.tuple #[.string (mB #[10]),.int .i64 2,.bool true]))∧H'=([(b,.cells (I2 [.string eB,.int .i64 0,.string eB,.pointer none,.slice (some ⟨t,0,none⟩) 2 2,.int .i64 2] (V3 256)) 268 (0,0))]::[(t,.cells #[.pointer none,pt n1] 263 (0,0))]::[(n1,.cells #[.string (mB #[10]),.int .i64 2,.string (mB #[10]),pt n2,.slice none 0 0] 266 (0,0))]::[(n2,.cells #[.string (mB #[10]),.int .i64 4,.string eB,.pointer none,.slice none 0 0] 266 (0,0))]::H)):=by
 have hbz:=D5 l
 refine D3 107 Tryz.func281 ?_
 refine A1 (G_p [0,0,0] [0,1,2,6,7,8] (k:=A0 (A1 (G_p [0] [0,1,2,6,7,8,9] (k:=A0 (A1 (G_p [0,0,0,0] [0,1,2,6,7,8,9,10] (k:=A0 ?_))))))))
 refine A1 (G_p [0] [0,1,2,6,7,8,9,10,11] (k:=A0 (A1 (B4 (M7 4 (E9 (A1 (A1 ?_))))))))
 refine G_p [0,0] [0,1,2,6,7,8,9,10,11,17] (k:=A0 (C4 kr (A8 (A0 (B4 (A1 (A1 (A2 ?_))))))))
 refine A3 (j:=3) [0,0,0] (k:=C5 (ch:=[]) (b:=b) (off:=1) (v:=.int .i64 0) (hA:=At.grp 0 0 rfl rfl) (hv:=L3 rfl) (k:=B1 (E':=[⟨0,[],pt b⟩,⟨1,[],.string (bk l)⟩,⟨2,[],.bool false⟩,⟨6,[],.string eB⟩,⟨7,[],.int .i64 0⟩,⟨8,[],.bool false⟩,⟨9,[],.int .i64 0⟩,⟨10,[],pt b⟩,⟨11,[],.int .i64 0⟩,⟨34,[],.bool false⟩]) [0,0,0,1,1,1,1,1,1,1,1,1,3] [0,1,2,6,7,8,9,10,11,34] (k:=A0 (C8 kr (A8 (A0 (A1 (A1 ?_))))))))
 refine G_p [0,0] [0,1,2,6,7,8,9,10,11,45] (k:=A0 (B2 (b:=(bk l).toList==eB.toList) kr (fun hc1=>?_) (fun hc1=>?_)))
 ·
  have h1:l=[]:=(eqB _ _).1 hc1
  refine E8 (A6 (P4 rfl (A6 (B5 (A0 (B9 (B6 [.tmp 6,.tmp 7,.tmp 8] [.string eB,.int .i64 0,.bool false] (k:=?_))))))))
  exact ⟨.inl ⟨h1,rfl⟩,rfl⟩
 ·
  have h1:l≠[]:=(eqBf _ _).1 hc1
  replace h13:=h13.resolve_left h1
  have hlp:=List.length_pos_iff.2 h1
  refine A8 (A0 (A1 (A2 (A3 (j:=3) [0,0,0] (k:=C5 (ch:=[]) (b:=b) (off:=4) (v:=.slice (some ⟨t,0,none⟩) 2 2) (hA:=At.grp 0 0 rfl rfl) (hv:=L3 rfl) (k:=A7 [0] [0,1,2,6,7,8,9,10,11,50] (k:=A0 (C4 kr ?_))))))))
  refine A1 (I1 (k:=A3 (j:=2) [0,0] (k:=H0 (bk l) 0 (by intro _; exact ⟨by omega,by omega⟩) ?_)))
  have hb2:=F3 (bk l) 0
  refine A3 (j:=5) [0,0] (k:=D8 (ch:=[]) (b:=b) (off:=6) (len:=256) (sz:=1) (e:=5) (kd:=.u8) (j:=A9 (bk l) 0) (hb:=(fun _=>by rw [byteJ0,h13]; exact ⟨by decide,by decide⟩)) (k:=C5 (ch:=[]) (b:=b) (off:=6+Int.toNat (A9 (bk l) 0) * 1) (v:=.int .u8 1) (hA:=At.grp 0 0 rfl rfl) (hv:=grpC_at (k:=13) rfl (by rw [byteJ0,h13]; rfl) (by decide) rfl) (k:=A7 [0] [0,1,2,6,7,8,9,10,11,12] (k:=A0 (A1 (A1 (A2 (A3 (j:=5) [0,0,0,0,0] (k:=?_)))))))))
  refine C5 (ch:=[]) (b:=b) (off:=5) (v:=.int .i64 2) (hA:=At.grp 0 0 rfl rfl) (hv:=L3 rfl) (k:=A7 [0] [0,1,2,6,7,8,9,10,11,12,64] (k:=A0 (C8 kr (A8 (A0 (A1 (A2 (A3 (j:=3) [0,0,0] (k:=?_)))))))))
  refine C5 (ch:=[]) (b:=b) (off:=4) (v:=.slice (some ⟨t,0,none⟩) 2 2) (hA:=At.grp 0 0 rfl rfl) (hv:=L3 rfl) (k:=A3 (j:=5) [0] (k:=J0 (ch:=[]) (a:=(some ⟨t,0,none⟩)) (len:=2) (cap:=2) (kd:=.u8) (j:=1) (e:=263) (sz:=1) (S:=(inG [(t,.cells #[.pointer none,pt n1] 263 (0,0))])) (cs:=[.pointer none,pt n1]) (hrd:=Rd.lit) (hb:=(fun _=>by exact ⟨by decide,by decide,by intro h; cases h⟩)) (k:=GL_env (E':=[⟨70,[],.pointer (some ⟨t,1,none⟩)⟩,⟨69,[],.int .u8 1⟩,⟨68,[],.slice (some ⟨t,0,none⟩) 2 2⟩,⟨67,[],.pointer (some ⟨b,4,none⟩)⟩,⟨66,[],pt b⟩,⟨65,[],pt b⟩,⟨0,[],pt b⟩,⟨1,[],.string (bk l)⟩,⟨2,[],.bool false⟩,⟨6,[],.string eB⟩,⟨7,[],.int .i64 0⟩,⟨8,[],.bool false⟩,⟨9,[],.int .i64 0⟩,⟨10,[],pt b⟩,⟨11,[],.int .i64 0⟩,⟨12,[],.int .u8 1⟩,⟨64,[],.bool false⟩]) kr (C6 1 1 rfl rfl (A7 [0] [0,1,2,6,7,8,9,10,11] (k:=A0 (A1 (A2 ?_))))))))
  refine A3 (j:=1) [0] (k:=N4 (bk l) 1 ((bk l).size:Int) (by intro _; exact ⟨by omega,by omega,by omega⟩) (E5 73 (x:=.string ((bk l).extract 1 (bk l).size)) (y:=.string (bk (l.drop 1))) (by rw [ext_bk]) (B1 (E':=[⟨0,[],pt b⟩,⟨1,[],.string (bk (l.drop 1))⟩,⟨2,[],.bool false⟩,⟨6,[],.string eB⟩,⟨7,[],.int .i64 0⟩,⟨8,[],.bool false⟩,⟨9,[],.int .i64 0⟩,⟨10,[],pt n1⟩,⟨11,[],.int .i64 0⟩]) [0] [0,1,2,6,7,8,9,10,11] (k:=A0 (G_p [0,0,0] [0,1,2,6,7,8,9,10,11] (k:=B7 (N_rd (E9 ?_))))))))
  refine A1 (A1 (G_p [0,0] [0,1,2,6,7,8,9,10,11,17] (k:=A0 (C4 kr (A8 (A0 (B4 (A1 ?_))))))))
  refine A1 (A2 (A3 (j:=3) [0,0,0] (k:=C6 2 1 rfl rfl (A7 [0,0,0,0,0,1,1,1,1,1,3,0,2] [0,1,2,6,7,8,9,10,11,34] (k:=A0 (C4 kr (A1 (A2 ?_))))))))
  refine A3 (j:=3) [0,0,0] (k:=C6 2 1 rfl rfl (A7 [0] [0,1,2,9,10,11] (k:=A0 (A1 (A2 (A3 (j:=3) [0,0,0] (k:=C6 2 0 rfl rfl (A7 [0] [0,1,2,6,9,10,11] (k:=?_)))))))))
  refine A0 (A1 (C1 (E':=[⟨0,[],pt b⟩,⟨1,[],.string (bk (l.drop 1))⟩,⟨2,[],.bool false⟩,⟨6,[],.string (mB #[10])⟩,⟨7,[],.int .i64 1⟩,⟨9,[],.int .i64 2⟩,⟨10,[],pt n1⟩,⟨11,[],.int .i64 1⟩]) [0,0] [0,1,2,6,7,9,10,11] (k:=A0 (G_p [0] [0,1,2,6,7,8,9,10,11] (k:=A0 (A1 (A1 (G_p [0,0] [0,1,2,6,7,8,9,10,11,45] (k:=?_)))))))))
  refine A0 (B2 (b:=(bk (l.drop 1)).toList==eB.toList) kr (fun hc3=>?_) (fun hc3=>?_))
  ·
   have h2:l.drop 1=[]:=(eqB _ _).1 hc3
   have h2l:l.length≤1:=by have:=congrArg List.length h2; rw [List.length_drop,List.length_nil] at this; omega
   refine E8 (A6 (P4 rfl (A6 (B5 (A0 (B9 (B6 [.tmp 6,.tmp 7,.tmp 8] [.string (mB #[10]),.int .i64 1,.bool true] (k:=?_))))))))
   exact ⟨.inr (.inl ⟨h1,fun h=>absurd h.1 (by omega),rfl⟩),rfl⟩
  ·
   have h2:l.drop 1≠[]:=(eqBf _ _).1 hc3
   have h2l:1<l.length:=by have:=List.length_pos_iff.2 h2; rw [List.length_drop] at this; omega
   refine A8 (A0 (A1 (A2 (A3 (j:=3) [0,0,0] (k:=C6 2 4 rfl rfl (A7 [0] [0,1,2,6,7,8,9,10,11,50] (k:=A0 (C8 kr ?_))))))))
   refine A1 (A2 (A3 (j:=3) [0,0,0] (k:=C6 2 2 rfl rfl (A3 (j:=5) [0] (k:=E5 80 (x:=.bool (!((mB #[10]).toList==eB.toList))) (y:=.bool true) (by rw [show (!((mB #[10]).toList==eB.toList))=true from by kernel_rfl]) (A3 (j:=10) [0,0,0,0,0] (k:=C5 (ch:=[(81,true)]) (b:=n1) (off:=2) (v:=.string (mB #[10])) (hA:=At.grp 2 0 rfl rfl) (k:=P6 [(81,true)] Tryz.func77 (fun hc=>jhas_ (bk (l.drop 1)) (mB #[10]) _ _) ?_))))))))
   refine A7 [2] [0,1,2,6,7,8,9,10,11,88] (k:=A0 (B2 (b:=I3 (bk (l.drop 1)) (mB #[10])) kr (fun hc4=>?_) (fun hc4=>?_)))
   ·
    have h10:(l.drop 1).take 1=[10]:=(N8 _ _).1 hc4
    have hg:l.getD 1 0=10:=by rw [Go.Xml.drop_getD h2l] at h10; injection h10
    refine A1 (A2 (A3 (j:=4) [0,0,0,0] (k:=C6 2 2 rfl rfl (A7 [0,0,0] [0,1,2,6,7,8,9,10,11] (k:=A0 (A1 (A2 (A3 (j:=4) [0,0,0,0] (k:=?_)))))))))
    refine C6 2 2 rfl rfl (A3 (j:=6) [0] (k:=N4 (bk (l.drop 1)) 1 ((bk (l.drop 1)).size:Int) (by intro _; rw [D5,List.length_drop]; exact ⟨by omega,by omega,by omega⟩) (E5 102 (x:=.string ((bk (l.drop 1)).extract 1 (bk (l.drop 1)).size)) (y:=.string (bk ((l.drop 1).drop 1))) (by rw [ext_bk]) (B1 (E':=[⟨0,[],pt b⟩,⟨1,[],.string (bk ((l.drop 1).drop 1))⟩,⟨2,[],.bool false⟩,⟨6,[],.string (mB #[10])⟩,⟨7,[],.int .i64 1⟩,⟨8,[],.bool true⟩,⟨9,[],.int .i64 2⟩,⟨10,[],pt n1⟩,⟨11,[],.int .i64 2⟩]) [0] [0,1,2,6,7,8,9,10,11] (k:=A0 (A2 (A3 (j:=3) [0,0,0] (k:=C6 2 3 rfl rfl ?_))))))))
    refine A7 [0] [0,1,2,6,7,8,9,10,11] (k:=B7 (N_rd (E9 (A1 (A1 (G_p [0,0] [0,1,2,6,7,8,9,10,11,17] (k:=A0 (C4 kr ?_))))))))
    refine A8 (A0 (B4 (A1 (A1 (A2 (A3 (j:=3) [0,0,0] (k:=C6 3 1 rfl rfl (A7 [0,0,0,0,0,1,1,1,1,1,3,0,2] [0,1,2,6,7,8,9,10,11,34] (k:=?_)))))))))
    refine A0 (C4 kr (A1 (A2 (A3 (j:=3) [0,0,0] (k:=C6 3 1 rfl rfl (A7 [0] [0,1,2,9,10,11] (k:=A0 (A1 ?_))))))))
    refine A2 (A3 (j:=3) [0,0,0] (k:=C6 3 0 rfl rfl (A7 [0] [0,1,2,6,9,10,11] (k:=A0 (A1 (C1 (E':=[⟨0,[],pt b⟩,⟨1,[],.string (bk ((l.drop 1).drop 1))⟩,⟨2,[],.bool false⟩,⟨6,[],.string (mB #[10])⟩,⟨7,[],.int .i64 2⟩,⟨9,[],.int .i64 4⟩,⟨10,[],pt n2⟩,⟨11,[],.int .i64 2⟩]) [0,0] [0,1,2,6,7,9,10,11] (k:=A0 (G_p [0] [0,1,2,6,7,8,9,10,11] (k:=?_)))))))))
    refine A0 (A1 (A1 (G_p [0,0] [0,1,2,6,7,8,9,10,11,45] (k:=A0 (B2 (b:=(bk ((l.drop 1).drop 1)).toList==eB.toList) kr (fun hc5=>?_) (fun hc5=>?_))))))
    ·
     skip
     refine E8 (A6 (P4 rfl (A6 (B5 (A0 (B9 (B6 [.tmp 6,.tmp 7,.tmp 8] [.string (mB #[10]),.int .i64 2,.bool true] (k:=?_))))))))
     exact ⟨.inr (.inr ⟨h2l,hg,rfl⟩),rfl⟩
    ·
     skip
     refine A8 (A0 (A1 (A2 (A3 (j:=3) [0,0,0] (k:=C6 3 4 rfl rfl (A7 [0] [0,1,2,6,7,8,9,10,11,50] (k:=A0 (C8 kr ?_))))))))
     refine A1 (A2 (A3 (j:=3) [0,0,0] (k:=C6 3 2 rfl rfl (A3 (j:=5) [0] (k:=E5 80 (x:=.bool (!(eB.toList==eB.toList))) (y:=.bool false) (by rw [show (!(eB.toList==eB.toList))=false from by kernel_rfl]) (A7 [0,1,1,1,1,1,1,3] [0,1,2,6,7,8,9,10,11,88] (k:=A0 (C8 kr ?_))))))))
     refine E8 (P4 rfl (A6 (B5 (A0 (B9 (B6 [.tmp 6,.tmp 7,.tmp 8] [.string (mB #[10]),.int .i64 2,.bool true] (k:=?_)))))))
     exact ⟨.inr (.inr ⟨h2l,hg,rfl⟩),rfl⟩
   ·
    have h10:¬ (l.drop 1).take 1=[10]:=(N6 _ _).1 hc4
    have hg:¬ l.getD 1 0=10:=fun hn=>h10 (by rw [Go.Xml.drop_getD h2l,hn]; rfl)
    refine E8 (P4 rfl (A6 (B5 (A0 (B9 (B6 [.tmp 6,.tmp 7,.tmp 8] [.string (mB #[10]),.int .i64 1,.bool true] (k:=?_)))))))
    exact ⟨.inr (.inl ⟨h1,fun h=>hg h.2,rfl⟩),rfl⟩
theorem aswStr_ (wb:Nat) (v:Value) (g:Grp) (t s:ByteArray) (hv:BOwn v g t) (hs:t.size+s.size≤140737488355328) (W0:World) (H:List Grp):Tri Tryz.prog 291 #[pt wb,.string s] W0 ([(wb,.cells #[v] 308 (0,0))]::g::H) (fun r H'=>r=.tuple #[.int .i64 (s.size:Int),.nilIface]∧∃ v' g',BOwn v' g' (t++s)∧H'=[(wb,.cells #[v'] 308 (0,0))]::g'::H):=by
 refine D3 15 Tryz.func291 ?_
 refine A1 (C1 (E':=[⟨0,[],pt wb⟩,⟨1,[],.string s⟩]) [0,0] [0,1] (k:=A0 (A1 (A2 (A3 (j:=3) [0,0,0] (k:=C6 0 0 rfl rfl (A3 (j:=5) [0] (k:=GL_append (i:=5) (ch:=[]) (t:=308) (tx:=9) (e:=5) (inf:=Tryz.t5) (s:=v) (x:=.string s) (n:=t.size) (m:=s.size) (j:=1) (cs:=(u8s t.data.toList)) (news:=(u8s s.data.toList)) (g:=g) (S:=(inB W0)) rfl rfl rfl rfl kr kr kr rfl rfl (.inr ⟨kr,rfl⟩) (fun _=>⟨rfl,kr⟩) (fun ⟨_,_,_,h⟩=>by cases h) kr kr kr rfl hv (SrcOf.str s) at_inB (by rw [show (u8s s.data.toList).length=_ from List.length_map _,Array.length_toList]; exact (Nat.mul_one _).symm) u8_one (by omega) (by show (t.size+s.size) * 1≤140737488355328; omega) (fun v1 g2 hO3=>?_)))))))))
 obtain ⟨a4,cap5,rfl,hcap6,hrd7⟩:=hO3.shape
 refine A3 (j:=7) [0] (k:=E3 0 0 (.slice a4 (t.size+s.size) cap5) rfl (B1 (E':=[⟨1,[],.string s⟩]) [] [1] (k:=A0 (A1 (G_p [0,0,0,0] [4,5] (k:=A0 (B9 (B6 [.tmp 4,.tmp 5] [.int .i64 (s.size:Int),.nilIface] (k:=?_)))))))))
 exact ⟨rfl,_,_,own_text hO3 rfl (by simp [ByteArray.size_append]),rfl⟩
theorem getSW_ (wb:Nat) (W0:World) (H:List Grp):Tri Tryz.prog 280 #[.iface 309 (pt wb)] W0 H (fun v H'=>v=.iface 309 (pt wb)∧H'=H):=by
 refine D3 16 Tryz.func280 ?_
 refine A1 (C1 (E':=[⟨0,[],.iface 309 (pt wb)⟩]) [0] [0] (k:=A0 (A1 (A2 (A3 (j:=1) [0] (k:=GL_assertI (i:=1) (ch:=[]) (xt:=311) (t:=313) (b:=true) (u:=.iface 309 (pt wb)) (v:=.tuple #[.iface 309 (pt wb),.bool true]) rfl rfl kr (fun w=>by kernel_rfl) kr kr kr (A7 [0,0,0,0,0] [0,3,4] (k:=A0 ?_))))))))
 refine A1 (A1 (G_p [0,0] [0,3,11] (k:=A0 (C8 kr (A8 (A0 (A1 (C1 (E':=[⟨2,[],.iface 309 (pt wb)⟩]) [0,0] [2] (k:=?_)))))))))
 refine A0 (B9 (B6 [.tmp 2] [.iface 309 (pt wb)] (k:=?_)))
 exact ⟨rfl,rfl⟩
theorem genWrite_ (b t n1 n2 wb:Nat) (v:Value) (g:Grp) (l:List UInt8) (hl:l.length≤1000000000000) (hv:BOwn v g (bk [])) (W0:World) (H:List Grp):Tri Tryz.prog 279 #[pt b,.iface 309 (pt wb),.string (bk l)] W0 ([(b,.cells (I2 [.string eB,.int .i64 0,.string eB,.pointer none,.slice (some ⟨t,0,none⟩) 2 2,.int .i64 2] (V3 256)) 268 (0,0))]::[(t,.cells #[.pointer none,pt n1] 263 (0,0))]::[(n1,.cells #[.string (mB #[10]),.int .i64 2,.string (mB #[10]),pt n2,.slice none 0 0] 266 (0,0))]::[(n2,.cells #[.string (mB #[10]),.int .i64 4,.string eB,.pointer none,.slice none 0 0] 266 (0,0))]::[(wb,.cells #[v] 308 (0,0))]::g::H) (fun r H'=>∃ n v' g',r=.tuple #[.int .i64 n,.nilIface]∧BOwn v' g' (bk (B0 l))∧H'=([(b,.cells (I2 [.string eB,.int .i64 0,.string eB,.pointer none,.slice (some ⟨t,0,none⟩) 2 2,.int .i64 2] (V3 256)) 268 (0,0))]::[(t,.cells #[.pointer none,pt n1] 263 (0,0))]::[(n1,.cells #[.string (mB #[10]),.int .i64 2,.string (mB #[10]),pt n2,.slice none 0 0] 266 (0,0))]::[(n2,.cells #[.string (mB #[10]),.int .i64 4,.string eB,.pointer none,.slice none 0 0] 266 (0,0))]::[(wb,.cells #[v'] 308 (0,0))]::g'::H)):=by
 have hbz:=D5 l
 refine D3 131 Tryz.func279 ?_
 refine A1 (G_p [0,0] [0,1,2,6,7] (k:=A0 (A1 (A2 (A3 (j:=1) [0] (k:=K9 Tryz.func280 (getSW_ wb _ _) (A7 [0] [0,2,6,7,8] (k:=A0 ?_))))))))
 refine A1 (G_p [0,0] [0,2,6,7,8,9] (k:=A0 (A1 (G_p [0] [0,2,6,7,8,9,11] (k:=A0 (A1 (A1 (G_p [0] [0,2,6,7,8,9,11,12] (k:=?_)))))))))
 refine A0 (B4 (J7 (EI:=(fun ξ:Nat × Nat × ByteArray × Value × Grp=>[⟨0,[],pt b⟩,⟨2,[],.string (bk l)⟩,⟨6,[],.int .i64 (ξ.2.2.1.size:Int)⟩,⟨7,[],.nilIface⟩,⟨8,[],.iface 309 (pt wb)⟩,⟨9,[],.int .i64 ((ξ.2.1:Nat):Int)⟩,⟨11,[],.bool false⟩,⟨12,[],.int .i64 ((ξ.1:Nat):Int)⟩])) (HI:=(fun ξ:Nat × Nat × ByteArray × Value × Grp=>([(b,.cells (I2 [.string eB,.int .i64 0,.string eB,.pointer none,.slice (some ⟨t,0,none⟩) 2 2,.int .i64 2] (V3 256)) 268 (0,0))]::[(t,.cells #[.pointer none,pt n1] 263 (0,0))]::[(n1,.cells #[.string (mB #[10]),.int .i64 2,.string (mB #[10]),pt n2,.slice none 0 0] 266 (0,0))]::[(n2,.cells #[.string (mB #[10]),.int .i64 4,.string eB,.pointer none,.slice none 0 0] 266 (0,0))]::[(wb,.cells #[ξ.2.2.2.1] 308 (0,0))]::ξ.2.2.2.2::H))) (Φ:=(fun ξ:Nat × Nat × ByteArray × Value × Grp=>(ξ.1≤l.length+1)∧(ξ.2.1≤ξ.1)∧(ξ.2.1≤l.length)∧(ξ.2.2.1.size≤ξ.2.1)∧(BOwn ξ.2.2.2.1 ξ.2.2.2.2 ξ.2.2.1)∧(B0 l=ξ.2.2.1.data.toList++((l.drop ξ.2.1).take (ξ.1 - ξ.2.1)++B0 (l.drop ξ.1))))) (μ:=(fun ξ:Nat × Nat × ByteArray × Value × Grp=>l.length+2 - ξ.1)) (s0:=(0,0,bk [],v,g)) [0,2,6,7,8,9,11,12] kr rfl ⟨(Nat.zero_le _),(Nat.le_refl _),(Nat.zero_le _),(Nat.le_refl _),hv,rfl⟩ ?_))
 rintro ⟨i,last,q,v,g⟩ ⟨hil,hla,hll,hq,hv,hT⟩
 dsimp only at hil hla hll hq hv hT
 refine A1 (A1 (G_p [0,0,0,0] [0,2,6,7,8,9,11,12,22] (k:=A0 (B2 (b:=decide (((i:Nat):Int)≤((bk l).size:Int))) kr (fun hc1=>?_) (fun hc1=>?_)))))
 ·
  simp only [decide_eq_true_eq] at hc1
  have hle:=hc1
  refine A8 (A0 (B4 (A1 (A1 (A2 (A3 (j:=9) [0,0,0,0,0,0,0,0,0] (k:=C5 (ch:=[(27,true)]) (b:=b) (off:=1) (v:=.int .i64 0) (hA:=At.grp 0 0 rfl rfl) (hv:=L3 rfl) (k:=A7 [0,6] [0,2,6,7,8,9,11,12,34] (k:=?_)))))))))
  refine A0 (B2 (b:=(((i:Nat):Int) != ((bk l).size:Int))&&true) kr (fun hc2=>?_) (fun hc2=>?_))
  ·
   simp only [bne_iff_ne,ne_eq,Bool.and_true] at hc2
   have hlt:=hc2
   refine A1 ?_
   rcases byte3 (l.getD i 0) with hb | hb | hb
   ·
    refine I1 (k:=A3 (j:=3) [0,0,0] (k:=H0 (bk l) ((i:Nat):Int) (by intro _; exact ⟨by omega,by omega⟩) ?_))
    have hb3:=F3 (bk l) ((i:Nat):Int)
    refine A3 (j:=6) [0,0] (k:=D8 (ch:=[]) (b:=b) (off:=6) (len:=256) (sz:=1) (e:=5) (kd:=.u8) (j:=A9 (bk l) ((i:Nat):Int)) (hb:=(fun _=>by exact ⟨by omega,by omega⟩)) (k:=C5 (ch:=[]) (b:=b) (off:=6+Int.toNat (A9 (bk l) ((i:Nat):Int)) * 1) (v:=.int .u8 (m2 (l.getD i 0).toNat)) (hA:=At.grp 0 0 rfl rfl) (hv:=grpC_at (k:=(l.getD i 0).toNat) rfl (by rw [byteJ]; omega) (l.getD i 0).toNat_lt (finK_end (l.getD i 0).toNat_lt)) (k:=E5 42 (x:=.int .u8 (m2 (l.getD i 0).toNat)) (y:=.int .u8 1) (by rw [show m2 (l.getD i 0).toNat=1 by rw [hb]; rfl]) (A7 [0,0] [0,2,6,7,8,9,11,12,13] (k:=A0 (A1 (A2 (A3 (j:=4) [0,0,0,0] (k:=?_)))))))))
    refine C5 (ch:=[]) (b:=b) (off:=5) (v:=.int .i64 2) (hA:=At.grp 0 0 rfl rfl) (hv:=L3 rfl) (k:=A3 (j:=11) [0,0,0,0,0,0] (k:=C5 (ch:=[(50,false)]) (b:=b) (off:=4) (v:=.slice (some ⟨t,0,none⟩) 2 2) (hA:=At.grp 0 0 rfl rfl) (hv:=L3 rfl) (k:=A3 (j:=13) [0] (k:=J0 (ch:=[(50,false)]) (a:=(some ⟨t,0,none⟩)) (len:=2) (cap:=2) (kd:=.i64) (j:=1) (e:=263) (sz:=1) (S:=(inG [(t,.cells #[.pointer none,pt n1] 263 (0,0))])) (cs:=[.pointer none,pt n1]) (hrd:=Rd.lit) (hb:=(fun hc=>by exact ⟨by decide,by decide,by intro h; cases h⟩)) (k:=GL_env (E':=[⟨57,[(50,false)],.pointer (some ⟨t,1,none⟩)⟩,⟨56,[(50,false)],.int .i64 1⟩,⟨55,[(50,false)],.slice (some ⟨t,0,none⟩) 2 2⟩,⟨54,[(50,false)],.pointer (some ⟨b,4,none⟩)⟩,⟨53,[(50,false)],pt b⟩,⟨52,[(50,false)],pt b⟩,⟨51,[(50,false)],pt b⟩,⟨50,[],.bool false⟩,⟨49,[],.bool false⟩,⟨48,[],.int .i64 2⟩,⟨47,[],.pointer (some ⟨b,5,none⟩)⟩,⟨46,[],pt b⟩,⟨45,[],pt b⟩,⟨44,[],.int .i64 1⟩,⟨0,[],pt b⟩,⟨2,[],.string (bk l)⟩,⟨6,[],.int .i64 (q.size:Int)⟩,⟨7,[],.nilIface⟩,⟨8,[],.iface 309 (pt wb)⟩,⟨9,[],.int .i64 ((last:Nat):Int)⟩,⟨11,[],.bool false⟩,⟨12,[],.int .i64 ((i:Nat):Int)⟩,⟨13,[],.int .i64 1⟩]) kr (C5 (ch:=[(50,false)]) (b:=t) (off:=1) (v:=pt n1) (hA:=At.grp 1 0 rfl rfl) (k:=A7 [0,3] [0,2,6,7,8,9,11,12,60] (k:=A0 ?_))))))))
    refine C8 kr (A8 (A0 (A1 (A2 (A3 (j:=3) [0,0,0] (k:=N4 (bk l) ((i:Nat):Int) ((bk l).size:Int) (by intro _; exact ⟨by omega,by omega,by omega⟩) (E5 67 (x:=.string ((bk l).extract i (bk l).size)) (y:=.string (bk (l.drop i))) (by rw [ext_bk]) (A3 (j:=5) [0] (k:=?_)))))))))
    refine D9 Tryz.func281 (lookup_ b t n1 n2 (l.drop i) (by rw [List.length_drop]; omega) (.inr (by rw [Go.Xml.drop_getD (by omega)]; exact hb)) _ _) ?_
    rintro _ _ ⟨⟨hlk,rfl⟩ | ⟨hlk,hlk2,rfl⟩ | ⟨hlk,hlk2,rfl⟩,rfl⟩
    ·
     exact absurd hlk (fun h=>by have:=congrArg List.length h; rw [List.length_drop,List.length_nil] at this; omega)
    ·
     have hxs:((bk l).extract last i).size=i - last:=by rw [ByteArray.size_extract]; omega
     have hno:¬ (i+1<l.length∧l.getD (i+1) 0=10):=by
      rintro ⟨h1,h2⟩
      exact hlk2 ⟨by rw [List.length_drop]; omega,by rw [List.getD_eq_getElem?_getD,List.getElem?_drop,← List.getD_eq_getElem?_getD]; exact h2⟩
     refine A7 [0,0,0,0,0,0,0] [0,2,6,7,8,9,12,14,15,16] (k:=A0 (A1 (C1 (E':=[⟨0,[],pt b⟩,⟨2,[],.string (bk l)⟩,⟨6,[],.int .i64 (q.size:Int)⟩,⟨7,[],.nilIface⟩,⟨8,[],.iface 309 (pt wb)⟩,⟨9,[],.int .i64 ((last:Nat):Int)⟩,⟨11,[],.bool false⟩,⟨12,[],.int .i64 ((i:Nat):Int)⟩,⟨14,[],.string (mB #[10])⟩,⟨15,[],.int .i64 1⟩,⟨16,[],.bool true⟩]) [0,0,0,0,2,0] [0,2,6,7,8,9,11,12,14,15,16] (k:=A0 (A1 (A1 (G_p [0] [0,2,6,7,8,9,11,12,14,15,78] (k:=A0 ?_))))))))
     refine C4 kr (A1 (H5 ([(b,.cells (I2 [.string eB,.int .i64 0,.string eB,.pointer none,.slice (some ⟨t,0,none⟩) 2 2,.int .i64 2] (V3 256)) 268 (0,0))]::[(t,.cells #[.pointer none,pt n1] 263 (0,0))]::[(n1,.cells #[.string (mB #[10]),.int .i64 2,.string (mB #[10]),pt n2,.slice none 0 0] 266 (0,0))]::[(n2,.cells #[.string (mB #[10]),.int .i64 4,.string eB,.pointer none,.slice none 0 0] 266 (0,0))]::H) kr (G0 (fuel:=10) [(0,0),(1,0),(2,0),(3,0)] (fun w h=>(h.pk 2 [0,0,0,0])) (k:=F5 4 kr (fun w h=>(h.pk 2 [0,0,0,0])) (N4 (bk l) ((last : Nat) : Int) ((i : Nat) : Int) (by intro _; exact ⟨by omega,by omega,by omega⟩) (G2 kr rfl)) (G0 (fuel:=8) [(5,0)] (fun w h=>(h.pk 2 [0,0,0,0])) (k:=GH_nilF (fn:=.method "WriteString") (fa:=#[.iface 309 (pt wb)]) (fc:=#[]) 6 (hrun:=(fun w=>by kernel_rfl)) (hL:=(fun w h=>(h.pk 2 [0,0,0,0]))) (k:=G0 (fuel:=6) [(7,0)] (fun w h=>(h.pk 2 [0,0,0,0])) (k:=D4 8 (k:=?_)))))))))
     refine M9 0 [4,4] (R0 (t:=309) (rv:=pt wb) (f:=291) (vs:=[.string ((bk l).extract last i)]) (av:=#[pt wb,.string ((bk l).extract last i)]) (hm:=(fun _=>by kernel_rfl)) (hc:=aswStr_ wb (v) g q ((bk l).extract last i) hv (by first | (rw [ByteArray.size_extract]; omega) | (rw [ByteArray.size_append,ByteArray.size_extract]; omega) | (show _+1≤_; rw [ByteArray.size_append,ByteArray.size_extract]; omega)) _ _) (k:=?_))
     rintro _ _ ⟨rfl,v4,g5,hO6,rfl⟩
     refine B3 kr (fun w h=>(h.pk 2 [2,2,2,2])) (G0 (fuel:=0) [(9,0),(10,0),(11,0),(12,0),(13,0)] (fun w h=>(h.pk 2 [2,2,2,2])) (k:=F8 (E':=[⟨0,[],pt b⟩,⟨2,[],.string (bk l)⟩,⟨6,[],.int .i64 (q.size:Int)⟩,⟨7,[],.nilIface⟩,⟨8,[],.iface 309 (pt wb)⟩,⟨10,[],.int .i64 (((bk l).extract last i).size:Int)⟩,⟨11,[],.bool false⟩,⟨12,[],.int .i64 ((i:Nat):Int)⟩,⟨14,[],.string (mB #[10])⟩,⟨15,[],.int .i64 1⟩]) [0,2,6,7,8,10,11,12,14,15] (k:=A0 (A1 (A2 (A3 (j:=3) [0,0,0] (k:=D1 93 ((q.size:Int)+(((bk l).extract last i).size:Int)) (by omega) (by omega) kr (A7 [0] [0,2,6,7,8,11,12,14,15] (k:=?_)))))))))
     refine A0 (A1 (A1 (A2 (A3 (j:=1) [0] (k:=O3 (ch:=[]) (v:=.nilIface) (e:=true) true (hv:=.inl ⟨rfl,rfl⟩) (k:=A7 [] [0,2,6,7,8,11,12,14,15,95] (k:=A0 (C8 kr ?_))))))))
     refine A8 (A0 (A1 (A2 (A3 (j:=2) [0,0] (k:=R0 (t:=309) (rv:=pt wb) (f:=291) (vs:=[.string (mB #[10])]) (av:=#[pt wb,.string (mB #[10])]) (hm:=(fun _=>by kernel_rfl)) (hc:=aswStr_ wb (v4) g5 (q++((bk l).extract last i)) (mB #[10]) hO6 (by first | (rw [ByteArray.size_extract]; omega) | (rw [ByteArray.size_append,ByteArray.size_extract]; omega) | (show _+1≤_; rw [ByteArray.size_append,ByteArray.size_extract]; omega)) _ _) (k:=?_))))))
     rintro _ _ ⟨rfl,v8,g9,hO10,rfl⟩
     refine A7 [0,0,0,0,0] [0,2,6,7,8,10,11,12,15] (k:=A0 (A1 (A2 (A3 (j:=3) [0,0,0] (k:=D1 104 (((q.size:Int)+(((bk l).extract last i).size:Int))+1) (by omega) (by omega) kr (A7 [0] [0,2,6,7,8,11,12,15] (k:=A0 (A1 ?_))))))))
     refine A1 (A2 (A3 (j:=1) [0] (k:=O3 (ch:=[]) (v:=.nilIface) (e:=true) true (hv:=.inl ⟨rfl,rfl⟩) (k:=A7 [] [0,2,6,7,8,11,12,15,106] (k:=A0 (C8 kr (A8 (A0 ?_))))))))
     refine A1 (A2 (A3 (j:=3) [0,0,0] (k:=D1 109 (((i:Nat):Int)+1) (by omega) (by omega) kr (B1 (E':=[⟨0,[],pt b⟩,⟨2,[],.string (bk l)⟩,⟨6,[],.int .i64 (((q.size:Int)+(((bk l).extract last i).size:Int))+1)⟩,⟨7,[],.nilIface⟩,⟨8,[],.iface 309 (pt wb)⟩,⟨11,[],.bool false⟩,⟨12,[],.int .i64 (((i:Nat):Int)+1)⟩]) [0] [0,2,6,7,8,11,12] (k:=A0 (A1 (G_p [0,0] [0,2,6,7,8,9,11,12] (k:=A0 ?_))))))))
     refine E8 (A6 (B5 ?_))
     have hn6:((q.size:Int)+(((bk l).extract last i).size:Int))+1=(((q++((bk l).extract last i))++(mB #[10])).size:Int):=by rw [ByteArray.size_append,ByteArray.size_append,hxs,show (mB #[10]).size=1 from rfl]; omega
     refine M0 (E':=[⟨0,[],pt b⟩,⟨2,[],.string (bk l)⟩,⟨6,[],.int .i64 (((q.size:Int)+(((bk l).extract last i).size:Int))+1)⟩,⟨7,[],.nilIface⟩,⟨8,[],.iface 309 (pt wb)⟩,⟨9,[],.int .i64 (((i:Nat):Int)+1)⟩,⟨11,[],.bool false⟩,⟨12,[],.int .i64 (((i:Nat):Int)+1)⟩]) kr (M0 (E':=[⟨0,[],pt b⟩,⟨2,[],.string (bk l)⟩,⟨6,[],.int .i64 (((q++((bk l).extract last i))++(mB #[10])).size:Int)⟩,⟨7,[],.nilIface⟩,⟨8,[],.iface 309 (pt wb)⟩,⟨9,[],.int .i64 (((i:Nat):Int)+1)⟩,⟨11,[],.bool false⟩,⟨12,[],.int .i64 (((i:Nat):Int)+1)⟩]) (by rw [hn6]) (F9 0 [2,2,2,2,0,0] (D2 (s':=(i+1,i+1,((q++((bk l).extract last i))++(mB #[10])),v8,g9)) [0,2,6,7,8,9,11,12] kr kr ⟨(by dsimp only; omega),(by dsimp only; omega),(by dsimp only; omega),(by dsimp only; rw [ByteArray.size_append,ByteArray.size_append,hxs,show (mB #[10]).size=1 from rfl]; omega),hO10,(by dsimp only; rw [app_list,app_list,ext_mid]; exact lin_one hT (by omega) hb hno)⟩ (by dsimp only; omega))))
    ·
     have hxs:((bk l).extract last i).size=i - last:=by rw [ByteArray.size_extract]; omega
     have hi2:i+1<l.length:=by rw [List.length_drop] at hlk; omega
     have hyes:l.getD (i+1) 0=10:=by rw [List.getD_eq_getElem?_getD,List.getElem?_drop,← List.getD_eq_getElem?_getD] at hlk2; exact hlk2
     refine A7 [0,0,0,0,0,0,0] [0,2,6,7,8,9,12,14,15,16] (k:=A0 (A1 (C1 (E':=[⟨0,[],pt b⟩,⟨2,[],.string (bk l)⟩,⟨6,[],.int .i64 (q.size:Int)⟩,⟨7,[],.nilIface⟩,⟨8,[],.iface 309 (pt wb)⟩,⟨9,[],.int .i64 ((last:Nat):Int)⟩,⟨11,[],.bool false⟩,⟨12,[],.int .i64 ((i:Nat):Int)⟩,⟨14,[],.string (mB #[10])⟩,⟨15,[],.int .i64 2⟩,⟨16,[],.bool true⟩]) [0,0,0,0,2,0] [0,2,6,7,8,9,11,12,14,15,16] (k:=A0 (A1 (A1 (G_p [0] [0,2,6,7,8,9,11,12,14,15,78] (k:=A0 ?_))))))))
     refine C4 kr (A1 (H5 ([(b,.cells (I2 [.string eB,.int .i64 0,.string eB,.pointer none,.slice (some ⟨t,0,none⟩) 2 2,.int .i64 2] (V3 256)) 268 (0,0))]::[(t,.cells #[.pointer none,pt n1] 263 (0,0))]::[(n1,.cells #[.string (mB #[10]),.int .i64 2,.string (mB #[10]),pt n2,.slice none 0 0] 266 (0,0))]::[(n2,.cells #[.string (mB #[10]),.int .i64 4,.string eB,.pointer none,.slice none 0 0] 266 (0,0))]::H) kr (G0 (fuel:=10) [(0,0),(1,0),(2,0),(3,0)] (fun w h=>(h.pk 2 [0,0,0,0])) (k:=F5 4 kr (fun w h=>(h.pk 2 [0,0,0,0])) (N4 (bk l) ((last : Nat) : Int) ((i : Nat) : Int) (by intro _; exact ⟨by omega,by omega,by omega⟩) (G2 kr rfl)) (G0 (fuel:=8) [(5,0)] (fun w h=>(h.pk 2 [0,0,0,0])) (k:=GH_nilF (fn:=.method "WriteString") (fa:=#[.iface 309 (pt wb)]) (fc:=#[]) 6 (hrun:=(fun w=>by kernel_rfl)) (hL:=(fun w h=>(h.pk 2 [0,0,0,0]))) (k:=G0 (fuel:=6) [(7,0)] (fun w h=>(h.pk 2 [0,0,0,0])) (k:=D4 8 (k:=?_)))))))))
     refine M9 0 [4,4] (R0 (t:=309) (rv:=pt wb) (f:=291) (vs:=[.string ((bk l).extract last i)]) (av:=#[pt wb,.string ((bk l).extract last i)]) (hm:=(fun _=>by kernel_rfl)) (hc:=aswStr_ wb (v) g q ((bk l).extract last i) hv (by first | (rw [ByteArray.size_extract]; omega) | (rw [ByteArray.size_append,ByteArray.size_extract]; omega) | (show _+1≤_; rw [ByteArray.size_append,ByteArray.size_extract]; omega)) _ _) (k:=?_))
     rintro _ _ ⟨rfl,v13,g14,hO15,rfl⟩
     refine B3 kr (fun w h=>(h.pk 2 [2,2,2,2])) (G0 (fuel:=0) [(9,0),(10,0),(11,0),(12,0),(13,0)] (fun w h=>(h.pk 2 [2,2,2,2])) (k:=F8 (E':=[⟨0,[],pt b⟩,⟨2,[],.string (bk l)⟩,⟨6,[],.int .i64 (q.size:Int)⟩,⟨7,[],.nilIface⟩,⟨8,[],.iface 309 (pt wb)⟩,⟨10,[],.int .i64 (((bk l).extract last i).size:Int)⟩,⟨11,[],.bool false⟩,⟨12,[],.int .i64 ((i:Nat):Int)⟩,⟨14,[],.string (mB #[10])⟩,⟨15,[],.int .i64 2⟩]) [0,2,6,7,8,10,11,12,14,15] (k:=A0 (A1 (A2 (A3 (j:=3) [0,0,0] (k:=D1 93 ((q.size:Int)+(((bk l).extract last i).size:Int)) (by omega) (by omega) kr (A7 [0] [0,2,6,7,8,11,12,14,15] (k:=?_)))))))))
     refine A0 (A1 (A1 (A2 (A3 (j:=1) [0] (k:=O3 (ch:=[]) (v:=.nilIface) (e:=true) true (hv:=.inl ⟨rfl,rfl⟩) (k:=A7 [] [0,2,6,7,8,11,12,14,15,95] (k:=A0 (C8 kr ?_))))))))
     refine A8 (A0 (A1 (A2 (A3 (j:=2) [0,0] (k:=R0 (t:=309) (rv:=pt wb) (f:=291) (vs:=[.string (mB #[10])]) (av:=#[pt wb,.string (mB #[10])]) (hm:=(fun _=>by kernel_rfl)) (hc:=aswStr_ wb (v13) g14 (q++((bk l).extract last i)) (mB #[10]) hO15 (by first | (rw [ByteArray.size_extract]; omega) | (rw [ByteArray.size_append,ByteArray.size_extract]; omega) | (show _+1≤_; rw [ByteArray.size_append,ByteArray.size_extract]; omega)) _ _) (k:=?_))))))
     rintro _ _ ⟨rfl,v17,g18,hO19,rfl⟩
     refine A7 [0,0,0,0,0] [0,2,6,7,8,10,11,12,15] (k:=A0 (A1 (A2 (A3 (j:=3) [0,0,0] (k:=D1 104 (((q.size:Int)+(((bk l).extract last i).size:Int))+1) (by omega) (by omega) kr (A7 [0] [0,2,6,7,8,11,12,15] (k:=A0 (A1 ?_))))))))
     refine A1 (A2 (A3 (j:=1) [0] (k:=O3 (ch:=[]) (v:=.nilIface) (e:=true) true (hv:=.inl ⟨rfl,rfl⟩) (k:=A7 [] [0,2,6,7,8,11,12,15,106] (k:=A0 (C8 kr (A8 (A0 ?_))))))))
     refine A1 (A2 (A3 (j:=3) [0,0,0] (k:=D1 109 (((i:Nat):Int)+2) (by omega) (by omega) kr (B1 (E':=[⟨0,[],pt b⟩,⟨2,[],.string (bk l)⟩,⟨6,[],.int .i64 (((q.size:Int)+(((bk l).extract last i).size:Int))+1)⟩,⟨7,[],.nilIface⟩,⟨8,[],.iface 309 (pt wb)⟩,⟨11,[],.bool false⟩,⟨12,[],.int .i64 (((i:Nat):Int)+2)⟩]) [0] [0,2,6,7,8,11,12] (k:=A0 (A1 (G_p [0,0] [0,2,6,7,8,9,11,12] (k:=A0 ?_))))))))
     refine E8 (A6 (B5 ?_))
     have hn6:((q.size:Int)+(((bk l).extract last i).size:Int))+1=(((q++((bk l).extract last i))++(mB #[10])).size:Int):=by rw [ByteArray.size_append,ByteArray.size_append,hxs,show (mB #[10]).size=1 from rfl]; omega
     refine M0 (E':=[⟨0,[],pt b⟩,⟨2,[],.string (bk l)⟩,⟨6,[],.int .i64 (((q.size:Int)+(((bk l).extract last i).size:Int))+1)⟩,⟨7,[],.nilIface⟩,⟨8,[],.iface 309 (pt wb)⟩,⟨9,[],.int .i64 (((i:Nat):Int)+2)⟩,⟨11,[],.bool false⟩,⟨12,[],.int .i64 (((i:Nat):Int)+2)⟩]) kr (M0 (E':=[⟨0,[],pt b⟩,⟨2,[],.string (bk l)⟩,⟨6,[],.int .i64 (((q++((bk l).extract last i))++(mB #[10])).size:Int)⟩,⟨7,[],.nilIface⟩,⟨8,[],.iface 309 (pt wb)⟩,⟨9,[],.int .i64 (((i:Nat):Int)+2)⟩,⟨11,[],.bool false⟩,⟨12,[],.int .i64 (((i:Nat):Int)+2)⟩]) (by rw [hn6]) (F9 0 [2,2,2,2,0,0] (D2 (s':=(i+2,i+2,((q++((bk l).extract last i))++(mB #[10])),v17,g18)) [0,2,6,7,8,9,11,12] kr kr ⟨(by dsimp only; omega),(by dsimp only; omega),(by dsimp only; omega),(by dsimp only; rw [ByteArray.size_append,ByteArray.size_append,hxs,show (mB #[10]).size=1 from rfl]; omega),hO19,(by dsimp only; rw [app_list,app_list,ext_mid]; exact lin_two hT hi2 hb hyes)⟩ (by dsimp only; omega))))
   ·
    refine I1 (k:=A3 (j:=3) [0,0,0] (k:=H0 (bk l) ((i:Nat):Int) (by intro _; exact ⟨by omega,by omega⟩) ?_))
    have hb22:=F3 (bk l) ((i:Nat):Int)
    refine A3 (j:=6) [0,0] (k:=D8 (ch:=[]) (b:=b) (off:=6) (len:=256) (sz:=1) (e:=5) (kd:=.u8) (j:=A9 (bk l) ((i:Nat):Int)) (hb:=(fun _=>by exact ⟨by omega,by omega⟩)) (k:=C5 (ch:=[]) (b:=b) (off:=6+Int.toNat (A9 (bk l) ((i:Nat):Int)) * 1) (v:=.int .u8 (m2 (l.getD i 0).toNat)) (hA:=At.grp 0 0 rfl rfl) (hv:=grpC_at (k:=(l.getD i 0).toNat) rfl (by rw [byteJ]; omega) (l.getD i 0).toNat_lt (finK_end (l.getD i 0).toNat_lt)) (k:=E5 42 (x:=.int .u8 (m2 (l.getD i 0).toNat)) (y:=.int .u8 0) (by rw [show m2 (l.getD i 0).toNat=0 by rw [hb]; rfl]) (A7 [0,0] [0,2,6,7,8,9,11,12,13] (k:=A0 (A1 (A2 (A3 (j:=4) [0,0,0,0] (k:=?_)))))))))
    refine C5 (ch:=[]) (b:=b) (off:=5) (v:=.int .i64 2) (hA:=At.grp 0 0 rfl rfl) (hv:=L3 rfl) (k:=A3 (j:=11) [0,0,0,0,0,0] (k:=C5 (ch:=[(50,false)]) (b:=b) (off:=4) (v:=.slice (some ⟨t,0,none⟩) 2 2) (hA:=At.grp 0 0 rfl rfl) (hv:=L3 rfl) (k:=A3 (j:=13) [0] (k:=J0 (ch:=[(50,false)]) (a:=(some ⟨t,0,none⟩)) (len:=2) (cap:=2) (kd:=.i64) (j:=0) (e:=263) (sz:=1) (S:=(inG [(t,.cells #[.pointer none,pt n1] 263 (0,0))])) (cs:=[.pointer none,pt n1]) (hrd:=Rd.lit) (hb:=(fun hc=>by exact ⟨by decide,by decide,by intro h; cases h⟩)) (k:=GL_env (E':=[⟨57,[(50,false)],pt t⟩,⟨56,[(50,false)],.int .i64 0⟩,⟨55,[(50,false)],.slice (some ⟨t,0,none⟩) 2 2⟩,⟨54,[(50,false)],.pointer (some ⟨b,4,none⟩)⟩,⟨53,[(50,false)],pt b⟩,⟨52,[(50,false)],pt b⟩,⟨51,[(50,false)],pt b⟩,⟨50,[],.bool false⟩,⟨49,[],.bool false⟩,⟨48,[],.int .i64 2⟩,⟨47,[],.pointer (some ⟨b,5,none⟩)⟩,⟨46,[],pt b⟩,⟨45,[],pt b⟩,⟨44,[],.int .i64 0⟩,⟨0,[],pt b⟩,⟨2,[],.string (bk l)⟩,⟨6,[],.int .i64 (q.size:Int)⟩,⟨7,[],.nilIface⟩,⟨8,[],.iface 309 (pt wb)⟩,⟨9,[],.int .i64 ((last:Nat):Int)⟩,⟨11,[],.bool false⟩,⟨12,[],.int .i64 ((i:Nat):Int)⟩,⟨13,[],.int .i64 0⟩]) kr (C5 (ch:=[(50,false)]) (b:=t) (off:=0) (v:=.pointer none) (hA:=At.grp 1 0 rfl rfl) (k:=A7 [0,3] [0,2,6,7,8,9,11,12,60] (k:=A0 ?_))))))))
    refine C4 kr (A1 (A2 (A3 (j:=2) [0,0] (k:=D1 62 (((i:Nat):Int)+1) (by omega) (by omega) kr (A7 [0] [0,2,6,7,8,9,11,12] (k:=A0 (E8 (A6 ?_))))))))
    refine B5 (D2 (s':=(i+1,last,q,v,g)) [0,2,6,7,8,9,11,12] kr rfl ⟨(by dsimp only; omega),(by dsimp only; omega),(by dsimp only; omega),(by dsimp only; omega),hv,(by dsimp only; exact lin_step hT hla (by omega) (by first | exact hb.1 | (rw [hb]; decide)))⟩ (by dsimp only; omega))
   ·
    refine I1 (k:=A3 (j:=3) [0,0,0] (k:=H0 (bk l) ((i:Nat):Int) (by intro _; exact ⟨by omega,by omega⟩) ?_))
    have hb24:=F3 (bk l) ((i:Nat):Int)
    refine A3 (j:=6) [0,0] (k:=D8 (ch:=[]) (b:=b) (off:=6) (len:=256) (sz:=1) (e:=5) (kd:=.u8) (j:=A9 (bk l) ((i:Nat):Int)) (hb:=(fun _=>by exact ⟨by omega,by omega⟩)) (k:=C5 (ch:=[]) (b:=b) (off:=6+Int.toNat (A9 (bk l) ((i:Nat):Int)) * 1) (v:=.int .u8 (m2 (l.getD i 0).toNat)) (hA:=At.grp 0 0 rfl rfl) (hv:=grpC_at (k:=(l.getD i 0).toNat) rfl (by rw [byteJ]; omega) (l.getD i 0).toNat_lt (finK_end (l.getD i 0).toNat_lt)) (k:=E5 42 (x:=.int .u8 (m2 (l.getD i 0).toNat)) (y:=.int .u8 2) (by rw [hb.2]) (A7 [0,0] [0,2,6,7,8,9,11,12,13] (k:=A0 (A1 (A2 (A3 (j:=4) [0,0,0,0] (k:=?_)))))))))
    refine C5 (ch:=[]) (b:=b) (off:=5) (v:=.int .i64 2) (hA:=At.grp 0 0 rfl rfl) (hv:=L3 rfl) (k:=A7 [0,0,1,1,1,1,1,1,1,1,1,2] [0,2,6,7,8,9,11,12,60] (k:=A0 (C4 kr (A1 (A2 (A3 (j:=2) [0,0] (k:=D1 62 (((i:Nat):Int)+1) (by omega) (by omega) kr (A7 [0] [0,2,6,7,8,9,11,12] (k:=?_)))))))))
    refine A0 (E8 (A6 (B5 (D2 (s':=(i+1,last,q,v,g)) [0,2,6,7,8,9,11,12] kr rfl ⟨(by dsimp only; omega),(by dsimp only; omega),(by dsimp only; omega),(by dsimp only; omega),hv,(by dsimp only; exact lin_step hT hla (by omega) (by first | exact hb.1 | (rw [hb]; decide)))⟩ (by dsimp only; omega)))))
  ·
   simp only [bne_eq_false_iff_eq,Bool.and_true] at hc2
   have heq:=hc2
   refine A8 (A0 (A1 (A2 (A3 (j:=3) [0,0,0] (k:=N4 (bk l) ((i:Nat):Int) ((bk l).size:Int) (by intro _; exact ⟨by omega,by omega,by omega⟩) (E5 67 (x:=.string ((bk l).extract i (bk l).size)) (y:=.string (bk (l.drop i))) (by rw [ext_bk]) (A3 (j:=5) [0] (k:=D9 Tryz.func281 (lookup_ b t n1 n2 (l.drop i) (by rw [List.length_drop]; omega) (.inl (List.drop_eq_nil_of_le (by omega))) _ _) ?_))))))))
   rintro _ _ ⟨⟨hlk,rfl⟩ | ⟨hlk,hlk2,rfl⟩ | ⟨hlk,hlk2,rfl⟩,rfl⟩
   ·
    refine A7 [0,0,0,0,0,0,0] [0,2,6,7,8,9,12,14,15,16] (k:=A0 (A1 (G_p [0,0,1,1,3,0] [0,2,6,7,8,9,11,12,14,15,16] (k:=A0 (A1 (A1 (G_p [0] [0,2,6,7,8,9,11,12,14,15,78] (k:=A0 ?_))))))))
    refine C8 kr (A8 (A0 (A2 (A3 (j:=2) [0,0] (k:=D1 112 (((i:Nat):Int)+1) (by omega) (by omega) kr (B1 (E':=[⟨0,[],pt b⟩,⟨2,[],.string (bk l)⟩,⟨6,[],.int .i64 (q.size:Int)⟩,⟨7,[],.nilIface⟩,⟨8,[],.iface 309 (pt wb)⟩,⟨9,[],.int .i64 ((last:Nat):Int)⟩,⟨11,[],.bool false⟩,⟨12,[],.int .i64 (((i:Nat):Int)+1)⟩]) [0] [0,2,6,7,8,9,11,12] (k:=B7 (D2 (s':=(i+1,last,q,v,g)) [0,2,6,7,8,9,11,12] kr rfl ⟨(by dsimp only; omega),(by dsimp only; omega),(by dsimp only; omega),(by dsimp only; omega),hv,(by dsimp only; exact lin_at hT hla (by omega))⟩ (by dsimp only; omega)))))))))
   ·
    exact absurd (List.drop_eq_nil_of_le (by omega)) hlk
   ·
    rw [List.length_drop] at hlk; omega
 ·
  simp only [decide_eq_false_iff_not] at hc1
  have hgt:=hc1
  refine E8 (A6 (A6 (B5 (A0 (A1 (A1 (G_p [0,0,0,0] [2,6,7,8,9,116] (k:=A0 ?_))))))))
  refine B2 (b:=((last:Nat):Int) != ((bk l).size:Int)) kr (fun hc27=>?_) (fun hc27=>?_)
  ·
   simp only [bne_iff_ne,ne_eq] at hc27
   have hxs:((bk l).extract last (bk l).size).size=l.length - last:=by rw [ByteArray.size_extract]; omega
   refine A1 (H5 ([(b,.cells (I2 [.string eB,.int .i64 0,.string eB,.pointer none,.slice (some ⟨t,0,none⟩) 2 2,.int .i64 2] (V3 256)) 268 (0,0))]::[(t,.cells #[.pointer none,pt n1] 263 (0,0))]::[(n1,.cells #[.string (mB #[10]),.int .i64 2,.string (mB #[10]),pt n2,.slice none 0 0] 266 (0,0))]::[(n2,.cells #[.string (mB #[10]),.int .i64 4,.string eB,.pointer none,.slice none 0 0] 266 (0,0))]::H) kr (G0 (fuel:=10) [(0,0),(1,0),(2,0)] (fun w h=>(h.pk 2 [0,0,0,0])) (k:=F5 3 kr (fun w h=>(h.pk 2 [0,0,0,0])) (N4 (bk l) ((last : Nat) : Int) ((bk l).size : Int) (by intro _; exact ⟨by omega,by omega,by omega⟩) (G2 kr rfl)) (G0 (fuel:=8) [(4,0)] (fun w h=>(h.pk 2 [0,0,0,0])) (k:=GH_nilF (fn:=.method "WriteString") (fa:=#[.iface 309 (pt wb)]) (fc:=#[]) 5 (hrun:=(fun w=>by kernel_rfl)) (hL:=(fun w h=>(h.pk 2 [0,0,0,0]))) (k:=G0 (fuel:=6) [(6,0)] (fun w h=>(h.pk 2 [0,0,0,0])) (k:=D4 7 (k:=M9 0 [4,4] ?_))))))))
   refine R0 (t:=309) (rv:=pt wb) (f:=291) (vs:=[.string ((bk l).extract last (bk l).size)]) (av:=#[pt wb,.string ((bk l).extract last (bk l).size)]) (hm:=(fun _=>by kernel_rfl)) (hc:=aswStr_ wb (v) g q ((bk l).extract last (bk l).size) hv (by first | (rw [ByteArray.size_extract]; omega) | (rw [ByteArray.size_append,ByteArray.size_extract]; omega) | (show _+1≤_; rw [ByteArray.size_append,ByteArray.size_extract]; omega)) _ _) (k:=?_)
   rintro _ _ ⟨rfl,v28,g29,hO30,rfl⟩
   refine B3 kr (fun w h=>(h.pk 2 [2,2,2,2])) (G0 (fuel:=0) [(8,0),(9,0),(10,0),(11,0),(12,0)] (fun w h=>(h.pk 2 [2,2,2,2])) (k:=F8 (E':=[⟨6,[],.int .i64 (q.size:Int)⟩,⟨7,[],.nilIface⟩,⟨10,[],.int .i64 (((bk l).extract last (bk l).size).size:Int)⟩]) [6,7,10] (k:=A0 (A2 (A3 (j:=3) [0,0,0] (k:=D1 130 ((q.size:Int)+(((bk l).extract last (bk l).size).size:Int)) (by omega) (by omega) kr (A7 [0] [6,7] (k:=A0 ?_))))))))
   refine B9 (F9 0 [2,2,2,2,0,0] (B6 [.tmp 6,.tmp 7] [.int .i64 ((q.size:Int)+(((bk l).extract last (bk l).size).size:Int)),.nilIface] (k:=?_)))
   exact ⟨_,_,_,rfl,(by have h:=lin_fin hT (by omega); rw [← ba_of (a:=(q++((bk l).extract last (bk l).size))) (by rw [app_list,ext_mid,h,List.take_of_length_le (by rw [List.length_drop]; omega)])]; exact hO30),rfl⟩
  ·
   simp only [bne_eq_false_iff_eq] at hc27
   refine A8 (A0 (B9 (B6 [.tmp 6,.tmp 7] [.int .i64 (q.size:Int),.nilIface] (k:=?_))))
   exact ⟨_,_,_,rfl,(by have h:=lin_fin hT (by omega); rw [← ba_of (a:=q) (by rw [h,List.drop_eq_nil_of_le (show l.length≤last by omega),List.append_nil])]; exact hv),rfl⟩
end Go.Proofs.YtppgfiklmfoaeaaGreatDoor
namespace Go.Sw
open Go.RowKit
theorem GL_bytesB {d:Bool} {P:Program} {ops:Array Oper} {i:Nat} {Q:E0} {n:Fr} {E:Env} {W0:World} {H:List Grp} {o:Oper} {ch:List (Nat × Bool)} {src dst e:TypeId} {x:Operand} {a:Option Addr} {cap:Nat} {S:Nat→Obj→Prop} (b:ByteArray)
    (ho:ops[i]? = some o:=by exact rfl) (hop:o.op=.convert src dst x:=by exact rfl) (hx:evO E ch x=some (.slice a b.size cap):=by kernel_rfl) (hs:P.underlying src=some (.slice e):=by kernel_rfl) (he:P.underlying e=some (.int .u8):=by kernel_rfl) (hds:P.underlying dst=some .string:=by kernel_rfl)
    (hch:D0 ops E o.guard=some ch:=by kernel_rfl) (hd:F1 n ch o.dst=true:=by kernel_rfl) (hk:I8 E ch=true:=by kernel_rfl)
    (hrd:Rd S a (u8s b.data.toList)) (hS:∀ b o,S b o→At W0 H b o)
    (k:GL d P ops (i+1) Q n (Env.put E o.dst ch (.string b)) W0 H):GL d P ops i Q n E W0 H:=by
  cases a with
  | some a =>
    refine L6 (cap:=cap) b.data.toList ho hop ?_ hs he hds hch hd hk hrd hS ?_
    · rw [hx,show b.data.toList.length=b.size from Array.length_toList]
    · have:(⟨b.data.toList.toArray⟩:ByteArray)=b:=by cases b; simp
      rw [this]; exact k
  | none =>
    have h0:b=ByteArray.empty:=by
      rcases hrd with h | ⟨_,_,_,_,_,h,_⟩
      · have h1:=congrArg List.length h
        unfold u8s at h1
        rw [List.length_map] at h1
        cases b with | mk d =>
        have:d=#[]:=Array.eq_empty_of_size_eq_zero (by simpa using h1)
        rw [this]; rfl
      · cases h
    refine H9 ho hch hd hk (fun r hr _ w _=>?_) k
    unfold execOp
    simp only [hop]
    rw [hr _ _ hx,h0]
    have:=run_convert_bytes_string (P:=P) w src dst e none ByteArray.empty.size cap hs he hds
    simp only [Sem.run_bind,this]
    exact ⟨rfl,rfl⟩
end Go.Sw
namespace Go.Proofs.YtppgfiklmfoaeaaGreatDoor
open Go.Sw Go.Sha Go.Esc Go.Json Go.Xml
theorem genReplace_ (b t n1 n2:Nat) (l:List UInt8) (hl:l.length≤1000000) (W0:World) (H:List Grp):Tri Tryz.prog 278 #[pt b,.string (bk l)] W0 ([(b,.cells (I2 [.string eB,.int .i64 0,.string eB,.pointer none,.slice (some ⟨t,0,none⟩) 2 2,.int .i64 2] (V3 256)) 268 (0,0))]::[(t,.cells #[.pointer none,pt n1] 263 (0,0))]::[(n1,.cells #[.string (mB #[10]),.int .i64 2,.string (mB #[10]),pt n2,.slice none 0 0] 266 (0,0))]::[(n2,.cells #[.string (mB #[10]),.int .i64 4,.string eB,.pointer none,.slice none 0 0] 266 (0,0))]::H) (fun v H'=>v=.string (bk (B0 l))∧H'=([(b,.cells (I2 [.string eB,.int .i64 0,.string eB,.pointer none,.slice (some ⟨t,0,none⟩) 2 2,.int .i64 2] (V3 256)) 268 (0,0))]::[(t,.cells #[.pointer none,pt n1] 263 (0,0))]::[(n1,.cells #[.string (mB #[10]),.int .i64 2,.string (mB #[10]),pt n2,.slice none 0 0] 266 (0,0))]::[(n2,.cells #[.string (mB #[10]),.int .i64 4,.string eB,.pointer none,.slice none 0 0] 266 (0,0))]::H)):=by
 have hbz:=D5 l
 refine D3 15 Tryz.func278 ?_
 refine A1 (C1 (E':=[⟨0,[],pt b⟩,⟨1,[],.string (bk l)⟩]) [0] [0,1] (k:=A0 (A1 (A2 (A3 (j:=2) [0,0] (k:=GL_makeLC (i:=2) (ch:=[]) (t:=308) (e:=5) (inf:=Tryz.t5) (z:=.int .u8 0) (l:=0) (m:=(bk l).size) (c:=(R2 [] (bk l).size).toList) rfl rfl kr kr kr kr kr (Nat.zero_le _) (by rw [hbz]; show (1:Int) * _≤_; omega) (by omega) (by rw [hbz]; show l.length * 1≤16777216; omega) (by rw [Array.toArray_toList]; exact madeZ _) kr kr kr (fun b1=>L1 (.slice none 0 0) (fun b2=>?_))))))))
 refine E3 0 0 (.slice (some ⟨b1,0,none⟩) 0 ((bk l).size)) rfl (A7 [] [0,1,5] (k:=A0 (A1 (A2 (A3 (j:=3) [0,0,0] (k:=M9 0 [2,2,2,2] (D9 (vs:=[pt b,.iface 309 (pt b2),.string (bk l)]) Tryz.func279 (genWrite_ b t n1 n2 b2 (.slice (some ⟨b1,0,none⟩) 0 ((bk l).size)) [(b1,.cells (R2 [] (bk l).size).toList.toArray 5 (0,0))] l (by omega) (own_cut0 (c:=(R2 [] (bk l).size).toList) (by rw [Array.length_toList,T0]; show 0+_=_ * 1; omega)) _ _) ?_)))))))
 rintro _ _ ⟨n,v2,g2,rfl,hO,rfl⟩
 obtain ⟨ra,rc,rfl,hcap,hrd⟩:=hO.shape
 refine B1 (E':=[⟨5,[],pt b2⟩]) [] [5] (k:=A0 (A1 (A2 (C6 4 0 rfl rfl (GL_bytesB (ch:=[]) (a:=ra) (cap:=rc) (e:=5) (S:=(inG g2)) (bk (B0 l)) (hrd:=show Rd (inG g2) ra (u8s (B0 l)) from hrd) (hS:=D7 5 rfl) (k:=B1 (E':=[⟨4,[],.string (bk (B0 l))⟩]) [0] [4] (k:=A0 (B9 ?_))))))))
 refine F9 2 [0,0,0,0] (B6 [.tmp 4] [.string (bk (B0 l))] (k:=?_))
 exact ⟨rfl,rfl⟩
theorem newRepC_ (v:Nat) (W0:World) (H:List Grp):Tri Tryz.prog 148 #[.slice (some ⟨v,0,none⟩) 4 4] W0 ([(v,.cells #[.string (mB #[13,10]),.string (mB #[10]),.string (mB #[13]),.string (mB #[10])] 9 (0,0))]::H) (fun x H'=>∃ b a cap g,x=pt b∧Go.Sw.Own 9 1 (.slice a 4 cap) g 4 crT∧H'=repG b 0 0 .nilIface (.slice a 4 cap)::g::[(v,.cells #[.string (mB #[13,10]),.string (mB #[10]),.string (mB #[13]),.string (mB #[10])] 9 (0,0))]::H):=by
 refine D3 12 Tryz.func148 ?_
 refine A1 (G_p [0] [0] (k:=A0 (A1 (A1 (A2 (A3 (j:=3) [0,0,0] (k:=?_)))))))
 have hw1:Int.tmod 4 2=4 % 2:=r64 (by omega)
 refine GL_w 5 hw1 kr (A7 [0] [0,6] (k:=A0 (B2 (b:=(4 % 2)==1) kr (fun hc2=>?_) (fun hc2=>?_))))
 ·
  exact absurd hc2 (by decide)
 ·
  skip
  refine A8 (A0 (A1 (A2 (A3 (j:=1) [0] (k:=GL_heap rfl (H':=([]::[(v,.cells #[.string (mB #[13,10]),.string (mB #[10]),.string (mB #[13]),.string (mB #[10])] 9 (0,0))]::H)) (fun w h=>h.flat (List.Perm.refl _)) (M1 (inf:=Tryz.t9) (e:=9) (s:=.slice none 0 0) 4 1 0 rfl rfl Go.Sw.Own.nil (by omega) (by show (0+4) * 16≤140737488355328; omega) (fun v3 g4 hO5=>?_)))))))
  replace hO5:=own_nilE hO5
  obtain ⟨a6,cap7,rfl,hcap8,hrd9⟩:=hO5.shape
  refine A3 (j:=3) [0] (k:=T7 (.agg #[.int .u32 0,.int .i32 0,.int .u32 0,.nilIface,.slice a6 4 cap7]) (fun b10=>B1 (E':=[⟨2,[],pt b10⟩]) [0] [2] (k:=A0 (B9 (B6 [.tmp 2] [pt b10] (k:=?_))))))
  exact ⟨_,_,_,_,rfl,hO5,rfl⟩
theorem buildC_ (rb:Nat) (a:Option Addr) (cap:Nat) (g:Grp) (hr:Rd (inG g) a crT) (W0:World) (H:List Grp):Tri Tryz.prog 190 #[pt rb] W0 ([(rb,.cells #[.int .u32 0,.int .i32 1,.int .u32 0,.nilIface,.slice a 4 cap] 213 (0,0))]::g::H) (fun x H'=>∃ b t n1 n2,x=.iface 242 (pt b)∧H'=([(b,.cells (I2 [.string eB,.int .i64 0,.string eB,.pointer none,.slice (some ⟨t,0,none⟩) 2 2,.int .i64 2] (V3 256)) 268 (0,0))]::[(t,.cells #[.pointer none,pt n1] 263 (0,0))]::[(n1,.cells #[.string (mB #[10]),.int .i64 2,.string (mB #[10]),pt n2,.slice none 0 0] 266 (0,0))]::[(n2,.cells #[.string (mB #[10]),.int .i64 4,.string eB,.pointer none,.slice none 0 0] 266 (0,0))]::[(rb,.cells #[.int .u32 0,.int .i32 1,.int .u32 0,.nilIface,.slice a 4 cap] 213 (0,0))]::g::H)):=by
 refine D3 132 Tryz.func190 ?_
 refine A1 (C1 (E':=[⟨0,[],pt rb⟩]) [0] [0] (k:=A0 (A1 (A2 (A3 (j:=3) [0,0,0] (k:=C6 0 4 rfl rfl (B1 (E':=[⟨3,[],.slice a 4 cap⟩]) [0] [3] (k:=A0 ?_))))))))
 refine A1 (A1 (G_p [0,0,0,0,1,1,1,1,1,3] [3,28] (k:=A0 (C8 kr (A8 (A0 (A1 (G_p [0] [3,4] (k:=?_)))))))))
 refine A0 (A1 (A1 (G_p [0] [3,4,5] (k:=A0 (B4 (M7 1 (E9 (A1 ?_))))))))
 refine A1 (G_p [0,0,0,0] [3,4,5,40] (k:=A0 (C4 kr (A8 (A0 (A1 (B4 (A1 ?_))))))))
 refine A1 (A2 (A3 (j:=2) [0,0] (k:=E6 4 0 1 hr (by exact ⟨by decide,by decide,by intro h; cases h⟩) (H6 (0 * 1) (.string (mB #[13,10])) hr (D7 1 rfl) (fun _=>rfl) (A7 [0,0] [3,4,5,48] (k:=A0 (C4 kr (A1 ?_))))))))
 refine A2 (A3 (j:=1) [0] (k:=M9 0 [1] (D9 Tryz.func212 (mkGen_ a cap g hr _ _) ?_)))
 rintro _ _ ⟨b,t,n1,n2,rfl,rfl⟩
 refine B1 (E':=[⟨2,[],.iface 242 (pt b)⟩]) [0,0] [2] (k:=A0 (B9 (A5 (B8 (A5 (A5 (B8 (A5 ?_))))))))
 refine F9 0 [0,0,0,0,1,0] (B6 [.tmp 2] [.iface 242 (pt b)] (k:=?_))
 exact ⟨_,_,_,_,rfl,rfl⟩
def crRep (g:Grp) (x:Value) (K:List Grp):Prop:=∃ b t n1 n2,x=.iface 242 (pt b)∧K=[[(b,.cells (I2 [.string eB,.int .i64 0,.string eB,.pointer none,.slice (some ⟨t,0,none⟩) 2 2,.int .i64 2] (V3 256)) 268 (0,0))],[(t,.cells #[.pointer none,pt n1] 263 (0,0))],[(n1,.cells #[.string (mB #[10]),.int .i64 2,.string (mB #[10]),pt n2,.slice none 0 0] 266 (0,0))],[(n2,.cells #[.string (mB #[10]),.int .i64 4,.string eB,.pointer none,.slice none 0 0] 266 (0,0))],g]
theorem buildOnceC_ (rb:Nat) (a:Option Addr) (cap:Nat) (g:Grp) (hr:Rd (inG g) a crT) (W0:World) (H:List Grp):Tri Tryz.prog 172 #[pt rb] W0 ([(rb,.cells #[.int .u32 0,.int .i32 1,.int .u32 0,.nilIface,.slice a 4 cap] 213 (0,0))]::g::H) (fun _ H'=>∃ r2 K2,crRep g r2 K2∧H'=repG rb 0 1 r2 (.slice none 0 0)::(K2++H)):=by
 refine D3 10 Tryz.func172 ?_
 refine A1 (A2 (A3 (j:=2) [0,0] (k:=D9 Tryz.func190 (buildC_ rb a cap g hr _ _) ?_)))
 rintro _ _ ⟨b,t,n1,n2,rfl,rfl⟩
 refine A3 (j:=5) [0,0] (k:=E3 4 3 (.iface 242 (pt b)) rfl (B1 (E':=[⟨0,[],pt rb⟩]) [] [0] (k:=A0 (A2 (A3 (j:=3) [0,0,0] (k:=E3 4 4 (.slice none 0 0) rfl (B1 (E':=[]) [] [] (k:=F9 0 [4,0,0,0,0,0] ?_))))))))
 refine B6 [] [] (k:=?_)
 exact ⟨_,_,⟨b,t,n1,n2,rfl,rfl⟩,rfl⟩
theorem crOnce (rb:Nat) (a:Option Addr) (cap:Nat) (g:Grp) (hr:Rd (inG g) a crT) (W0:World) (H:List Grp):Tri Tryz.prog 171 #[pt rb,.func (.func 172) #[pt rb] #[]] W0 (repG rb 0 0 .nilIface (.slice a 4 cap)::([g]++H)) (fun _ H'=>∃ r2 K2,crRep g r2 K2∧H'=repG rb 1 0 r2 (.slice none 0 0)::(K2++H)) :=
  onceDo_ rb .nilIface (.slice a 4 cap) (.slice none 0 0) [g] (crRep g) (fun W0 H=>buildOnceC_ rb a cap g hr W0 H) W0 H
theorem crReplace_ (rb:Nat) (a:Option Addr) (cap:Nat) (g:Grp) (hr:Rd (inG g) a crT) (l:List UInt8) (hl:l.length≤1000000) (W0:World) (H:List Grp):Tri Tryz.prog 149 #[pt rb,.string (bk l)] W0 ([(rb,.cells #[.int .u32 0,.int .i32 0,.int .u32 0,.nilIface,.slice a 4 cap] 213 (0,0))]::g::H) (fun v H'=>v=.string (bk (B0 l))∧H'=H):=by
 refine D3 17 Tryz.func149 ?_
 refine A1 (G_p [0] [0,1] (k:=A0 (A1 (A2 (A3 (j:=5) [0,0,0,0,0] (k:=D9 Tryz.func171 (crOnce rb a cap g hr _ _) ?_))))))
 rintro _ _ ⟨_,_,⟨b,t,n1,n2,rfl,rfl⟩,rfl⟩
 refine A7 [] [0,1] (k:=A0 (A1 (A2 (A3 (j:=3) [0,0,0] (k:=C6 0 3 rfl rfl (A3 (j:=5) [0] (k:=M9 0 [1,1,1,1] (R0 (t:=242) (rv:=pt b) (f:=278) (vs:=[.string (bk l)]) (av:=#[pt b,.string (bk l)]) (hm:=(fun _=>by kernel_rfl)) (hc:=genReplace_ b t n1 n2 l hl _ _) (k:=?_)))))))))
 rintro _ _ ⟨rfl,rfl⟩
 refine B1 (E':=[⟨4,[],.string (bk (B0 l))⟩]) [0] [4] (k:=A0 (B9 (G9 (H':=([(b,.cells (I2 [.string eB,.int .i64 0,.string eB,.pointer none,.slice (some ⟨t,0,none⟩) 2 2,.int .i64 2] (V3 256)) 268 (0,0))]::[(t,.cells #[.pointer none,pt n1] 263 (0,0))]::[(n1,.cells #[.string (mB #[10]),.int .i64 2,.string (mB #[10]),pt n2,.slice none 0 0] 266 (0,0))]::[(n2,.cells #[.string (mB #[10]),.int .i64 4,.string eB,.pointer none,.slice none 0 0] 266 (0,0))]::[(rb,.cells #[.int .u32 1,.int .i32 0,.int .u32 0,.iface 242 (pt b),.slice none 0 0] 213 (0,0))]::H)) (fun w h=>h.erase 5) (G9 (H':=([(b,.cells (I2 [.string eB,.int .i64 0,.string eB,.pointer none,.slice (some ⟨t,0,none⟩) 2 2,.int .i64 2] (V3 256)) 268 (0,0))]::[(t,.cells #[.pointer none,pt n1] 263 (0,0))]::[(n1,.cells #[.string (mB #[10]),.int .i64 2,.string (mB #[10]),pt n2,.slice none 0 0] 266 (0,0))]::[(n2,.cells #[.string (mB #[10]),.int .i64 4,.string eB,.pointer none,.slice none 0 0] 266 (0,0))]::H)) (fun w h=>h.erase 4) (G9 (H':=([(b,.cells (I2 [.string eB,.int .i64 0,.string eB,.pointer none,.slice (some ⟨t,0,none⟩) 2 2,.int .i64 2] (V3 256)) 268 (0,0))]::[(t,.cells #[.pointer none,pt n1] 263 (0,0))]::[(n1,.cells #[.string (mB #[10]),.int .i64 2,.string (mB #[10]),pt n2,.slice none 0 0] 266 (0,0))]::H)) (fun w h=>h.erase 3) (G9 (H':=([(b,.cells (I2 [.string eB,.int .i64 0,.string eB,.pointer none,.slice (some ⟨t,0,none⟩) 2 2,.int .i64 2] (V3 256)) 268 (0,0))]::[(t,.cells #[.pointer none,pt n1] 263 (0,0))]::H)) (fun w h=>h.erase 2) (G9 (H':=([(b,.cells (I2 [.string eB,.int .i64 0,.string eB,.pointer none,.slice (some ⟨t,0,none⟩) 2 2,.int .i64 2] (V3 256)) 268 (0,0))]::H)) (fun w h=>h.erase 1) (G9 (H':=H) (fun w h=>h.erase 0) ?_))))))))
 refine B6 [.tmp 4] [.string (bk (B0 l))] (k:=?_)
 exact ⟨rfl,rfl⟩
end Go.Proofs.YtppgfiklmfoaeaaGreatDoor
namespace Go.Proofs.YtppgfiklmfoaeaaGreatDoor
open Go.Sw Go.Sha Go.Esc Go.RowKit
theorem lit38:(⟨#[Nat.toUInt8 38]⟩:ByteArray).data.toList=[38]:=rfl
theorem sz38:(⟨#[Nat.toUInt8 38]⟩:ByteArray).size=1:=rfl
theorem toNat1 (m:Nat):Int.toNat ((m:Int)+1)=m+1:=by omega
theorem sz_drop (s:ByteArray) (k:Nat):(s.extract k s.size).size=s.size - k:=by rw [ByteArray.size_extract,Nat.min_self]
theorem w32i {x:Int} (h0:0≤x) (h1:x≤2147483647):IntKind.wrap .i32 x=x:=by
  have e:∀ y,IntKind.wrap .i32 y=if y % 4294967296<2147483648 then y % 4294967296 else y % 4294967296 - 4294967296:=by intro y; first | rfl | (simp [IntKind.wrap,IntKind.bits,IntKind.signed]; split <;> split <;> omega)
  rw [e]; split <;> omega
theorem number10_ (s:ByteArray) (hs:s.size≤1000000000000) (W0:World) (H:List Grp) (hW:S0 W0):Tri Tryz.prog 206 #[.string s,.int .i64 10,.int .i64 7] W0 H (fun v H'=>v=.int .i64 (I7 s.data.toList 10 7)∧H'=H):=by
 refine D3 42 Tryz.func206 ?_
 refine A1 (G_p [0] [0,1,2] (k:=A0 (A1 (A1 (G_p [0,0,0,0,0,0,0,0,5] [0,1,17] (k:=A0 (B2 (b:=((s.size:Int)==0)||(decide ((s.size:Int) > 7))) kr (fun hc1=>?_) (fun hc1=>?_))))))))
 ·
  simp only [Bool.or_eq_true,decide_eq_true_eq,beq_iff_eq,gt_iff_lt] at hc1
  refine A1 (C1 (E':=[⟨6,[],.int .i64 (-1)⟩]) [0] [6] (k:=A0 (B9 (A5 (B6 [.tmp 6] [.int .i64 (-1)] (k:=?_))))))
  exact ⟨congrArg (Value.int .i64) (by unfold I7; rw [if_pos (by rw [H7]; omega)]),rfl⟩
 ·
  simp only [Bool.or_eq_false_iff,decide_eq_false_iff_not,beq_eq_false_iff_ne,gt_iff_lt] at hc1
  refine A8 (A0 (A1 (A2 (A3 (j:=2) [0,0] (k:=D9 Tryz.func191 (parse10_ s (by omega) (by omega) _ _ hW) ?_)))))
  rintro _ _ ⟨⟨n,hV,hn0,hn1,rfl⟩ | ⟨hV,N,rfl⟩,rfl⟩
  ·
   have hp:=pow16 (show s.size≤7 by omega)
   refine A7 [0,0,0,0,0] [7,8] (k:=A0 (A1 (A1 (A2 (A3 (j:=1) [0] (k:=O3 (ch:=[]) (v:=.nilIface) (e:=true) true (hv:=.inl ⟨rfl,rfl⟩) (k:=A3 (j:=13) [0,0,0,3,0,0,0,5,0,0,0] (k:=P6 [(34,false)] Tryz.func192 (fun hc=>vRune_ (IntKind.wrap .i32 n) _ _) ?_))))))))
   refine A7 [0,5] [7,39] (k:=A0 (B2 (b:=((n==0)||(decide (n > 1114111)))||(!(isB (IntKind.wrap .i32 n)))) kr (fun hc2=>?_) (fun hc2=>?_)))
   ·
    simp only [Bool.or_eq_true,decide_eq_true_eq,beq_iff_eq,gt_iff_lt,Bool.not_eq_true'] at hc2
    have hbad:=hc2
    refine A1 (C1 (E':=[⟨6,[],.int .i64 (-1)⟩]) [0] [6] (k:=A0 (B9 (A5 (B6 [.tmp 6] [.int .i64 (-1)] (k:=?_))))))
    exact ⟨congrArg (Value.int .i64) (by unfold I7; rw [if_neg (by rw [H7]; omega),hV]; dsimp only; rw [if_pos]; unfold isB; by_cases hn:n=0; exact .inl hn; right; rw [← Bool.not_eq_true]; intro hb; have hr:=isB_iff.1 hb; unfold isR at hr; rcases hbad with (h | h) | h; exact hn h; omega; rw [w32i (by omega) (by omega)] at h; rw [show isB n=true from hb] at h; cases h),rfl⟩
   ·
    simp only [Bool.or_eq_false_iff,decide_eq_false_iff_not,beq_eq_false_iff_ne,gt_iff_lt,Bool.not_eq_false'] at hc2
    have hok:=hc2
    refine A8 (A0 (A1 (A2 (A3 (j:=2) [0,0] (k:=D1 41 n (by omega) (by omega) kr (B1 (E':=[⟨6,[],.int .i64 n⟩]) [0] [6] (k:=A0 (B9 ?_))))))))
    refine B6 [.tmp 6] [.int .i64 n] (k:=?_)
    exact ⟨congrArg (Value.int .i64) (by unfold I7; rw [if_neg (by rw [H7]; omega),hV]; dsimp only; rw [if_neg]; rintro (h | h); exact hok.1.1 h; have h2:=hok.2; rw [w32i (by omega) (by omega),h] at h2; cases h2),rfl⟩
  ·
   refine A7 [0,0,0,0,0] [7,8] (k:=A0 (A1 (A1 (A2 (A3 (j:=1) [0] (k:=O3 (ch:=[]) (v:=.iface 272 (pt N)) (e:=false) true (hv:=.inr ⟨⟨_,_,rfl⟩,rfl⟩) (k:=A7 [0,1,1,2,0,1,1,2,0,1,1,1,1,2] [7,39] (k:=A0 ?_))))))))
   refine C4 kr (A1 (C1 (E':=[⟨6,[],.int .i64 (-1)⟩]) [0] [6] (k:=A0 (B9 (A5 (B6 [.tmp 6] [.int .i64 (-1)] (k:=?_)))))))
   exact ⟨congrArg (Value.int .i64) (by unfold I7; rw [if_neg (by rw [H7]; omega),hV]),rfl⟩
theorem number16_ (s:ByteArray) (hs:s.size≤1000000000000) (W0:World) (H:List Grp) (hW:S0 W0):Tri Tryz.prog 206 #[.string s,.int .i64 16,.int .i64 6] W0 H (fun v H'=>v=.int .i64 (I7 s.data.toList 16 6)∧H'=H):=by
 refine D3 42 Tryz.func206 ?_
 refine A1 (G_p [0] [0,1,2] (k:=A0 (A1 (A1 (G_p [0,0,0,0,0,0,0,0,5] [0,1,17] (k:=A0 (B2 (b:=((s.size:Int)==0)||(decide ((s.size:Int) > 6))) kr (fun hc1=>?_) (fun hc1=>?_))))))))
 ·
  simp only [Bool.or_eq_true,decide_eq_true_eq,beq_iff_eq,gt_iff_lt] at hc1
  refine A1 (C1 (E':=[⟨6,[],.int .i64 (-1)⟩]) [0] [6] (k:=A0 (B9 (A5 (B6 [.tmp 6] [.int .i64 (-1)] (k:=?_))))))
  exact ⟨congrArg (Value.int .i64) (by unfold I7; rw [if_pos (by rw [H7]; omega)]),rfl⟩
 ·
  simp only [Bool.or_eq_false_iff,decide_eq_false_iff_not,beq_eq_false_iff_ne,gt_iff_lt] at hc1
  refine A8 (A0 (A1 (A2 (A3 (j:=2) [0,0] (k:=D9 Tryz.func191 (parse16_ s (by omega) (by omega) _ _ hW) ?_)))))
  rintro _ _ ⟨⟨n,hV,hn0,hn1,rfl⟩ | ⟨hV,N,rfl⟩,rfl⟩
  ·
   have hp:=pow16 (show s.size≤7 by omega)
   refine A7 [0,0,0,0,0] [7,8] (k:=A0 (A1 (A1 (A2 (A3 (j:=1) [0] (k:=O3 (ch:=[]) (v:=.nilIface) (e:=true) true (hv:=.inl ⟨rfl,rfl⟩) (k:=A3 (j:=13) [0,0,0,3,0,0,0,5,0,0,0] (k:=P6 [(34,false)] Tryz.func192 (fun hc=>vRune_ (IntKind.wrap .i32 n) _ _) ?_))))))))
   refine A7 [0,5] [7,39] (k:=A0 (B2 (b:=((n==0)||(decide (n > 1114111)))||(!(isB (IntKind.wrap .i32 n)))) kr (fun hc2=>?_) (fun hc2=>?_)))
   ·
    simp only [Bool.or_eq_true,decide_eq_true_eq,beq_iff_eq,gt_iff_lt,Bool.not_eq_true'] at hc2
    have hbad:=hc2
    refine A1 (C1 (E':=[⟨6,[],.int .i64 (-1)⟩]) [0] [6] (k:=A0 (B9 (A5 (B6 [.tmp 6] [.int .i64 (-1)] (k:=?_))))))
    exact ⟨congrArg (Value.int .i64) (by unfold I7; rw [if_neg (by rw [H7]; omega),hV]; dsimp only; rw [if_pos]; unfold isB; by_cases hn:n=0; exact .inl hn; right; rw [← Bool.not_eq_true]; intro hb; have hr:=isB_iff.1 hb; unfold isR at hr; rcases hbad with (h | h) | h; exact hn h; omega; rw [w32i (by omega) (by omega)] at h; rw [show isB n=true from hb] at h; cases h),rfl⟩
   ·
    simp only [Bool.or_eq_false_iff,decide_eq_false_iff_not,beq_eq_false_iff_ne,gt_iff_lt,Bool.not_eq_false'] at hc2
    have hok:=hc2
    refine A8 (A0 (A1 (A2 (A3 (j:=2) [0,0] (k:=D1 41 n (by omega) (by omega) kr (B1 (E':=[⟨6,[],.int .i64 n⟩]) [0] [6] (k:=A0 (B9 ?_))))))))
    refine B6 [.tmp 6] [.int .i64 n] (k:=?_)
    exact ⟨congrArg (Value.int .i64) (by unfold I7; rw [if_neg (by rw [H7]; omega),hV]; dsimp only; rw [if_neg]; rintro (h | h); exact hok.1.1 h; have h2:=hok.2; rw [w32i (by omega) (by omega),h] at h2; cases h2),rfl⟩
  ·
   refine A7 [0,0,0,0,0] [7,8] (k:=A0 (A1 (A1 (A2 (A3 (j:=1) [0] (k:=O3 (ch:=[]) (v:=.iface 272 (pt N)) (e:=false) true (hv:=.inr ⟨⟨_,_,rfl⟩,rfl⟩) (k:=A7 [0,1,1,2,0,1,1,2,0,1,1,1,1,2] [7,39] (k:=A0 ?_))))))))
   refine C4 kr (A1 (C1 (E':=[⟨6,[],.int .i64 (-1)⟩]) [0] [6] (k:=A0 (B9 (A5 (B6 [.tmp 6] [.int .i64 (-1)] (k:=?_)))))))
   exact ⟨congrArg (Value.int .i64) (by unfold I7; rw [if_neg (by rw [H7]; omega),hV]),rfl⟩
theorem reference_ (s:ByteArray) (hs:s.size≤1000000000000) (W0:World) (H:List Grp) (hW:S0 W0):Tri Tryz.prog 187 #[.string s] W0 H (fun v H'=>v=.int .i64 (X5 s.data.toList)∧H'=H):=by
 refine D3 44 Tryz.func187 ?_
 refine A1 (C1 (E':=[⟨0,[],.string s⟩]) [0] [0] (k:=A0 (A1 (A1 (C1 (E':=[⟨0,[],.string s⟩,⟨9,[],.string s⟩]) [0] [0,9] (k:=A0 (B4 (A1 ?_))))))))
 refine G_p [0,0] [0,9,10] (k:=A0 (B2 (b:=s.toList==(mB #[97,109,112]).toList) kr (fun hc1=>?_) (fun hc1=>?_)))
 ·
  have e0:=(eqB _ _).1 hc1
  refine A1 (C1 (E':=[⟨2,[],.int .i64 38⟩]) [0] [2] (k:=A0 (B9 (B8 (A5 (B6 [.tmp 2] [.int .i64 38] (k:=?_)))))))
  exact ⟨congrArg (Value.int .i64) (by unfold X5; rw [if_pos e0]),rfl⟩
 ·
  have e0:=(eqBf _ _).1 hc1
  refine A1 (G_p [0,0] [0,9,12] (k:=A0 (B2 (b:=s.toList==(mB #[108,116]).toList) kr (fun hc2=>?_) (fun hc2=>?_))))
  ·
   have e1:=(eqB _ _).1 hc2
   refine A1 (C1 (E':=[⟨2,[],.int .i64 60⟩]) [0] [2] (k:=A0 (B9 (B8 (A5 (B6 [.tmp 2] [.int .i64 60] (k:=?_)))))))
   exact ⟨congrArg (Value.int .i64) (by unfold X5; rw [if_neg e0,if_pos e1]),rfl⟩
  ·
   have e1:=(eqBf _ _).1 hc2
   refine A1 (G_p [0,0] [0,9,14] (k:=A0 (B2 (b:=s.toList==(mB #[103,116]).toList) kr (fun hc3=>?_) (fun hc3=>?_))))
   ·
    have e2:=(eqB _ _).1 hc3
    refine A1 (C1 (E':=[⟨2,[],.int .i64 62⟩]) [0] [2] (k:=A0 (B9 (B8 (A5 (B6 [.tmp 2] [.int .i64 62] (k:=?_)))))))
    exact ⟨congrArg (Value.int .i64) (by unfold X5; rw [if_neg e0,if_neg e1,if_pos e2]),rfl⟩
   ·
    have e2:=(eqBf _ _).1 hc3
    refine A1 (G_p [0,0] [0,9,16] (k:=A0 (B2 (b:=s.toList==(mB #[113,117,111,116]).toList) kr (fun hc4=>?_) (fun hc4=>?_))))
    ·
     have e3:=(eqB _ _).1 hc4
     refine A1 (C1 (E':=[⟨2,[],.int .i64 34⟩]) [0] [2] (k:=A0 (B9 (B8 (A5 (B6 [.tmp 2] [.int .i64 34] (k:=?_)))))))
     exact ⟨congrArg (Value.int .i64) (by unfold X5; rw [if_neg e0,if_neg e1,if_neg e2,if_pos e3]),rfl⟩
    ·
     have e3:=(eqBf _ _).1 hc4
     refine A1 (G_p [0,0] [0,18] (k:=A0 (B2 (b:=s.toList==(mB #[97,112,111,115]).toList) kr (fun hc5=>?_) (fun hc5=>?_))))
     ·
      have e4:=(eqB _ _).1 hc5
      refine A1 (C1 (E':=[⟨2,[],.int .i64 39⟩]) [0] [2] (k:=A0 (B9 (B8 (A5 (B6 [.tmp 2] [.int .i64 39] (k:=?_)))))))
      exact ⟨congrArg (Value.int .i64) (by unfold X5; rw [if_neg e0,if_neg e1,if_neg e2,if_neg e3,if_pos e4]),rfl⟩
     ·
      have e4:=(eqBf _ _).1 hc5
      refine A8 (B7 (A0 (A1 (A1 (A2 (A3 (j:=1) [0] (k:=D9 Tryz.func124 (cutP_ s (mB #[35,120]) (by omega) (by first | omega | decide) _ _) ?_)))))))
      rintro _ _ ⟨rfl,rfl⟩
      cases hsp:I3 s (mB #[35,120])
      all_goals simp only [Bool.false_eq_true,if_false,if_true]
      ·
       have hp44:¬ s.data.toList.take 2=[35,120]:=(N6 _ _).1 hsp
       refine B1 (E':=[⟨0,[],.string s⟩,⟨3,[],.string s⟩,⟨4,[],.bool false⟩]) [0,0,0,0,0] [0,3,4] (k:=A0 (A1 (G_p [0] [0,3,25] (k:=A0 (C8 kr (A8 (A0 (A1 ?_))))))))
       refine A1 (A2 (A3 (j:=1) [0] (k:=D9 Tryz.func124 (cutP_ s (mB #[35,88]) (by omega) (by first | omega | decide) _ _) ?_)))
       rintro _ _ ⟨rfl,rfl⟩
       cases hsp:I3 s (mB #[35,88])
       all_goals simp only [Bool.false_eq_true,if_false,if_true]
       ·
        have hp47:¬ s.data.toList.take 2=[35,88]:=(N6 _ _).1 hsp
        refine A7 [0,0,0,0,0] [0,5,6] (k:=A0 (A1 (G_p [0] [0,5,33] (k:=A0 (C8 kr (A8 (A0 (A1 ?_))))))))
        refine A1 (A2 (A3 (j:=1) [0] (k:=D9 Tryz.func124 (cutP_ s (mB #[35]) (by omega) (by first | omega | decide) _ _) ?_)))
        rintro _ _ ⟨rfl,rfl⟩
        cases hsp:I3 s (mB #[35])
        all_goals simp only [Bool.false_eq_true,if_false,if_true]
        ·
         have hp50:¬ s.data.toList.take 1=[35]:=(N6 _ _).1 hsp
         refine A7 [0,0,0,0,0] [7,8] (k:=A0 (A1 (G_p [0] [7,41] (k:=A0 (C8 kr (A8 (A0 (A1 ?_))))))))
         refine C1 (E':=[⟨2,[],.int .i64 (-1)⟩]) [0] [2] (k:=A0 (B9 (B6 [.tmp 2] [.int .i64 (-1)] (k:=?_))))
         exact ⟨congrArg (Value.int .i64) (by unfold X5; rw [if_neg e0,if_neg e1,if_neg e2,if_neg e3,if_neg e4,if_neg hp44,if_neg hp47,if_neg hp50]),rfl⟩
        ·
         have hp50:s.data.toList.take 1=[35]:=(N8 _ _).1 hsp
         refine A7 [0,0,0,0,0] [7,8] (k:=A0 (A1 (G_p [0] [7,41] (k:=A0 (C4 kr (A1 (A2 (A3 (j:=1) [0] (k:=?_)))))))))
         refine D9 Tryz.func206 (number10_ (s.extract (mB #[35]).size s.size) (by first | omega | (rw [ByteArray.size_extract]; omega)) _ _ hW) ?_
         rintro _ _ ⟨rfl,rfl⟩
         refine B1 (E':=[⟨2,[],.int .i64 (I7 (s.extract (mB #[35]).size s.size).data.toList 10 7)⟩]) [0] [2] (k:=A0 (B9 (A5 (B6 [.tmp 2] [.int .i64 (I7 (s.extract (mB #[35]).size s.size).data.toList 10 7)] (k:=?_)))))
         exact ⟨congrArg (Value.int .i64) (by unfold X5; rw [if_neg e0,if_neg e1,if_neg e2,if_neg e3,if_neg e4,if_neg hp44,if_neg hp47,if_pos hp50,N9]; rfl),rfl⟩
       ·
        have hp47:s.data.toList.take 2=[35,88]:=(N8 _ _).1 hsp
        refine A7 [0,0,0,0,0] [0,5,6] (k:=A0 (A1 (G_p [0] [0,5,33] (k:=A0 (C4 kr (A1 (A2 (A3 (j:=1) [0] (k:=?_)))))))))
        refine D9 Tryz.func206 (number16_ (s.extract (mB #[35,88]).size s.size) (by first | omega | (rw [ByteArray.size_extract]; omega)) _ _ hW) ?_
        rintro _ _ ⟨rfl,rfl⟩
        refine A7 [0] [2] (k:=A0 (B9 (A5 (B6 [.tmp 2] [.int .i64 (I7 (s.extract (mB #[35,88]).size s.size).data.toList 16 6)] (k:=?_)))))
        exact ⟨congrArg (Value.int .i64) (by unfold X5; rw [if_neg e0,if_neg e1,if_neg e2,if_neg e3,if_neg e4,if_neg hp44,if_pos hp47,N9]; rfl),rfl⟩
      ·
       have hp44:s.data.toList.take 2=[35,120]:=(N8 _ _).1 hsp
       refine B1 (E':=[⟨0,[],.string s⟩,⟨3,[],.string (s.extract (mB #[35,120]).size s.size)⟩,⟨4,[],.bool true⟩]) [0,0,0,0,0] [0,3,4] (k:=A0 (A1 (G_p [0] [0,3,25] (k:=A0 (C4 kr (A1 (A2 (A3 (j:=1) [0] (k:=?_)))))))))
       refine D9 Tryz.func206 (number16_ (s.extract (mB #[35,120]).size s.size) (by first | omega | (rw [ByteArray.size_extract]; omega)) _ _ hW) ?_
       rintro _ _ ⟨rfl,rfl⟩
       refine A7 [0] [2] (k:=A0 (B9 (A5 (B6 [.tmp 2] [.int .i64 (I7 (s.extract (mB #[35,120]).size s.size).data.toList 16 6)] (k:=?_)))))
       exact ⟨congrArg (Value.int .i64) (by unfold X5; rw [if_neg e0,if_neg e1,if_neg e2,if_neg e3,if_neg e4,if_pos hp44,N9]; rfl),rfl⟩
theorem unhtml_ (s:ByteArray) (hs:s.size≤10000000000) (W0:World) (H:List Grp) (hW:S0 W0):Tri Tryz.prog 169 #[.string s] W0 H (fun v H'=>v=.string ⟨(unL s.data.toList).toArray⟩∧H'=H):=by
 refine D3 41 Tryz.func169 ?_
 refine A1 (C1 (E':=[⟨0,[],.string s⟩]) [0] [0] (k:=A0 (A1 (A2 (L1 (.agg #[.pointer none,.slice none 0 0]) (fun b1=>GL_heap rfl (H':=([(b1,.cells #[.pointer none,.slice none 0 0] 87 (0,0))]::[]::H)) (fun w h=>h.flat (List.Perm.refl _)) (B1 (E':=[⟨0,[],.string s⟩,⟨3,[],pt b1⟩]) [] [0,3] (k:=A0 ?_))))))))
 refine B4 (J7 (EI:=(fun ξ:Value × Value × Grp × ByteArray × ByteArray=>[⟨0,[],.string ξ.2.2.2.2⟩,⟨3,[],pt b1⟩])) (HI:=(fun ξ:Value × Value × Grp × ByteArray × ByteArray=>([(b1,.cells #[ξ.1,ξ.2.1] 87 (0,0))]::ξ.2.2.1::H))) (Φ:=(fun ξ:Value × Value × Grp × ByteArray × ByteArray=>(Bld b1 ξ.1)∧(BOwn ξ.2.1 ξ.2.2.1 ξ.2.2.2.1)∧(ξ.2.2.2.2.size≤s.size)∧(ξ.2.2.2.1.size+4 * ξ.2.2.2.2.size≤4 * s.size)∧(ξ.2.2.2.1.data.toList++unL ξ.2.2.2.2.data.toList=unL s.data.toList))) (μ:=(fun ξ:Value × Value × Grp × ByteArray × ByteArray=>ξ.2.2.2.2.size)) (s0:=(.pointer none,.slice none 0 0,[],.empty,s)) [0,3] kr rfl ⟨bld0,bown0,(Nat.le_refl _),(by show 0+4 * s.size≤4 * s.size; omega),(by rfl)⟩ ?_)
 rintro ⟨p,v,g,t,sv⟩ ⟨hbp,hB,hz,hts,hT⟩
 dsimp only at hbp hB hz hts hT
 refine B4 (A1 (A2 (A3 (j:=1) [0] (k:=D9 Tryz.func168 (idx_ sv 38 _ _) ?_))))
 rintro _ _ ⟨rfl,rfl⟩
 rcases bIdx_spec sv (c:=38) (by decide) (by decide) with ⟨k,hk,hik,hbk,hnk⟩ | ⟨hik,hnk⟩
 all_goals rw [hik]
 ·
  have hz1:(sv.extract k sv.size).size=sv.size - k:=sz_drop sv k
  have hz0:(sv.extract 0 k).size=k:=by rw [ByteArray.size_extract]; omega
  have hz4:((sv.extract k sv.size).extract 1 (sv.extract k sv.size).size).size=sv.size - k - 1:=by rw [sz_drop,hz1]
  refine A7 [0] [0,3,4] (k:=A0 (A1 (A1 (G_p [0,0] [0,3,4,10] (k:=A0 (B2 (b:=decide (((k:Nat):Int)<0)) kr (fun hc2=>?_) (fun hc2=>?_)))))))
  ·
   simp only [decide_eq_true_eq] at hc2; omega
  ·
   skip
   refine A8 (A0 (A1 (A2 (A3 (j:=2) [0,0] (k:=N4 sv 0 ((k:Nat):Int) (by omega) (D9 Tryz.func90 (M3 b1 (p) (v) g t (sv.extract 0 k) hbp hB (by (try simp only [H4]); omega) _ _) ?_))))))
   rintro _ _ ⟨v3,g4,hB5,rfl⟩
   refine A7 [] [0,3,4] (k:=A0 (A1 (A2 (A3 (j:=2) [0,0] (k:=N4 sv ((k:Nat):Int) (sv.size:Int) (by omega) (A7 [0] [0,3] (k:=A0 (A1 ?_))))))))
   refine G_p [0] [0,3,5] (k:=A0 (A1 (A2 (A3 (j:=1) [0] (k:=D9 Tryz.func168 (idx_ (sv.extract k sv.size) 59 _ _) ?_)))))
   rintro _ _ ⟨rfl,rfl⟩
   rcases bIdx_spec (sv.extract k sv.size) (c:=59) (by decide) (by decide) with ⟨m,hm,him,hbm,hnm⟩ | ⟨him,hnm⟩
   all_goals rw [him]
   ·
    have hz2:((sv.extract k sv.size).extract (m+1) (sv.extract k sv.size).size).size=sv.size - k - (m+1):=by rw [sz_drop,hz1]
    have hz3:((sv.extract k sv.size).extract 1 m).size=m - 1:=by rw [ByteArray.size_extract]; omega
    refine B1 (E':=[⟨0,[],.string (sv.extract k sv.size)⟩,⟨3,[],pt b1⟩,⟨5,[],.int .i64 (-1)⟩,⟨6,[],.int .i64 ((m:Nat):Int)⟩]) [0] [0,3,5,6] (k:=A0 (A1 (A1 (G_p [0,0] [0,3,5,6,24] (k:=A0 (B2 (b:=decide (((m:Nat):Int) > 0)) kr (fun hc6=>?_) (fun hc6=>?_)))))))
    ·
     have hm0:=m_pos hk hbk hbm
     refine A2 (A3 (j:=2) [0,0] (k:=N4 (sv.extract k sv.size) 1 ((m:Nat):Int) (by omega) (D9 Tryz.func187 (reference_ ((sv.extract k sv.size).extract 1 m) (by omega) _ _ hW) ?_)))
     rintro _ _ ⟨rfl,rfl⟩
     refine A7 [0] [0,3,5,6] (k:=A0 (A1 (A1 (G_p [0,0] [0,3,5,6,30] (k:=A0 (B2 (b:=decide ((X5 ((sv.extract k sv.size).extract 1 m).data.toList)<0)) kr (fun hc7=>?_) (fun hc7=>?_)))))))
     ·
      simp only [decide_eq_true_eq] at hc7
      refine A1 (A2 (D9 Tryz.func92 (writeByteC b1 (pt b1) (v3) g4 (t++(sv.extract 0 k)) (Nat.toUInt8 38) bld1 hB5 (by (try simp only [H4]); omega) _ _) ?_))
      rintro _ _ ⟨v8,g9,hB10,rfl⟩
      refine A7 [] [0,3] (k:=A0 (A1 (A2 (A3 (j:=1) [0] (k:=N4 (sv.extract k sv.size) 1 ((sv.extract k sv.size).size:Int) (by omega) (A7 [0] [0,3] (k:=A0 (E8 ?_))))))))
      refine A6 (B5 (D2 (s':=(pt b1,v8,g9,((t++(sv.extract 0 k))++⟨#[Nat.toUInt8 38]⟩),(sv.extract k sv.size).extract 1 (sv.extract k sv.size).size)) [0,3] kr rfl ⟨bld1,hB10,(by dsimp only; omega),(by dsimp only; simp only [H4,sz38]; omega),(by dsimp only; rw [← hT,(unB hk hbk hnk hm hbm hnm hm0).1 (by omega),K8,K8,ext_take,lit38]; simp only [List.append_assoc,List.cons_append,List.nil_append])⟩ (by dsimp only; omega)))
     ·
      simp only [decide_eq_false_iff_not] at hc7
      have hri:=refM_isR (t:=((sv.extract k sv.size).extract 1 m).data.toList) (by omega)
      unfold isR at hri
      refine A8 (A0 (A1 (A2 (A3 (j:=2) [0,0] (k:=E5 35 (x:=.int .i32 (IntKind.wrap .i32 (X5 ((sv.extract k sv.size).extract 1 m).data.toList))) (y:=.int .i32 (X5 ((sv.extract k sv.size).extract 1 m).data.toList)) (by rw [w32i (by omega) (by omega)]) (D9 Tryz.func136 (writeRune b1 (pt b1) (v3) g4 (t++(sv.extract 0 k)) (X5 ((sv.extract k sv.size).extract 1 m).data.toList) bld1 hB5 (refM_isR (by omega)) (by (try simp only [H4]); omega) _ _) ?_))))))
      rintro _ _ ⟨v11,g12,hB13,rfl⟩
      refine A7 [] [0,3,6] (k:=A0 (A2 (A3 (j:=3) [0,0,0] (k:=D1 39 (((m:Nat):Int)+1) (by omega) (by omega) kr (N4 (sv.extract k sv.size) (((m:Nat):Int)+1) ((sv.extract k sv.size).size:Int) (by omega) (E5 40 (x:=.string ((sv.extract k sv.size).extract (Int.toNat (((m:Nat):Int)+1)) (sv.extract k sv.size).size)) (y:=.string ((sv.extract k sv.size).extract (m+1) (sv.extract k sv.size).size)) (by rw [toNat1]) (A7 [0] [0,3] (k:=B7 ?_))))))))
      refine D2 (s':=(pt b1,v11,g12,((t++(sv.extract 0 k))++encB (X5 ((sv.extract k sv.size).extract 1 m).data.toList)),(sv.extract k sv.size).extract (m+1) (sv.extract k sv.size).size)) [0,3] kr rfl ⟨bld1,hB13,(by dsimp only; omega),(by dsimp only; have he:=encB_size (X5 ((sv.extract k sv.size).extract 1 m).data.toList); simp only [H4]; omega),(by dsimp only; rw [← hT,(unB hk hbk hnk hm hbm hnm hm0).2 (by omega),K8,K8,Q8,ext_take]; simp only [List.append_assoc])⟩ (by dsimp only; omega)
    ·
     exact absurd (m_pos hk hbk hbm) (by simp only [gt_iff_lt,decide_eq_false_iff_not] at hc6; omega)
   ·
    refine B1 (E':=[⟨0,[],.string (sv.extract k sv.size)⟩,⟨3,[],pt b1⟩,⟨5,[],.int .i64 (-1)⟩,⟨6,[],.int .i64 (-1)⟩]) [0] [0,3,5,6] (k:=A0 (A1 (A1 (G_p [0,0] [0,3,5,6,24] (k:=A0 (C8 kr (A8 (A0 ?_))))))))
    refine A1 (A1 (G_p [0,0] [0,3,5,6,30] (k:=A0 (C4 kr (A1 (A2 (D9 Tryz.func92 (writeByteC b1 (pt b1) (v3) g4 (t++(sv.extract 0 k)) (Nat.toUInt8 38) bld1 hB5 (by (try simp only [H4]); omega) _ _) ?_)))))))
    rintro _ _ ⟨v15,g16,hB17,rfl⟩
    refine A7 [] [0,3] (k:=A0 (A1 (A2 (A3 (j:=1) [0] (k:=N4 (sv.extract k sv.size) 1 ((sv.extract k sv.size).size:Int) (by omega) (A7 [0] [0,3] (k:=A0 (E8 ?_))))))))
    refine A6 (B5 (D2 (s':=(pt b1,v15,g16,((t++(sv.extract 0 k))++⟨#[Nat.toUInt8 38]⟩),(sv.extract k sv.size).extract 1 (sv.extract k sv.size).size)) [0,3] kr rfl ⟨bld1,hB17,(by dsimp only; omega),(by dsimp only; simp only [H4,sz38]; omega),(by dsimp only; rw [← hT,unA hk hbk hnk hnm,K8,K8,ext_take,lit38]; simp only [List.append_assoc,List.cons_append,List.nil_append])⟩ (by dsimp only; omega)))
 ·
  refine A7 [0] [0,3,4] (k:=A0 (A1 (A1 (G_p [0,0] [0,3,4,10] (k:=A0 (C4 kr (A1 (A2 ?_))))))))
  refine A3 (j:=1) [0] (k:=D9 Tryz.func90 (M3 b1 (p) (v) g t sv hbp hB (by (try simp only [H4]); omega) _ _) ?_)
  rintro _ _ ⟨v18,g19,hB20,rfl⟩
  refine B1 (E':=[⟨3,[],pt b1⟩]) [] [3] (k:=A0 (A1 (A2 (D9 Tryz.func53 (Y1 b1 (pt b1) (v18) g19 (t++sv) hB20 (by (try simp only [H4]); omega) _ _) ?_))))
  rintro _ _ ⟨rfl,rfl⟩
  refine B1 (E':=[⟨2,[],.string (t++sv)⟩]) [0] [2] (k:=A0 (B9 (A5 (B8 (A5 (B8 (F9 1 [] (B6 [.tmp 2] [.string (t++sv)] (k:=?_)))))))))
  exact ⟨congrArg Value.string (ba_eq (by rw [← hT,unC hnk,K8])),rfl⟩
end Go.Proofs.YtppgfiklmfoaeaaGreatDoor
namespace Go.Xml
open Go.Esc Go.Json
theorem X9 {c:UInt8}:∀ {l:List UInt8} {i:Nat},idxL [c] l=some i→l=l.take i++c::l.drop (i+1)∧(∀ b∈l.take i,b≠c)∧i<l.length
  | [],i,h=>by cases h
  | b::l,i,h=>by
    rw [idxL] at h
    by_cases hb:b=c
    · subst hb
      rw [if_pos (by simp [List.isPrefixOf])] at h
      injection h with h; subst h
      exact ⟨rfl,fun _ h=>absurd h List.not_mem_nil,Nat.succ_pos _⟩
    · rw [if_neg (by simpa [List.isPrefixOf] using fun e=>hb e.symm)] at h
      cases hi:idxL [c] l with
      | none=>rw [hi] at h; cases h
      | some j =>
        rw [hi] at h
        injection h with h; subst h
        obtain ⟨h1,h2,h3⟩:=X9 hi
        refine ⟨?_,fun x hx=>?_,by simpa using h3⟩
        · show b::l=b::(l.take j++c::l.drop (j+1)); rw [← h1]
        · rcases List.mem_cons.1 (show x∈b::l.take j from hx) with rfl | hx
          · exact hb
          · exact h2 x hx
theorem idx_no {c:UInt8} {l:List UInt8} (h:idxL [c] l=none):∀ b∈l,b≠c:=by
  intro b hb e
  have:=idx_mem c l
  rw [h] at this
  subst e
  simp [hb] at this
theorem piecesC_keep (c:UInt8):∀ (a t:List UInt8),(∀ b∈a,b≠c)→C3 c (a++t)=(a++(C3 c t).1,(C3 c t).2)
  | [],t,_=>rfl
  | b::a,t,h=>by
    rw [List.cons_append,C3,piecesC_keep c a t (fun x hx=>h x (List.mem_cons_of_mem _ hx))]
    dsimp only
    rw [if_neg (h b List.mem_cons_self)]; rfl
theorem pieces_sign (c:UInt8) (t:List UInt8):C3 c (c::t)=([],(C3 c t).1::(C3 c t).2):=by
  rw [C3]; (try dsimp only); rw [if_pos rfl]
theorem split_pieces (c:UInt8):∀ (n:Nat) (s:List UInt8),s.length≤n→Lib.splitK [c] 0 (Lib.count s [c]) s=(C3 c s).1::(C3 c s).2∧Lib.count s [c]=(C3 c s).2.length:=by
  intro n
  induction n with
  | zero =>
    intro s h
    have:s=[]:=List.eq_nil_of_length_eq_zero (by omega)
    subst this
    rw [Lib.count_miss (by rw [idx_lib]; rfl)]
    exact ⟨rfl,rfl⟩
  | succ n ih =>
    intro s h
    have hx:=idx_lib s [c]
    cases hi:idxL [c] s with
    | none =>
      rw [hi] at hx
      rw [Lib.count_miss hx]
      have h1:=piecesC_keep c s [] (idx_no hi)
      rw [List.append_nil] at h1
      have h2:C3 c s=(s,[]):=by rw [h1]; show (s++[],[])=_; rw [List.append_nil]
      rw [h2]; exact ⟨rfl,rfl⟩
    | some i =>
      rw [hi] at hx
      dsimp only at hx
      obtain ⟨h1,h2,h3⟩:=X9 hi
      obtain ⟨h4,h5⟩:=ih (s.drop (i+1)) (by clear hx; rw [List.length_drop]; have:=Nat.zero_le i; omega)
      have h6:C3 c s=(s.take i,(C3 c (s.drop (i+1))).1::(C3 c (s.drop (i+1))).2):=by
        conv=>lhs; rw [h1]
        rw [piecesC_keep c _ _ h2,pieces_sign,List.append_nil]
      have h7:=Lib.count_hit (s:=s) (sub:=[c]) (by simp) hx
      have h8:([c]:List UInt8).length=1:=rfl
      rw [h8] at h7
      rw [h7,h6]
      dsimp only
      refine ⟨?_,by rw [h5,List.length_cons]; omega⟩
      rw [Nat.add_comm 1,Lib.splitK,if_neg (by rw [hx,beq_iff_eq]; have:=Int.natCast_nonneg i; omega),hx,Int.toNat_natCast,Nat.add_zero,h8,h4]
theorem bidx_none {p:List UInt8} (h:idxL [59] p=none):Go.Sw.bIdx (bk p) 59=-1:=by
  refine Go.Sw.bIdx_none (by decide) (by decide) (fun j hj he=>?_)
  rw [byteJ] at he
  rw [D5] at hj
  have hm:p.getD j 0∈p:=by rw [show p.getD j 0=p[j] by simp [List.getD,hj]]; exact List.getElem_mem hj
  exact idx_no h _ hm (UInt8.toNat_inj.1 (by show (p.getD j 0).toNat=59; omega))
theorem bidx_some {p:List UInt8} {i:Nat} (h:idxL [59] p=some i):Go.Sw.bIdx (bk p) 59=i:=by
  obtain ⟨h1,h2,h3⟩:=X9 h
  refine Go.Sw.bIdx_eq (by decide) (by decide) (by rw [D5]; exact h3) ?_ (fun j hj he=>?_)
  · rw [byteJ]
    have:p.getD i 0=59:=by
      conv=>lhs; rw [h1]
      simp [List.getD,List.length_take,Nat.min_eq_left (Nat.le_of_lt h3)]
    rw [this]; rfl
  · rw [byteJ] at he
    have hm:p.getD j 0∈p.take i:=by
      rw [show p.getD j 0=p[j]'(by omega) by simp [List.getD,show j<p.length by omega]]
      rw [List.mem_take_iff_getElem]
      exact ⟨j,by omega,rfl⟩
    exact h2 _ hm (UInt8.toNat_inj.1 (by show (p.getD j 0).toNat=59; omega))
theorem flt_flt (e f:Int) (q:XS) (he:e≠0):E7 f (E7 e q)=E7 e q:=by
  by_cases h:q.2=0
  · rw [flt_0 h]; exact flt_ne he
  · rw [flt_ne h,flt_ne h]
theorem bad_none {p:List UInt8} (h:idxL [59] p=none):badX p=true:=by unfold badX; rw [h]
theorem bad_some {p:List UInt8} {i:Nat} (h:idxL [59] p=some i):badX p=(unL (38::p.take (i+1))==38::p.take (i+1)):=by unfold badX; rw [h]
def pcX (ps:List (List UInt8)) (k:Nat) (q:XS):XS:=if (ps.take k).any badX then E7 70 q else q
theorem pcX_0 (ps:List (List UInt8)) (q:XS):pcX ps 0 q=q:=by unfold pcX; rw [List.take_zero]; rfl
theorem pcX_bad {ps:List (List UInt8)} {k:Nat} {q:XS} (h:k<ps.length) (hb:badX ps[k]=true):pcX ps (k+1) q=E7 70 (pcX ps k q):=by
  unfold pcX
  rw [List.take_succ_eq_append_getElem h,List.any_append,List.any_cons,List.any_nil,hb,Bool.or_false,Bool.or_true,if_pos rfl]
  split
  · rw [flt_flt _ _ _ (by decide)]
  · rfl
theorem pcX_good {ps:List (List UInt8)} {k:Nat} {q:XS} (h:k<ps.length) (hb:badX ps[k]=false):pcX ps (k+1) q=pcX ps k q:=by
  unfold pcX
  rw [List.take_succ_eq_append_getElem h,List.any_append,List.any_cons,List.any_nil,hb,Bool.or_false,Bool.or_false]
theorem refs_yes {s:List UInt8} {q:XS} (h:G4 (unL (B0 s))≠unL (B0 s)):M2 s q=(unL (B0 s),E7 70 (pcX (C3 38 (B0 s)).2 (C3 38 (B0 s)).2.length q)):=by
  unfold M2 pcX; dsimp only; rw [List.take_length,if_pos h]
theorem refs_no {s:List UInt8} {q:XS} (h:G4 (unL (B0 s))=unL (B0 s)):M2 s q=(unL (B0 s),pcX (C3 38 (B0 s)).2 (C3 38 (B0 s)).2.length q):=by
  unfold M2 pcX; dsimp only; rw [List.take_length,if_neg (fun hn=>hn h)]
theorem pieces_len (c:UInt8):∀ (l:List UInt8),(C3 c l).1.length≤l.length∧(∀ p∈(C3 c l).2,p.length≤l.length)∧(C3 c l).2.length≤l.length
  | []=>⟨Nat.le_refl _,fun _ h=>absurd h List.not_mem_nil,Nat.le_refl _⟩
  | b::l=>by
    obtain ⟨h1,h2,h3⟩:=pieces_len c l
    rw [C3]; (try dsimp only)
    split
    · refine ⟨Nat.zero_le _,fun p hp=>?_,by simp only [List.length_cons]; omega⟩
      rcases List.mem_cons.1 hp with rfl | hp
      · rw [List.length_cons]; omega
      · have:=h2 p hp; rw [List.length_cons]; omega
    · refine ⟨by simp only [List.length_cons]; omega,fun p hp=>?_,by simp only [List.length_cons]; omega⟩
      have:=h2 p hp; rw [List.length_cons]; omega
end Go.Xml
namespace Go.Proofs.YtppgfiklmfoaeaaGreatDoor
open Go.Sw Go.Sha Go.Esc Go.RowKit Go.Json Go.Xml
theorem Tri_alloc {P:Program} {f:FuncId} {args:Array Value} {W0:World} {H:List Grp} {v:Nat→Value} {o:Obj} (h:∀ w,Sat W0 H w→Calls P f args w fun e w'=>e=.returned (v w.heap.size)∧w'=w.alloc o):Tri P f args W0 H (fun u H'=>∃ b,u=v b∧H'=[(b,o)]::H) :=
  fun w hs=>(h w hs).mono fun e w' ⟨he,hw⟩=>⟨_,_,he,⟨w.heap.size,rfl,rfl⟩,by subst hw; exact hs.new rfl rfl rfl rfl⟩
theorem splitW (l:List UInt8) (hl:l.length≤1000000000) (W0:World) (H:List Grp) (hX:R6 W0):Tri Tryz.prog 167 #[.string (bk l),.string (mB #[38])] W0 H (fun v H'=>∃ b,v=.slice (some ⟨b,0,none⟩) ((C3 38 l).2.length+1) ((C3 38 l).2.length+1)∧H'=[(b,.cells (strV ((C3 38 l).1::(C3 38 l).2)).toArray 9 (0,0))]::H):=by
  obtain ⟨m,h1,h2⟩:=hX.max
  have hs:=split_pieces 38 l.length l (Nat.le_refl _)
  have hc:Lib.countB (bk l) (mB #[38])=(C3 38 l).2.length:=hs.2
  have hd:(Lib.splitB (mB #[38]) 0 (Lib.countB (bk l) (mB #[38])) (bk l)).map Value.string=strV ((C3 38 l).1::(C3 38 l).2):=by
    have h3:=Lib.splitB_data (mB #[38]) 0 (Lib.countB (bk l) (mB #[38])) (bk l)
    have h4:Lib.splitK [38] 0 (Lib.countB (bk l) (mB #[38])) l=(C3 38 l).1::(C3 38 l).2:=hs.1
    rw [← h4]
    have h5:(Lib.splitB (mB #[38]) 0 (Lib.countB (bk l) (mB #[38])) (bk l)).map (·.data.toList)=Lib.splitK [38] 0 (Lib.countB (bk l) (mB #[38])) l:=h3
    rw [← h5]
    unfold strV
    rw [List.map_map]
    rfl
  refine (Tri_alloc (v:=fun b=>.slice (some ⟨b,0,none⟩) (Lib.countB (bk l) (mB #[38])+1) (Lib.countB (bk l) (mB #[38])+1)) (o:=.cells ((Lib.splitB (mB #[38]) 0 (Lib.countB (bk l) (mB #[38])) (bk l)).map Value.string).toArray 9 (0,0)) (fun w' hs=>Tryz.strings_Split (bk l) (mB #[38]) m w' (by rw [D5]; omega) (cell_base hs h1 h2) (Nat.le_refl _))).post fun v H' ⟨b,hv,hH⟩=>⟨H',⟨b,?_,?_⟩,fun _ h=>h⟩
  · rw [hv,hc]
  · rw [hH,hd]
theorem rd_tail {b:Nat} {v:Value} {cs:List Value} {e:TypeId} {fz:Nat × Nat}:Rd (inG [(b,.cells (v::cs).toArray e fz)]) (some ⟨b,1,none⟩) cs :=
  .inr ⟨b,1,_,_,_,rfl,List.mem_singleton.2 rfl,fun j u h=>by rw [List.getElem?_toArray,Nat.add_comm,List.getElem?_cons_succ]; exact h⟩
theorem rd_cut {b n:Nat} {v:Value} {cs:List Value} {e:TypeId} {fz:Nat × Nat} (hn:cs.length+1=n):Rd (inG [(b,.cells (v::cs).toArray e fz)]) (cutA (some ⟨b,0,none⟩) n 1 1) cs:=by
  cases cs with
  | nil=>exact .inl rfl
  | cons u t=>rw [Go.Sw.cut_some (by rw [← hn,List.length_cons]; omega)]; exact rd_tail
theorem cat38 (l:List UInt8):(mB #[38])++bk l=bk (38::l):=by
  apply ByteArray.ext; apply Array.ext'
  rw [ByteArray.data_append,Array.toList_append]; rfl
theorem xrefs_ (r:Nat) (q:XS) (s:List UInt8) (hs:s.length≤1000000) (W0:World) (H:List Grp) (hX:R6 W0):Tri Tryz.prog 144 #[pt r,.string (bk s)] W0 ([(r,.cells #[.string (bk q.1),.int .i64 q.2] 97 (0,0))]::H) (fun v H'=>v=.string (bk (M2 s q).1)∧H'=rdX r (M2 s q).2::H):=by
 have hW:S0 W0:=hX.base
 have hls:=P2 s
 obtain ⟨hp0,hp1,hp2⟩:=pieces_len 38 (B0 s)
 refine D3 50 Tryz.func144 ?_
 refine A1 (C1 (E':=[⟨0,[],pt r⟩,⟨1,[],.string (bk s)⟩]) [0] [0,1] (k:=A0 (A1 (A2 (J2 9 4 [.string (mB #[13,10]),.string (mB #[10]),.string (mB #[13]),.string (mB #[10])] (fun b1=>D9 Tryz.func148 (newRepC_ b1 _ _) ?_))))))
 rintro _ _ ⟨rb2,ra2,rcap2,rg2,rfl,hOwn2,rfl⟩
 have hRT2:Rd (inG rg2) ra2 crT:=by
  obtain ⟨a2,c2,e,_,h⟩:=hOwn2.shape
  injection e with e1; subst e1; exact h
 refine A3 (j:=3) [0] (k:=D9 Tryz.func149 (crReplace_ rb2 ra2 rcap2 rg2 hRT2 s (by omega) _ _) ?_)
 rintro _ _ ⟨rfl,rfl⟩
 refine A7 [0] [0,1] (k:=A0 (A1 (A1 (A2 (A3 (j:=1) [0] (k:=D9 Tryz.func167 (splitW (B0 s) (by omega) _ _ hX) ?_))))))
 rintro _ _ ⟨sb,rfl,rfl⟩
 refine GL_sliceL (ch:=[]) (a:=(some ⟨sb,0,none⟩)) (len:=((C3 38 (B0 s)).2.length+1)) (cap:=((C3 38 (B0 s)).2.length+1)) (e:=9) (sz:=1) (vl:=(some (.int .i64 1))) (vh:=none) (l:=1) (h:=((((C3 38 (B0 s)).2.length+1):Nat):Int)) (hb:=(by intro _; exact ⟨by omega,by omega,by omega⟩)) (k:=?_)
 obtain ⟨sa,hsa⟩:∃ sa,sa=cutA (some ⟨sb,0,none⟩) ((C3 38 (B0 s)).2.length+1) 1 1:=⟨_,rfl⟩
 have hrs:Rd (inG [(sb,.cells (strV ((C3 38 (B0 s)).1::(C3 38 (B0 s)).2)).toArray 9 (0,0))]) sa (strV (C3 38 (B0 s)).2):=by rw [hsa]; exact rd_cut (congrArg (·+1) (strV_len _))
 refine E5 14 (x:=.slice (cutA (some ⟨sb,0,none⟩) ((C3 38 (B0 s)).2.length+1) 1 1) ((Int.toNat ((((C3 38 (B0 s)).2.length+1):Nat):Int)) - 1) (((C3 38 (B0 s)).2.length+1) - 1)) (y:=.slice sa ((C3 38 (B0 s)).2.length) ((C3 38 (B0 s)).2.length)) (by rw [← hsa,Int.toNat_natCast,Nat.add_sub_cancel]) (A7 [0,0] [0,1,14,15,16] (k:=A0 (B4 (T5 (H':=([(sb,.cells (strV ((C3 38 (B0 s)).1::(C3 38 (B0 s)).2)).toArray 9 (0,0))]::[(b1,.cells #[.string (mB #[13,10]),.string (mB #[10]),.string (mB #[13]),.string (mB #[10])] 9 (0,0))]::[(r,.cells #[.string (bk (pcX (C3 38 (B0 s)).2 0 q).1),.int .i64 ((pcX (C3 38 (B0 s)).2 0 q).2)] 97 (0,0))]::H)) (fun w h=>by rw [pcX_0]; exact h) (J7 (EI:=(fun ξ:Nat=>[⟨0,[],pt r⟩,⟨1,[],.string (bk (B0 s))⟩,⟨14,[],.slice sa ((C3 38 (B0 s)).2.length) ((C3 38 (B0 s)).2.length)⟩,⟨15,[],.int .i64 (((C3 38 (B0 s)).2.length:Nat):Int)⟩,⟨16,[],.int .i64 ((ξ:Nat):Int)⟩])) (HI:=(fun ξ:Nat=>([(sb,.cells (strV ((C3 38 (B0 s)).1::(C3 38 (B0 s)).2)).toArray 9 (0,0))]::[(b1,.cells #[.string (mB #[13,10]),.string (mB #[10]),.string (mB #[13]),.string (mB #[10])] 9 (0,0))]::[(r,.cells #[.string (bk (pcX (C3 38 (B0 s)).2 ξ q).1),.int .i64 ((pcX (C3 38 (B0 s)).2 ξ q).2)] 97 (0,0))]::H))) (Φ:=(fun ξ:Nat=>(ξ≤(C3 38 (B0 s)).2.length))) (μ:=(fun ξ:Nat=>(C3 38 (B0 s)).2.length - ξ)) (s0:=(0)) [0,1,14,15,16] kr rfl (Nat.zero_le _) ?_)))))
 rintro k hkl
 refine A1 (G_p [0] [0,1,14,15,16,17] (k:=A0 (A1 (B2 (b:=decide (((k:Nat):Int)<(((C3 38 (B0 s)).2.length:Nat):Int))) kr (fun hc3=>?_) (fun hc3=>?_)))))
 ·
  have hk:k<(C3 38 (B0 s)).2.length:=by have:=hc3; simp only [decide_eq_true_eq] at this; omega
  refine A8 (A0 (A1 (B4 (A1 (A2 (E6 ((C3 38 (B0 s)).2.length) ((k:Nat):Int) 1 hrs (by exact ⟨by omega,by omega,by intro h; have:=congrArg List.length h; rw [strV_len] at this; simp only [List.length_nil] at this; omega⟩) ?_))))))
  obtain ⟨p,hp⟩:∃ p,p=(C3 38 (B0 s)).2[k]'hk:=⟨_,rfl⟩
  have hpl:p.length≤(B0 s).length:=hp1 p (by rw [hp]; exact List.getElem_mem hk)
  have hpz:=D5 p
  refine H6 (k * 1) (.string (bk p)) hrs (D7 0 rfl) (fun _=>(by rw [Nat.mul_one,hp]; exact strV_at hk)) (A7 [0] [0,1,6,14,15,16] (k:=A0 (A1 ?_)))
  rcases hI:idxL [59] p with _ | i
  ·
   have hbp:badX ((C3 38 (B0 s)).2[k]'hk)=true:=by rw [← hp]; exact bad_none hI
   refine A2 (A3 (j:=1) [0] (k:=K9 Tryz.func168 (idx_ (bk p) 59 _ _) (E5 21 (x:=.int .i64 (bIdx (bk p) 59)) (y:=.int .i64 (-1)) (by rw [bidx_none hI]) (A7 [0] [0,1,6,7,14,15,16] (k:=A0 (A1 (G_pD [0,0,0,1,1,1,1,1,1,1,1,1,1,1,1,2] [0,1,14,15,16,37] kr kr rfl kr (A0 ?_))))))))
   refine C4 kr (A2 (A3 (j:=1) [0] (k:=M9 0 [2] (D9 Tryz.func64 (L9 r (pcX (C3 38 (B0 s)).2 k q) 70 _ _) ?_))))
   rintro _ _ rfl
   refine A7 [] [0,1,14,15,16] (k:=B7 (A0 (A2 (A3 (j:=1) [0] (k:=D1 40 (((k:Nat):Int)+1) (by omega) (by omega) kr (B1 (E':=[⟨0,[],pt r⟩,⟨1,[],.string (bk (B0 s))⟩,⟨14,[],.slice sa ((C3 38 (B0 s)).2.length) ((C3 38 (B0 s)).2.length)⟩,⟨15,[],.int .i64 (((C3 38 (B0 s)).2.length:Nat):Int)⟩,⟨16,[],.int .i64 (((k:Nat):Int)+1)⟩]) [0] [0,1,14,15,16] (k:=F9 0 [1,1,0] (X0 (H':=([(sb,.cells (strV ((C3 38 (B0 s)).1::(C3 38 (B0 s)).2)).toArray 9 (0,0))]::[(b1,.cells #[.string (mB #[13,10]),.string (mB #[10]),.string (mB #[13]),.string (mB #[10])] 9 (0,0))]::[(r,.cells #[.string (bk (E7 70 (pcX (C3 38 (B0 s)).2 k q)).1),.int .i64 ((E7 70 (pcX (C3 38 (B0 s)).2 k q)).2)] 97 (0,0))]::H)) kr ?_))))))))
   refine X0 (H':=([(sb,.cells (strV ((C3 38 (B0 s)).1::(C3 38 (B0 s)).2)).toArray 9 (0,0))]::[(b1,.cells #[.string (mB #[13,10]),.string (mB #[10]),.string (mB #[13]),.string (mB #[10])] 9 (0,0))]::[(r,.cells #[.string (bk (pcX (C3 38 (B0 s)).2 (k+1) q).1),.int .i64 ((pcX (C3 38 (B0 s)).2 (k+1) q).2)] 97 (0,0))]::H)) (by rw [pcX_bad hk hbp]) (D2 (s':=(k+1)) [0,1,14,15,16] kr kr (by omega) (by omega))
  ·
   obtain ⟨_,_,hip⟩:=X9 hI
   refine A2 (A3 (j:=1) [0] (k:=K9 Tryz.func168 (idx_ (bk p) 59 _ _) (E5 21 (x:=.int .i64 (bIdx (bk p) 59)) (y:=.int .i64 ((i:Nat):Int)) (by rw [bidx_some hI]) (A7 [0] [0,1,6,7,14,15,16] (k:=A0 (A1 (I1 (k:=A3 (j:=2) [0,0] (k:=?_)))))))))
   refine E5 23 (x:=.bool (decide (((i:Nat):Int)<0))) (y:=.bool false) (by rw [show decide (((i:Nat):Int)<0)=false from decide_eq_false (by omega)]) ?_
   have hw5:IntKind.wrap .i64 (((i:Nat):Int)+1)=((i:Nat):Int)+1:=w64 (by omega) (by omega)
   refine A3 (j:=6) [0,0,0,0] (k:=T6 27 [(24,false)] (x:=.int .i64 (IntKind.wrap .i64 (((i:Nat):Int)+1))) (y:=.int .i64 (((i:Nat):Int)+1)) (by simp only [hw5]) (GL_sliceS (ch:=[(24,false)]) (s:=(bk p)) (vl:=none) (vh:=(some (.int .i64 (((i:Nat):Int)+1)))) (l:=0) (h:=((i:Nat):Int)+1) (hb:=(fun hc=>by first | exact ⟨by omega,by omega,by omega⟩ | exact ⟨by omega,by rw [D5]; omega,by rw [D5]; omega⟩ | (show 1+(bk (p.take (i+1))).size≤_; rw [D5,List.length_take]; omega))) (k:=T6 28 [(24,false)] (x:=.string ((bk p).extract 0 (Int.toNat (((i:Nat):Int)+1)))) (y:=.string (bk (p.take (i+1)))) (by rw [show Int.toNat (((i:Nat):Int)+1)=i+1 by omega,ext_bkT]) (GL_concat (i:=7) (ch:=[(24,false)]) (s:=(mB #[38])) (u:=(bk (p.take (i+1)))) rfl rfl kr kr kr kr kr (fun hc=>by first | exact ⟨by omega,by omega,by omega⟩ | exact ⟨by omega,by rw [D5]; omega,by rw [D5]; omega⟩ | (show 1+(bk (p.take (i+1))).size≤_; rw [D5,List.length_take]; omega)) (T6 29 [(24,false)] (x:=.string ((mB #[38])++(bk (p.take (i+1))))) (y:=.string (bk (38::p.take (i+1)))) (by rw [cat38]) (P6 [(24,false)] Tryz.func169 (fun hc=>unhtml_ (bk (38::p.take (i+1))) (by rw [D5]; first | omega | (rw [List.length_cons,List.length_take]; omega) | (have:=un_len (B0 s); omega)) _ _ hW) ?_))))))
   have hw6:IntKind.wrap .i64 (((i:Nat):Int)+1)=((i:Nat):Int)+1:=w64 (by omega) (by omega)
   refine A3 (j:=12) [0,0,0] (k:=T6 33 [(24,false)] (x:=.int .i64 (IntKind.wrap .i64 (((i:Nat):Int)+1))) (y:=.int .i64 (((i:Nat):Int)+1)) (by simp only [hw6]) (GL_sliceS (ch:=[(24,false)]) (s:=(bk p)) (vl:=none) (vh:=(some (.int .i64 (((i:Nat):Int)+1)))) (l:=0) (h:=((i:Nat):Int)+1) (hb:=(fun hc=>by first | exact ⟨by omega,by omega,by omega⟩ | exact ⟨by omega,by rw [D5]; omega,by rw [D5]; omega⟩ | (show 1+(bk (p.take (i+1))).size≤_; rw [D5,List.length_take]; omega))) (k:=T6 34 [(24,false)] (x:=.string ((bk p).extract 0 (Int.toNat (((i:Nat):Int)+1)))) (y:=.string (bk (p.take (i+1)))) (by rw [show Int.toNat (((i:Nat):Int)+1)=i+1 by omega,ext_bkT]) (GL_concat (i:=13) (ch:=[(24,false)]) (s:=(mB #[38])) (u:=(bk (p.take (i+1)))) rfl rfl kr kr kr kr kr (fun hc=>by first | exact ⟨by omega,by omega,by omega⟩ | exact ⟨by omega,by rw [D5]; omega,by rw [D5]; omega⟩ | (show 1+(bk (p.take (i+1))).size≤_; rw [D5,List.length_take]; omega)) (T6 35 [(24,false)] (x:=.string ((mB #[38])++(bk (p.take (i+1))))) (y:=.string (bk (38::p.take (i+1)))) (by rw [cat38]) (A7 [0,3] [0,1,14,15,16,37] (k:=A0 (B2 (b:=(bk (unL (38::p.take (i+1)))).toList==(bk (38::p.take (i+1))).toList) kr (fun hc7=>?_) (fun hc7=>?_)))))))))
   ·
    have hbp:badX ((C3 38 (B0 s)).2[k]'hk)=true:=by rw [← hp,bad_some hI]; exact beq_iff_eq.2 ((eqB _ _).1 hc7)
    refine A2 (A3 (j:=1) [0] (k:=M9 0 [2] (D9 Tryz.func64 (L9 r (pcX (C3 38 (B0 s)).2 k q) 70 _ _) ?_)))
    rintro _ _ rfl
    refine A7 [] [0,1,14,15,16] (k:=B7 (A0 (A2 (A3 (j:=1) [0] (k:=D1 40 (((k:Nat):Int)+1) (by omega) (by omega) kr (B1 (E':=[⟨0,[],pt r⟩,⟨1,[],.string (bk (B0 s))⟩,⟨14,[],.slice sa ((C3 38 (B0 s)).2.length) ((C3 38 (B0 s)).2.length)⟩,⟨15,[],.int .i64 (((C3 38 (B0 s)).2.length:Nat):Int)⟩,⟨16,[],.int .i64 (((k:Nat):Int)+1)⟩]) [0] [0,1,14,15,16] (k:=F9 0 [1,1,0] (X0 (H':=([(sb,.cells (strV ((C3 38 (B0 s)).1::(C3 38 (B0 s)).2)).toArray 9 (0,0))]::[(b1,.cells #[.string (mB #[13,10]),.string (mB #[10]),.string (mB #[13]),.string (mB #[10])] 9 (0,0))]::[(r,.cells #[.string (bk (E7 70 (pcX (C3 38 (B0 s)).2 k q)).1),.int .i64 ((E7 70 (pcX (C3 38 (B0 s)).2 k q)).2)] 97 (0,0))]::H)) kr ?_))))))))
    refine X0 (H':=([(sb,.cells (strV ((C3 38 (B0 s)).1::(C3 38 (B0 s)).2)).toArray 9 (0,0))]::[(b1,.cells #[.string (mB #[13,10]),.string (mB #[10]),.string (mB #[13]),.string (mB #[10])] 9 (0,0))]::[(r,.cells #[.string (bk (pcX (C3 38 (B0 s)).2 (k+1) q).1),.int .i64 ((pcX (C3 38 (B0 s)).2 (k+1) q).2)] 97 (0,0))]::H)) (by rw [pcX_bad hk hbp]) (D2 (s':=(k+1)) [0,1,14,15,16] kr kr (by omega) (by omega))
   ·
    have hbp:badX ((C3 38 (B0 s)).2[k]'hk)=false:=by rw [← hp,bad_some hI]; exact beq_eq_false_iff_ne.2 ((eqBf _ _).1 hc7)
    refine A8 (B7 (A0 (A2 (A3 (j:=1) [0] (k:=D1 40 (((k:Nat):Int)+1) (by omega) (by omega) kr (A7 [0] [0,1,14,15,16] (k:=X0 (H':=([(sb,.cells (strV ((C3 38 (B0 s)).1::(C3 38 (B0 s)).2)).toArray 9 (0,0))]::[(b1,.cells #[.string (mB #[13,10]),.string (mB #[10]),.string (mB #[13]),.string (mB #[10])] 9 (0,0))]::[(r,.cells #[.string (bk (pcX (C3 38 (B0 s)).2 (k+1) q).1),.int .i64 ((pcX (C3 38 (B0 s)).2 (k+1) q).2)] 97 (0,0))]::H)) (by rw [pcX_good hk hbp]) (D2 (s':=(k+1)) [0,1,14,15,16] kr rfl (by omega) (by omega)))))))))
 ·
  have hk:k=(C3 38 (B0 s)).2.length:=by have:=hc3; simp only [decide_eq_false_iff_not] at this; omega
  refine E8 (A6 (A6 (B5 (A0 (A1 (A2 (A3 (j:=1) [0] (k:=K9 Tryz.func169 (unhtml_ (bk (B0 s)) (by rw [D5]; first | omega | (rw [List.length_cons,List.length_take]; omega) | (have:=un_len (B0 s); omega)) _ _ hW) ?_))))))))
  refine A7 [0] [0,1] (k:=A0 (A1 (A1 (A2 (A3 (j:=1) [0] (k:=K9 Tryz.func60 (plain_ (bk (unL (B0 s))) (by rw [D5]; first | omega | (rw [List.length_cons,List.length_take]; omega) | (have:=un_len (B0 s); omega)) _ _) (A7 [0,0] [0,1,46] (k:=A0 ?_))))))))
  refine B2 (b:=!((bk (G4 (unL (B0 s)))).toList==(bk (unL (B0 s))).toList)) kr (fun hc10=>?_) (fun hc10=>?_)
  ·
   have hp9:G4 (unL (B0 s))≠unL (B0 s):=(eqBf _ _).1 (by simpa only [Bool.not_eq_true'] using hc10)
   refine A2 (A3 (j:=1) [0] (k:=M9 0 [2] (D9 Tryz.func64 (L9 r (pcX (C3 38 (B0 s)).2 k q) 70 _ _) ?_)))
   rintro _ _ rfl
   refine B1 (E':=[⟨1,[],.string (bk (unL (B0 s)))⟩]) [] [1] (k:=A0 (A1 (C1 (E':=[⟨4,[],.string (bk (unL (B0 s)))⟩]) [0,0] [4] (k:=A0 (B9 (F9 2 [0] (B6 [.tmp 4] [.string (bk (unL (B0 s)))] (k:=?_))))))))
   exact ⟨by rw [refs_yes hp9]; try rfl,by rw [refs_yes hp9,← hk]; try rfl⟩
  ·
   have hp9:G4 (unL (B0 s))=unL (B0 s):=(eqB _ _).1 (by simpa only [Bool.not_eq_false'] using hc10)
   refine A8 (A0 (A1 (C1 (E':=[⟨4,[],.string (bk (unL (B0 s)))⟩]) [0,0] [4] (k:=A0 (B9 (F9 2 [2] (B6 [.tmp 4] [.string (bk (unL (B0 s)))] (k:=?_))))))))
   exact ⟨by rw [refs_no hp9]; try rfl,by rw [refs_no hp9,← hk]; try rfl⟩
end Go.Proofs.YtppgfiklmfoaeaaGreatDoor
namespace Go.Xml
open Go.Sw Go.Esc Go.Json
def xaC (a:XA):List Value:=[.string (bk a.space),.string (bk a.name),.string (bk a.value)]
def xaV:List XA→List Value
  | []=>[]
  | a::l=>xaC a++xaV l
theorem xaV_app:∀ (a b:List XA),xaV (a++b)=xaV a++xaV b
  | [],_=>rfl
  | x::a,b=>by rw [List.cons_append,xaV,xaV_app a b,xaV,List.append_assoc]
theorem xaV_len:∀ a:List XA,(xaV a).length=a.length * 3
  | []=>rfl
  | x::a=>by rw [xaV,List.length_append,xaV_len a,List.length_cons]; show 3+_=_; omega
theorem xaV_at:∀ {a:List XA} {i:Nat} (h:i<a.length),((xaV a).drop (i * 3)).take 3=xaC a[i]
  | [],_,h=>absurd h (Nat.not_lt_zero _)
  | x::a,0,_=>rfl
  | x::a,i+1,h=>by
    have e:(xaV (x::a)).drop ((i+1) * 3)=(xaV a).drop (i * 3):=by
      rw [xaV,List.drop_append,List.drop_eq_nil_of_le (by show 3≤_; omega),List.nil_append]; show List.drop ((i+1) * 3 - 3) _=_; congr 1; omega
    rw [e]; exact xaV_at (a:=a) (by simpa using h)
def atC (a:AT):List Value:=[.string (bk a.q.pre),.string (bk a.q.name),.string (bk a.value),.bool a.q.has]
def atV:List AT→List Value
  | []=>[]
  | a::l=>atC a++atV l
theorem atV_app:∀ (a b:List AT),atV (a++b)=atV a++atV b
  | [],_=>rfl
  | x::a,b=>by rw [List.cons_append,atV,atV_app a b,atV,List.append_assoc]
theorem atV_len:∀ a:List AT,(atV a).length=a.length * 4
  | []=>rfl
  | x::a=>by rw [atV,List.length_append,atV_len a,List.length_cons]; show 4+_=_; omega
theorem atV_at:∀ {a:List AT} {i:Nat} (h:i<a.length),((atV a).drop (i * 4)).take 4=atC a[i]
  | [],_,h=>absurd h (Nat.not_lt_zero _)
  | x::a,0,_=>rfl
  | x::a,i+1,h=>by
    have e:(atV (x::a)).drop ((i+1) * 4)=(atV a).drop (i * 4):=by
      rw [atV,List.drop_append,List.drop_eq_nil_of_le (by show 4≤_; omega),List.nil_append]; show List.drop ((i+1) * 4 - 4) _=_; congr 1; omega
    rw [e]; exact atV_at (a:=a) (by simpa using h)
mutual
inductive XRd (S:Nat→Obj→Prop):XN→List Value→Prop
  | mk {sp nm t:List UInt8} {ats:List XA} {l:List XN} {an al:Option Addr} {cn cl:Nat} {cs:List Value}:ats.length≤cn→Rd S an (xaV ats)→Rd S al cs→XRdL S l cs→XRd S (.mk sp nm ats l t) [.string (bk sp),.string (bk nm),.slice an ats.length cn,.slice al l.length cl,.string (bk t)]
inductive XRdL (S:Nat→Obj→Prop):List XN→List Value→Prop
  | nil:XRdL S [] []
  | cons {v:XN} {l:List XN} {c cs:List Value}:XRd S v c→XRdL S l cs→XRdL S (v::l) (c++cs)
end
mutual
/-- owned: one group for all of it -/
inductive XRep (ta tn:TypeId):XN→List Value→Grp→Prop
  | mk {sp nm t:List UInt8} {ats:List XA} {l:List XN} {an al:Option Addr} {cn cl:Nat} {cs:List Value} {ga gl gs:Grp}:Own ta 3 (.slice an ats.length cn) ga ats.length (xaV ats)→Own tn 5 (.slice al l.length cl) gl l.length cs→XRepL ta tn l cs gs→XRep ta tn (.mk sp nm ats l t) [.string (bk sp),.string (bk nm),.slice an ats.length cn,.slice al l.length cl,.string (bk t)] (ga++(gl++gs))
inductive XRepL (ta tn:TypeId):List XN→List Value→Grp→Prop
  | nil:XRepL ta tn [] [] []
  | cons {v:XN} {l:List XN} {c cs:List Value} {g gs:Grp}:XRep ta tn v c g→XRepL ta tn l cs gs→XRepL ta tn (v::l) (c++cs) (g++gs)
end
theorem XRd.len {S:Nat→Obj→Prop} {v:XN} {c:List Value} (h:XRd S v c):c.length=5:=by cases h; rfl
theorem XRdL.len {S:Nat→Obj→Prop}:∀ {l:List XN} {cs:List Value},XRdL S l cs→cs.length=l.length * 5
  | [],_,h=>by cases h; rfl
  | v::l,_,h=>by
    cases h with
    | cons h1 h2=>rw [List.length_append,h1.len,h2.len,List.length_cons]; omega
theorem XRdL.at {S:Nat→Obj→Prop}:∀ {l:List XN} {cs:List Value} {i:Nat} (hi:i<l.length),XRdL S l cs→XRd S l[i] ((cs.drop (i * 5)).take 5)
  | [],_,_,hi,_=>absurd hi (Nat.not_lt_zero _)
  | v::l,_,0,_,h=>by
    cases h with
    | cons h1 h2 =>
      rw [Nat.zero_mul,List.drop_zero,List.take_append_of_le_length (by rw [h1.len]; exact Nat.le_refl _),List.take_of_length_le (by rw [h1.len]; exact Nat.le_refl _)]; exact h1
  | v::l,_,i+1,hi,h=>by
    cases h with
    | cons h1 h2 =>
      rename_i c cs
      have e:(c++cs).drop ((i+1) * 5)=cs.drop (i * 5):=by
        rw [List.drop_append,List.drop_eq_nil_of_le (by rw [h1.len]; omega),h1.len,List.nil_append,show (i+1) * 5 - 5=i * 5 by omega]
      rw [e]; exact XRdL.at (l:=l) (by simpa using hi) h2
theorem XRep.len {ta tn:TypeId} {v:XN} {c:List Value} {g:Grp} (h:XRep ta tn v c g):c.length=5:=by cases h; rfl
theorem XRepL.len {ta tn:TypeId}:∀ {l:List XN} {cs:List Value} {g:Grp},XRepL ta tn l cs g→cs.length=l.length * 5
  | [],_,_,h=>by cases h; rfl
  | v::l,_,_,h=>by
    cases h with
    | cons h1 h2=>rw [List.length_append,h1.len,XRepL.len h2,List.length_cons]; omega
theorem XRep.nul {ta tn:TypeId}:XRep ta tn T9 [.string (bk []),.string (bk []),.slice none 0 0,.slice none 0 0,.string (bk [])] []:=.mk (ats:=[]) (l:=[]) Own.nil Own.nil .nil
theorem XRep.text {ta tn:TypeId} (t:List UInt8):XRep ta tn (.mk [] [] [] [] t) [.string (bk []),.string (bk []),.slice none 0 0,.slice none 0 0,.string (bk t)] []:=.mk (ats:=[]) (l:=[]) Own.nil Own.nil .nil
theorem XRepL.snoc {ta tn:TypeId}:∀ {l:List XN} {cs:List Value} {gs:Grp} {v:XN} {c:List Value} {g:Grp},XRepL ta tn l cs gs→XRep ta tn v c g→XRepL ta tn (l++[v]) (cs++c) (gs++g)
  | [],_,_,v,c,g,h,hv=>by
    cases h
    have:=XRepL.cons hv .nil
    rw [List.append_nil,List.append_nil] at this
    exact this
  | x::l,_,_,v,c,g,h,hv=>by
    cases h with
    | cons h1 h2 =>
      rw [List.cons_append,List.append_assoc,List.append_assoc]
      exact .cons h1 (XRepL.snoc h2 hv)
theorem XRepL.last {ta tn:TypeId}:∀ {l:List XN} {cs:List Value} {gs:Grp},XRepL ta tn l cs gs→l≠[]→∃ l0 v cs0 c g0 g,l=l0++[v]∧cs=cs0++c∧gs=g0++g∧XRepL ta tn l0 cs0 g0∧XRep ta tn v c g
  | [],_,_,_,h=>absurd rfl h
  | [x],_,_,h,_=>by
    cases h with
    | cons h1 h2=>cases h2; exact ⟨[],x,[],_,[],_,rfl,by simp,by simp,.nil,h1⟩
  | x::y::l,_,_,h,_=>by
    cases h with
    | cons h1 h2 =>
      obtain ⟨l0,v,cs0,c,g0,g,e1,e2,e3,h3,h4⟩:=XRepL.last h2 (by simp)
      exact ⟨x::l0,v,_++cs0,c,_++g0,g,by rw [e1]; rfl,by rw [e2,List.append_assoc],by rw [e3,List.append_assoc],.cons h1 h3,h4⟩
mutual
theorem XRep.rd {ta tn:TypeId} {S:Nat→Obj→Prop}:∀ {v:XN} {c:List Value} {g:Grp},XRep ta tn v c g→(∀ b o,inG g b o→S b o)→XRd S v c
  | .mk _ _ _ _ _,_,_,.mk h1 h2 h3,hs=>.mk (own_cap h1) (X7 (I4 h1) fun b o h=>hs b o (List.mem_append_left _ h)) (X7 (I4 h2) fun b o h=>hs b o (List.mem_append_right _ (List.mem_append_left _ h))) (XRepL.rd h3 fun b o h=>hs b o (List.mem_append_right _ (List.mem_append_right _ h)))
theorem XRepL.rd {ta tn:TypeId} {S:Nat→Obj→Prop}:∀ {l:List XN} {cs:List Value} {g:Grp},XRepL ta tn l cs g→(∀ b o,inG g b o→S b o)→XRdL S l cs
  | [],_,_,.nil,_=>.nil
  | _::_,_,_,.cons h1 h2,hs=>.cons (XRep.rd h1 fun b o h=>hs b o (List.mem_append_left _ h)) (XRepL.rd h2 fun b o h=>hs b o (List.mem_append_right _ h))
end
theorem XRep.shape {ta tn:TypeId} {v:XN} {c:List Value} {g:Grp} (h:XRep ta tn v c g):∃ an cn al cl,c=[.string (bk v.space),.string (bk v.name),.slice an v.attrs.length cn,.slice al v.kids.length cl,.string (bk v.text)]:=by
  cases h; exact ⟨_,_,_,_,rfl⟩
theorem XRep.cells5 {ta tn:TypeId} {v:XN} {c:List Value} {g:Grp} (h:XRep ta tn v c g):∃ e0 e1 e2 e3 e4,c=[e0,e1,e2,e3,e4]∧([e0,e1,e2,e3,e4].all Value.oneCell')=true:=by
  cases h; exact ⟨_,_,_,_,_,rfl,rfl⟩
end Go.Xml
namespace Go.Xml
open Go.Esc Go.Json Go.Sw
theorem quote_1 {q:XS} (h:[34].isPrefixOf q.1=true):E2 q=G6 [34] (q.1.drop 1,q.2):=by unfold E2; rw [P1 h]; rfl
theorem quote_2 {q:XS} (h1:¬ [34].isPrefixOf q.1=true) (h:[39].isPrefixOf q.1=true):E2 q=G6 [39] (q.1.drop 1,q.2):=by unfold E2; rw [L8 h1,P1 h]; rfl
theorem quote_3 {q:XS} (h1:¬ [34].isPrefixOf q.1=true) (h:¬ [39].isPrefixOf q.1=true):E2 q=([],E7 70 q):=by unfold E2; rw [L8 h1,L8 h]; rfl
def eqX (q:XS):XS:=(J5 (C9 [61] (J5 (A4 q).2).2)).2
theorem eqX_le (q:XS):(eqX q).1.length≤q.1.length:=by
  unfold eqX
  have h1:=qual_le q
  have h2:=skip_le (A4 q).2
  have h3:=must_le [61] (J5 (A4 q).2).2
  have h4:=skip_le (C9 [61] (J5 (A4 q).2).2)
  omega
theorem until_v (w:List UInt8) (q:XS):(G6 w q).1.length≤q.1.length:=by
  unfold G6
  cases h:idxL w q.1 with
  | none=>exact Nat.zero_le _
  | some i=>show (q.1.take i).length≤_; rw [List.length_take]; omega
theorem quote_le (q:XS):(E2 q).1.length≤q.1.length∧(E2 q).2.1.length≤q.1.length:=by
  unfold E2
  split
  · have h1:=take_le [34] q
    have h2:=until_v [34] (F7 [34] q).2
    have h3:=Q1 [34] (F7 [34] q).2
    exact ⟨by omega,by omega⟩
  · split
    · have h1:=take_le [39] q
      have h2:=until_v [39] (F7 [39] q).2
      have h3:=Q1 [39] (F7 [39] q).2
      exact ⟨by omega,by omega⟩
    · exact ⟨Nat.zero_le _,Nat.le_refl _⟩
theorem attr_yes {q:XS} (h:(idxL [60] (E2 (eqX q)).1).isSome=true):V8 q=(⟨(A4 q).1,(M2 (E2 (eqX q)).1 (E7 70 (E2 (eqX q)).2)).1⟩,(M2 (E2 (eqX q)).1 (E7 70 (E2 (eqX q)).2)).2):=by
  rw [idx_mem] at h
  have h:=of_decide_eq_true h
  unfold V8; dsimp only
  rw [show (E2 (J5 (C9 [61] (J5 (A4 q).2).2)).2)=E2 (eqX q) from rfl,if_pos h]
theorem attr_no {q:XS} (h:(idxL [60] (E2 (eqX q)).1).isSome=false):V8 q=(⟨(A4 q).1,(M2 (E2 (eqX q)).1 (E2 (eqX q)).2).1⟩,(M2 (E2 (eqX q)).1 (E2 (eqX q)).2).2):=by
  rw [idx_mem] at h
  have h:=of_decide_eq_false h
  unfold V8; dsimp only
  rw [show (E2 (J5 (C9 [61] (J5 (A4 q).2).2)).2)=E2 (eqX q) from rfl,if_neg h]
theorem attrX_le (q:XS):(V8 q).2.1.length≤q.1.length:=by
  have h1:=eqX_le q
  have h2:=(quote_le (eqX q)).2
  cases h:(idxL [60] (E2 (eqX q)).1).isSome with
  | true=>rw [attr_yes h]; dsimp only; rw [refs_len,V7]; omega
  | false=>rw [attr_no h]; dsimp only; rw [refs_len]; omega
theorem attrs_stop {n:Nat} {acc:List AT} {q:XS} (h0:q.2=0) (h:¬ (blk q.1).length<q.1.length∨[62].isPrefixOf (blk q.1)=true∨[47,62].isPrefixOf (blk q.1)=true):E4 (n+1) acc q=(acc,(blk q.1,q.2)):=by
  rw [E4,if_neg (fun hn=>hn h0)]
  have hs:J5 q=(decide ((blk q.1).length<q.1.length),(blk q.1,q.2)):=rfl
  rw [hs]
  dsimp only
  rw [if_neg]
  rintro ⟨h1,h2,h3⟩
  rcases h with h | h | h
  · exact h (of_decide_eq_true h1)
  · exact h2 h
  · exact h3 h
theorem attrs_go {n:Nat} {acc:List AT} {q:XS} (h0:q.2=0) (h1:(blk q.1).length<q.1.length) (h2:¬ [62].isPrefixOf (blk q.1)=true) (h3:¬ [47,62].isPrefixOf (blk q.1)=true):E4 (n+1) acc q=E4 n (acc++[(V8 (blk q.1,q.2)).1]) (V8 (blk q.1,q.2)).2:=by
  rw [E4,if_neg (fun hn=>hn h0)]
  have hs:J5 q=(decide ((blk q.1).length<q.1.length),(blk q.1,q.2)):=rfl
  rw [hs]
  dsimp only
  rw [if_pos ⟨decide_eq_true h1,h2,h3⟩]
theorem mgetX_put {m:SM} {c:Nat} {k p:ByteArray} {v:Value}:mget (I5 m c k v) p=if p==k then some v else mget m p:=by
  unfold mget
  have gen:∀ (m:SM) (i:Nat),(mfind p (I5 m c k v) i).map (·.2)=if p==k then some v else (mfind p m i).map (·.2):=by
    intro m
    induction m with
    | nil =>
      intro i
      show (if p==k then some (i,v) else none).map (·.2)=_
      cases p==k <;> rfl
    | cons e m ih =>
      intro i
      by_cases hk:(k==e.1)=true
      · rw [I5,if_pos hk]
        have he:=baEq.1 hk
        show (if p==k then some (i,v) else mfind p m (i+1)).map (·.2)=if p==k then some v else (if p==e.1 then some (i,e.2.1) else mfind p m (i+1)).map (·.2)
        rw [← he]
        cases p==k <;> rfl
      · rw [I5,if_neg hk]
        show (if p==e.1 then some (i,e.2.1) else mfind p (I5 m c k v) (i+1)).map (·.2)=if p==k then some v else (if p==e.1 then some (i,e.2.1) else mfind p m (i+1)).map (·.2)
        by_cases hp:(p==e.1)=true
        · rw [if_pos hp,if_pos hp,if_neg]
          intro hpk
          exact hk (baEq.2 ((baEq.1 hpk).symm.trans (baEq.1 hp)))
        · rw [if_neg hp,if_neg hp]; exact ih (i+1)
  exact gen m 0
theorem bk_inj {a b:List UInt8}:(bk a==bk b)=true ↔ a=b:=by
  rw [baEq]
  constructor
  · intro h
    have:=congrArg (fun x:ByteArray=>x.data.toList) h
    exact this
  · intro h; rw [h]
def SpR (m:SM) (sp:SPX):Prop:=∀ p,mget m (bk p)=(lookX sp p).map fun v=>.string (bk v)
theorem SpR.put {m:SM} {sp:SPX} (h:SpR m sp) (c:Nat) (p v:List UInt8):SpR (I5 m c (bk p) (.string (bk v))) ((p,v)::sp):=by
  intro x
  rw [mgetX_put]
  unfold lookX
  rw [List.find?_cons]
  by_cases hx:x=p
  · subst hx
    rw [if_pos (bk_inj.2 rfl)]
    simp
  · rw [if_neg (fun hh=>hx (bk_inj.1 hh)),show ((p,v).1==x)=false from beq_eq_false_iff_ne.2 (fun e=>hx e.symm)]
    exact h x
def SeR (m:SM) (seen:List (List UInt8)):Prop:=∀ p,mget m (bk p)=if p∈seen then some (.bool true) else none
theorem SeR.nil:SeR [] []:=fun p=>by rw [if_neg List.not_mem_nil]; rfl
theorem SeR.put {m:SM} {seen:List (List UInt8)} (h:SeR m seen) (c:Nat) (p:List UInt8):SeR (I5 m c (bk p) (.bool true)) (p::seen):=by
  intro x
  rw [mgetX_put]
  by_cases hx:x=p
  · subst hx; rw [if_pos (bk_inj.2 rfl),if_pos List.mem_cons_self]
  · rw [if_neg (fun hh=>hx (bk_inj.1 hh)),h x]
    by_cases hm:x∈seen
    · rw [if_pos hm,if_pos (List.mem_cons_of_mem _ hm)]
    · rw [if_neg hm,if_neg (fun hh=>(List.mem_cons.1 hh).elim hx hm)]
theorem sp_step_no {a:AT} {r:List AT} {seen:List (List UInt8)} {sp:SPX} {q:XS} (h:O9 a=none):L2 (a::r) seen sp q=L2 r seen sp q:=by rw [L2,h]
theorem sp_step {a:AT} {r:List AT} {seen:List (List UInt8)} {sp:SPX} {q:XS} {p:List UInt8} (h:O9 a=some p):L2 (a::r) seen sp q=L2 r (p::seen) ((p,a.value)::sp) (if p∈seen∨a.q.has=true∧a.value=[] then E7 70 q else q):=by rw [L2,h]
theorem decl_own {a:AT} (h1:a.q.has=false) (h2:a.q.name=V4):O9 a=some []:=if_pos ⟨h1,h2⟩
theorem decl_pre {a:AT} (h1:a.q.has=true) (h2:a.q.pre=V4):O9 a=some a.q.name:=by
  unfold O9; rw [if_neg (fun h=>by rw [h1] at h; exact Bool.noConfusion h.1),if_pos ⟨h1,h2⟩]
theorem decl_none {a:AT} (h1:¬ (a.q.has=false∧a.q.name=V4)) (h2:¬ (a.q.has=true∧a.q.pre=V4)):O9 a=none:=by
  unfold O9; rw [if_neg h1,if_neg h2]
theorem marks_skip {a:AT} {r:List AT} {out:List XA} {sp:SPX} {q:XS} (h:(O9 a).isSome=true):M5 (a::r) out sp q=M5 r out sp q:=by rw [M5,if_pos h]
theorem marks_go {a:AT} {r:List AT} {out:List XA} {sp:SPX} {q:XS} (h:(O9 a).isSome=false):M5 (a::r) out sp q=M5 r (out++[⟨(if a.q.has then I9 a.q.pre true sp q else ([],q)).1,a.q.name,a.value⟩]) sp (if out.any (fun y=>y.space==(if a.q.has then I9 a.q.pre true sp q else ([],q)).1&&y.name==a.q.name) then E7 70 (if a.q.has then I9 a.q.pre true sp q else ([],q)).2 else (if a.q.has then I9 a.q.pre true sp q else ([],q)).2):=by
  rw [M5,if_neg (by rw [h]; exact Bool.false_ne_true)]
theorem L4 {α:Type} {l:List α} {k:Nat} (h:k<l.length):l.drop k=l[k]::l.drop (k+1):=List.drop_eq_getElem_cons h
theorem space_some {p v:List UInt8} {has:Bool} {sp:SPX} {q:XS} (h:lookX sp p=some v):I9 p has sp q=(v,q):=by
  unfold I9; rw [h]; dsimp only [Option.getD]; rw [if_neg (fun hh=>by cases hh.2)]
theorem space_none {p:List UInt8} {has:Bool} {sp:SPX} {q:XS} (h:lookX sp p=none) (hh:has=true):I9 p has sp q=([],E7 70 q):=by
  unfold I9; rw [h]; dsimp only [Option.getD]; rw [if_pos ⟨hh,rfl⟩]
theorem space_own {p:List UInt8} {has:Bool} {sp:SPX} {q:XS} (h:lookX sp p=none) (hh:has=false):I9 p has sp q=([],q):=by
  unfold I9; rw [h]; dsimp only [Option.getD]; rw [if_neg (fun h1=>by rw [hh] at h1; cases h1.1)]
theorem space_le (p:List UInt8) (has:Bool) (sp:SPX) (q:XS):(I9 p has sp q).2.1=q.1:=by unfold I9; dsimp only; split; rfl; rfl
theorem sp_le:∀ (ats:List AT) (seen:List (List UInt8)) (sp:SPX) (q:XS),(L2 ats seen sp q).2.1=q.1
  | [],_,_,_=>rfl
  | a::r,seen,sp,q=>by
    rw [L2]
    cases O9 a with
    | none=>exact sp_le r _ _ _
    | some p=>dsimp only; rw [sp_le r]; split; rfl; rfl
theorem any_take {α:Type} {f:α→Bool} {l:List α} {k:Nat} (h:k<l.length):(l.take (k+1)).any f=((l.take k).any f||f l[k]):=by
  rw [List.take_succ_eq_append_getElem h,List.any_append,List.any_cons,List.any_nil,Bool.or_false]
theorem any_at {α:Type} {f:α→Bool} {l:List α} {k:Nat} (h:k<l.length) (hf:f l[k]=true):l.any f=true:=List.any_eq_true.2 ⟨_,List.getElem_mem h,hf⟩
end Go.Xml
