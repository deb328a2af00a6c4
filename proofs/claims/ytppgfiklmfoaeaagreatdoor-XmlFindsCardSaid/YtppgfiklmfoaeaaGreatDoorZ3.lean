/- The replacer of a quoted value, made and built. No condition. (and what it stands on) -/
import Derived.Test.YtppgfiklmfoaeaaGreatDoorZ2
import Derived.Lib.IndexMore
import Derived.Shelf.Strings.Cut
import Derived.Shelf.Strings.Search3
import Derived.Shelf.Strings.Split
import Derived.Shelf.Unicode.ValidAny
import Derived.Test.YtppgfiklmfoaeaaGreatDoorCards
import Derived.Test.YtppgfiklmfoaeaaGreatDoorTie
import Derived.ProofKit
import Derived.OpenShut
import Derived.LaidMore
import Derived.Lay
import Derived.SevenTiedAt
import Derived.Stop.Joined
import Derived.Stop.LaidErr
import Derived.LaidLaws
import Derived.Lib.LaidTab
import Derived.Lib.LaidU8T
import Derived.ChangeMaps5
import Derived.ChangeSlices
import Derived.Carry
import Derived.Shelf.Vars
import Derived.HandedShaped
import Derived.ChangeArms
import Derived.DataReads
import Derived.Lib.Split
namespace Go.Xml
open Go.Esc Go.Json Go.Lib
theorem lines_no {b:UInt8} (h:b≠13):∀ t,C1 (b::t)=b::C1 t:=by
  intro t
  cases t with
  | nil=>simp [C1,h]
  | cons c t =>
    rw [C1]
    · rw [if_neg h]
    · intro u e1 _; exact h e1
theorem lines_13 {t:List UInt8} (h:∀ u,t≠10::u):C1 (13::t)=10::C1 t:=by
  cases t with
  | nil=>rfl
  | cons c t =>
    rw [C1]
    · rfl
    · intro u _ e2; exact h u e2
theorem lines_keep:∀ (a t:List UInt8),(∀ b∈a,b≠13)→C1 (a++t)=a++C1 t
  | [],_,_=>rfl
  | b::a,t,h=>by rw [List.cons_append,lines_no (h b List.mem_cons_self),lines_keep a t (fun c hc=>h c (List.mem_cons_of_mem _ hc))]; rfl
theorem lines_enc:∀ (n:Nat) (ps:List Int),ps.length≤n→(∀ p∈ps,isR p∧M4 p=true)→∃ qs,(∀ q∈qs,isR q∧M4 q=true)∧C1 (J3 ps)=J3 qs∧qs.length≤ps.length
  | _,[],_,_=>⟨[],fun _ h=>absurd h List.not_mem_nil,rfl,Nat.le_refl _⟩
  | 0,p::ps,h,_=>by simp at h
  | n+1,p::ps,h,hp=>by
    have hps:=fun q hq=>hp q (List.mem_cons_of_mem p hq)
    obtain ⟨hpR,hpP⟩:=hp p List.mem_cons_self
    rw [List.length_cons] at h
    have h10:isR 10∧M4 10=true:=⟨by unfold isR; decide,by decide⟩
    by_cases h13:p=13
    · subst h13
      have e0:J3 (13::ps)=13::J3 ps:=by rw [I8,enc_one (by decide) (by decide)]; rfl
      have e1:∀ qs,J3 (10::qs)=10::J3 qs:=fun qs=>by rw [I8,enc_one (by decide) (by decide)]; rfl
      rw [e0]
      by_cases hc:∃ u,J3 ps=10::u
      · obtain ⟨u,hu⟩:=hc
        obtain ⟨qs,e2,e3⟩:=enc_tail (fun q hq=>(hps q hq).1) (by decide) hu
        rw [hu,lines_cr,e3]
        obtain ⟨rs,hr,e4,hz⟩:=lines_enc n qs (by rw [e2,List.length_cons] at h; omega) (fun q hq=>hps q (by rw [e2]; exact List.mem_cons_of_mem _ hq))
        exact ⟨10::rs,fun q hq=>by rcases List.mem_cons.1 hq with rfl | hq; exact h10; exact hr q hq,by rw [e1,e4],by rw [e2,List.length_cons,List.length_cons,List.length_cons]; omega⟩
      · rw [lines_13 (fun u e=>hc ⟨u,e⟩)]
        obtain ⟨rs,hr,e4,hz⟩:=lines_enc n ps (by omega) hps
        exact ⟨10::rs,fun q hq=>by rcases List.mem_cons.1 hq with rfl | hq; exact h10; exact hr q hq,by rw [e1,e4],by rw [List.length_cons,List.length_cons]; omega⟩
    · have hne:∀ b∈encodeRune p,b≠13:=fun b hb=>by simpa using enc_no hpR (c:=13) (by decide) h13 b hb
      obtain ⟨rs,hr,e4,hz⟩:=lines_enc n ps (by omega) hps
      exact ⟨p::rs,fun q hq=>by rcases List.mem_cons.1 hq with rfl | hq; exact ⟨hpR,hpP⟩; exact hr q hq,by rw [I8,lines_keep _ _ hne,e4,I8],by rw [List.length_cons,List.length_cons]; omega⟩
theorem Pl.lines {l:List UInt8} (h:Pl l):Pl (C1 l):=by
  obtain ⟨ps,hp,rfl⟩:=h
  obtain ⟨qs,hq,e,_⟩:=lines_enc ps.length ps (Nat.le_refl _) hp
  exact ⟨qs,hq,e⟩
theorem refs_ok {s l:List UInt8} (h:Pl s):match refsE s with | some x=>M9 s (l,0)=(x,(l,0)) | none=>(M9 s (l,0)).2.2=70:=by
  obtain ⟨qs,hq,hl⟩:=h.lines
  have hm:=(rfs_main qs.length qs (Nat.le_refl _) hq).2
  unfold refsE M9
  rw [hl,hm]
  dsimp only
  by_cases hb:(C6 38 (J3 qs)).2.any badX=true
  · rw [if_pos (.inl hb),if_pos hb]
    dsimp only
    rw [flt_0 (e:=70) (q:=(l,0)) rfl]
    split
    · rw [flt_ne (show (70:Int)≠0 by decide)]
    · rfl
  · by_cases hp:D6 (unL (J3 qs))≠unL (J3 qs)
    · rw [if_pos (.inr hp),if_neg hb,if_pos hp]; rfl
    · rw [if_neg (fun h=>h.elim hb hp),if_neg hb,if_neg hp]
theorem around_ne {n:Nat} {q:XS} (h:q.2≠0):C3 n q=q:=by
  cases n with
  | zero=>rfl
  | succ n=>unfold C3; rw [if_pos h]
theorem around_ok (n m:Nat) (l:List UInt8) (hp:Pl l) (hn:l.length<n) (hm:l.length<m):match N5 n l with | some r=>C3 m (l,0)=(r,0)∧Pl r∧r.length≤l.length | none=>(C3 m (l,0)).2=70:=by
  obtain ⟨n,rfl⟩:∃ k,n=k+1:=⟨n - 1,by omega⟩
  obtain ⟨m,rfl⟩:∃ k,m=k+1:=⟨m - 1,by omega⟩
  have hs:K6 (l,0)=(decide ((blk l).length<l.length),(blk l,0)):=rfl
  rw [C3,if_neg (by simp),hs]
  dsimp only
  by_cases hb:(blk l).length<l.length
  · rw [if_pos (decide_eq_true hb)]
    have ih:=around_ok (n+1) m (blk l) hp.blk (by omega) (by omega)
    have he:N5 (n+1) (blk l)=N5 (n+1) l:=by rw [N5,N5,blk_idem]
    rw [he] at ih
    revert ih
    cases N5 (n+1) l with
    | none=>exact id
    | some r=>exact fun ih=>⟨ih.1,ih.2.1,by have:=ih.2.2; omega⟩
  · rw [if_neg (by rw [decide_eq_false hb]; decide),blk_same hb]
    have ha:=aside_ok (l:=l)
    rw [N5,blk_same hb]
    cases hA:Q4 l with
    | none =>
      rw [hA] at ha
      dsimp only at ha ⊢
      rw [if_pos ha.1,around_ne (by rw [ha.2]; decide),ha.2]
    | some x =>
      cases x with
      | none=>rw [hA] at ha; dsimp only at ha ⊢; rw [ha]; dsimp only; rw [if_neg Bool.false_ne_true]; exact ⟨rfl,hp,Nat.le_refl _⟩
      | some r =>
        obtain ⟨h1,h2⟩:=aside_pl hp hA
        rw [hA] at ha; dsimp only at ha ⊢
        rw [ha,if_pos rfl]
        have ih:=around_ok n m r h1 (by omega) (by omega)
        revert ih
        cases N5 n r with
        | none=>exact id
        | some r=>exact fun ih=>⟨ih.1,ih.2.1,by have:=ih.2.2; omega⟩
termination_by l.length
theorem quote_ok {l:List UInt8}:match quoteE l with | some x=>E7 (l,0)=(x.1,(x.2,0)) | none=>(E7 (l,0)).2.2=70:=by
  unfold quoteE E7
  by_cases h1:[34].isPrefixOf l=true
  · rw [if_pos h1,take_yes h1,if_pos rfl]; exact until_ok
  · rw [if_neg h1,take_no h1]
    simp only [Bool.false_eq_true,if_false]
    by_cases h2:[39].isPrefixOf l=true
    · rw [if_pos h2,take_yes h2,if_pos rfl]; exact until_ok
    · rw [if_neg h2,take_no h2]
      simp only [Bool.false_eq_true,if_false]; rfl
theorem quote_ne {q:XS} (h:q.2≠0):(E7 q).2.2=q.2:=by
  have t1:=take_e [34] q
  have t2:=take_e [39] q
  unfold E7
  split
  · rw [until_ne (by rw [t1]; exact h),t1]
  · split
    · rw [until_ne (by rw [t2]; exact h),t2]
    · show (F0 70 q).2=_; rw [flt_ne h]
def valX (v:List UInt8 × XS):List UInt8 × XS:=M9 v.1 (if (60:UInt8)∈v.1 then F0 70 v.2 else v.2)
theorem val_ne {v:List UInt8 × XS} (h:v.2.2≠0):(valX v).2.2=v.2.2:=by
  unfold valX
  have:(if (60:UInt8)∈v.1 then F0 70 v.2 else v.2)=v.2:=by split; exact flt_ne h; rfl
  rw [this,refs_ne h]
theorem attrX_eq (q:XS):W6 q=(⟨(A7 q).1,(valX (E7 (K6 (D3 [61] (K6 (A7 q).2).2)).2)).1⟩,(valX (E7 (K6 (D3 [61] (K6 (A7 q).2).2)).2)).2):=rfl
theorem skip_e (q:XS):(K6 q).2.2=q.2:=rfl
theorem attr_ne {q:XS} (h:(A7 q).2.2≠0):(W6 q).2.2=(A7 q).2.2:=by
  rw [attrX_eq]
  have h1:(D3 [61] (K6 (A7 q).2).2).2=(A7 q).2.2:=must_ne h
  have h2:(E7 (K6 (D3 [61] (K6 (A7 q).2).2)).2).2.2=(A7 q).2.2:=by rw [quote_ne (by rw [skip_e,h1]; exact h),skip_e,h1]
  exact (val_ne (v:=E7 (K6 (D3 [61] (K6 (A7 q).2).2)).2) (by rw [h2]; exact h)).trans h2
theorem attr_ok {l:List UInt8} (h:Pl l):match attrE l with | some x=>W6 (l,0)=(x.1,(x.2,0)) | none=>(W6 (l,0)).2.2=70:=by
  have h1:=qual_ok (l:=l)
  unfold attrE
  cases hq:qualE l with
  | none =>
    rw [hq] at h1
    dsimp only at h1 ⊢
    rw [attr_ne (by rw [h1]; decide),h1]
  | some a =>
    obtain ⟨a,r⟩:=a
    obtain ⟨p1,p2,_,_⟩:=qual_pl h hq
    rw [hq] at h1
    dsimp only at h1 p1 p2 ⊢
    rw [attrX_eq,h1]
    have s1:(K6 (r,0)).2=(blk r,0):=rfl
    dsimp only
    rw [s1]
    have h2:=must_ok (w:=[61]) (l:=blk r)
    cases hm:mustE [61] (blk r) with
    | none =>
      rw [hm] at h2
      dsimp only at h2 ⊢
      have h3:(E7 (K6 (D3 [61] (blk r,0))).2).2.2=70:=by rw [quote_ne (by rw [skip_e,h2]; decide),skip_e,h2]
      rw [val_ne (by rw [h3]; decide),h3]
    | some r1 =>
      obtain ⟨q1,q2⟩:=must_pl p1.blk (by decide) (by decide) hm
      rw [hm] at h2
      dsimp only at h2 ⊢
      rw [h2]
      have s2:(K6 (r1,0)).2=(blk r1,0):=rfl
      rw [s2]
      have h3:=quote_ok (l:=blk r1)
      cases hv:quoteE (blk r1) with
      | none =>
        rw [hv] at h3
        dsimp only at h3 ⊢
        rw [val_ne (by rw [h3]; decide),h3]
      | some v =>
        obtain ⟨v,r2⟩:=v
        obtain ⟨v1,v2,_⟩:=quote_pl q1.blk hv
        rw [hv] at h3
        dsimp only at h3 v1 ⊢
        rw [h3]
        unfold valX
        dsimp only
        by_cases h60:(60:UInt8)∈v
        · rw [if_pos h60,if_pos h60,flt_0 rfl]
          dsimp only
          rw [refs_ne (show (70:Int)≠0 by decide)]
        · rw [if_neg h60,if_neg h60]
          have h4:=refs_ok (l:=r2) v1
          cases hr:refsE v with
          | none=>rw [hr] at h4; exact h4
          | some x=>rw [hr] at h4; dsimp only at h4 ⊢; rw [h4]
theorem attrs_ne {n:Nat} {acc:List AT} {q:XS} (h:q.2≠0):E8 n acc q=(acc,q):=by
  cases n with
  | zero=>rfl
  | succ n=>rw [E8,if_pos h]
theorem tag_ne {n:Nat} {acc:List AT} {q:XS} (h:q.2≠0):(tagX n acc q).2.2.2=q.2:=by
  unfold tagX
  rw [attrs_ne h]
  dsimp only
  have t1:=take_e [47,62] q
  split
  · exact t1
  · rw [must_ne (by rw [t1]; exact h),t1]
theorem tag_stop {m:Nat} {acc:List AT} {l r:List UInt8} (h:E8 m acc (l,0)=(acc,(r,0))):tagX m acc (l,0)=(acc,[47,62].isPrefixOf r,if [47,62].isPrefixOf r then (r.drop 2,0) else D3 [62] (r,0)):=by
  unfold tagX
  rw [h,take_0]
  by_cases h1:[47,62].isPrefixOf r=true
  · rw [if_pos h1,if_pos h1,h1]; rfl
  · rw [if_neg h1,if_neg h1,Bool.eq_false_iff.2 h1]; rfl
theorem tag_ok:∀ (n m:Nat) (acc:List AT) (l:List UInt8),Pl l→l.length<n→l.length<m→match tagE n acc l with | some x=>tagX m acc (l,0)=(x.1,x.2.1,(x.2.2,0))∧Pl x.2.2∧x.2.2.length<l.length | none=>(tagX m acc (l,0)).2.2.2=70
  | 0,_,_,_,_,h,_=>absurd h (Nat.not_lt_zero _)
  | _+1,0,_,_,_,_,h=>absurd h (Nat.not_lt_zero _)
  | n+1,m+1,acc,l,hp,hn,hm=>by
    have hs:K6 (l,0)=(decide ((blk l).length<l.length),(blk l,0)):=rfl
    have hA:E8 (m+1) acc (l,0)=if (blk l).length<l.length∧¬ [62].isPrefixOf (blk l)=true∧¬ [47,62].isPrefixOf (blk l)=true then E8 m (acc++[(W6 (blk l,0)).1]) (W6 (blk l,0)).2 else (acc,(blk l,0)):=by
      rw [E8,if_neg (by simp),hs]
      dsimp only
      by_cases hb:(blk l).length<l.length
      · simp only [hb,decide_true,true_and]
      · rw [if_neg (fun h=>hb (by simpa using h.1)),if_neg (fun h=>hb h.1)]
    rw [tagE]
    by_cases h1:[47,62].isPrefixOf (blk l)=true
    · rw [if_pos h1,tag_stop (hA.trans (if_neg fun h=>h.2.2 h1)),if_pos h1,h1]
      dsimp only
      have:=(List.isPrefixOf_iff_prefix.1 h1).length_le
      have h2:([47,62]:List UInt8).length=2:=rfl
      have h3:=X7 l
      exact ⟨rfl,hp.blk.pre h1 (by decide),by rw [List.length_drop]; omega⟩
    · rw [if_neg h1]
      by_cases h2:[62].isPrefixOf (blk l)=true
      · rw [if_pos h2,tag_stop (hA.trans (if_neg fun h=>h.2.1 h2)),if_neg h1]
        dsimp only
        have:=(List.isPrefixOf_iff_prefix.1 h2).length_le
        have h4:([62]:List UInt8).length=1:=rfl
        have h3:=X7 l
        refine ⟨?_,hp.blk.pre h2 (by decide),by rw [List.length_drop]; omega⟩
        unfold D3
        rw [if_pos h2,Bool.eq_false_iff.2 h1]; rfl
      · rw [if_neg h2]
        by_cases hb:(blk l).length<l.length
        · rw [if_pos hb]
          have hA2:=hA.trans (if_pos ⟨hb,h2,h1⟩)
          have h3:=attr_ok hp.blk
          cases hx:attrE (blk l) with
          | none =>
            rw [hx] at h3
            dsimp only at h3 ⊢
            have e:tagX (m+1) acc (l,0)=tagX m (acc++[(W6 (blk l,0)).1]) (W6 (blk l,0)).2:=by unfold tagX; rw [hA2]
            rw [e,tag_ne (by rw [h3]; decide),h3]
          | some x =>
            obtain ⟨x,r⟩:=x
            obtain ⟨p1,p2,_,_⟩:=attr_pl hp.blk hx
            rw [hx] at h3
            dsimp only at h3 p1 p2 ⊢
            have e:tagX (m+1) acc (l,0)=tagX m (acc++[x]) (r,0):=by unfold tagX; rw [hA2,h3]
            rw [e]
            have ih:=tag_ok n m (acc++[x]) r p1 (by omega) (by omega)
            revert ih
            cases tagE n (acc++[x]) r with
            | none=>exact id
            | some y=>exact fun ih=>⟨ih.1,ih.2.1,by have:=ih.2.2; omega⟩
        · rw [if_neg hb,tag_stop (hA.trans (if_neg fun h=>hb h.1)),if_neg h1]
          dsimp only
          unfold D3
          rw [if_neg h2]; rfl
theorem sp_ne:∀ {ats:List AT} {seen:List (List UInt8)} {sp:SPX} {q:XS},q.2≠0→(L7 ats seen sp q).2=q
  | [],_,_,_,_=>rfl
  | a::r,seen,sp,q,h=>by
    rw [L7]
    cases P7 a with
    | none=>exact sp_ne h
    | some p =>
      dsimp only
      have:(if p∈seen∨a.q.has=true∧a.value=[] then F0 70 q else q)=q:=by split; exact flt_ne h; rfl
      rw [this]; exact sp_ne h
theorem sp_ok:∀ (ats:List AT) (seen:List (List UInt8)) (sp:SPX) (l:List UInt8),match spE ats seen sp with | some x=>L7 ats seen sp (l,0)=(x,(l,0)) | none=>(L7 ats seen sp (l,0)).2.2=70
  | [],_,_,_=>rfl
  | a::r,seen,sp,l=>by
    rw [L7,spE]
    cases P7 a with
    | none=>exact sp_ok r seen sp l
    | some p =>
      dsimp only
      by_cases hc:p∈seen∨a.q.has=true∧a.value=[]
      · rw [if_pos hc,if_pos hc,flt_0 rfl]
        dsimp only
        rw [sp_ne (show (70:Int)≠0 by decide)]
      · rw [if_neg hc,if_neg hc]; exact sp_ok r _ _ l
theorem space_ne {p:List UInt8} {has:Bool} {sp:SPX} {q:XS} (h:q.2≠0):(J9 p has sp q).2=q:=by
  unfold J9; dsimp only; split
  · exact flt_ne h
  · rfl
theorem space_ok {p:List UInt8} {has:Bool} {sp:SPX} {l:List UInt8}:match spaceE p has sp with | some x=>J9 p has sp (l,0)=(x,(l,0)) | none=>(J9 p has sp (l,0)).2.2=70:=by
  unfold spaceE J9
  by_cases hc:has=true∧lookX sp p=none
  · rw [if_pos hc,if_pos hc]; rfl
  · rw [if_neg hc,if_neg hc]
theorem V9:∀ {ats:List AT} {out:List XA} {sp:SPX} {q:XS},q.2≠0→(N3 ats out sp q).2=q
  | [],_,_,_,_=>rfl
  | a::r,out,sp,q,h=>by
    rw [N3]
    split
    · exact V9 h
    · dsimp only
      have h1:(if a.q.has=true then J9 a.q.pre true sp q else ([],q)).2=q:=by split; exact space_ne h; rfl
      have h2:∀ b:Bool,(if b=true then F0 70 (if a.q.has=true then J9 a.q.pre true sp q else ([],q)).2 else (if a.q.has=true then J9 a.q.pre true sp q else ([],q)).2)=q:=by
        intro b; rw [h1]; split; exact flt_ne h; rfl
      rw [h2]; exact V9 h
theorem marks_ok:∀ (ats:List AT) (out:List XA) (sp:SPX) (l:List UInt8),match marksE ats out sp with | some x=>N3 ats out sp (l,0)=(x,(l,0)) | none=>(N3 ats out sp (l,0)).2.2=70
  | [],_,_,_=>rfl
  | a::r,out,sp,l=>by
    rw [N3,marksE]
    by_cases hd:(P7 a).isSome=true
    · rw [if_pos hd,if_pos hd]; exact marks_ok r out sp l
    · rw [if_neg hd,if_neg hd]
      dsimp only
      have hs:match (if a.q.has=true then spaceE a.q.pre true sp else some []) with | some x=>(if a.q.has=true then J9 a.q.pre true sp (l,0) else ([],(l,0)))=(x,(l,0)) | none=>(if a.q.has=true then J9 a.q.pre true sp (l,0) else ([],(l,0))).2.2=70:=by
        by_cases hh:a.q.has=true
        · rw [if_pos hh,if_pos hh]; exact space_ok
        · rw [if_neg hh,if_neg hh]
      revert hs
      cases (if a.q.has=true then spaceE a.q.pre true sp else some []) with
      | none =>
        intro hs
        dsimp only at hs ⊢
        generalize (if a.q.has=true then J9 a.q.pre true sp (l,0) else ([],(l,0)))=y at hs
        have h2:∀ b:Bool,(if b=true then F0 70 y.2 else y.2)=y.2:=by
          intro b; split; exact flt_ne (by rw [hs]; decide); rfl
        rw [h2,V9 (by rw [hs]; decide),hs]
      | some s =>
        intro hs
        dsimp only at hs ⊢
        rw [hs]
        dsimp only
        by_cases hb:(out.any fun y=>y.space==s&&y.name==a.q.name)=true
        · rw [if_pos hb,if_pos hb,flt_0 rfl]
          dsimp only
          rw [V9 (show (70:Int)≠0 by decide)]
        · rw [if_neg hb,if_neg hb]; exact marks_ok r _ sp l
def ElOk (el:List UInt8→EX) (ex:XS→XN × XS):Prop:=∀ l,Pl l→match el l with | .ok x=>ex (l,0)=(x.1,(x.2,0))∧Pl x.2∧x.2.length<l.length | .error e=>(ex (l,0)).2.2=e∧e≠0
theorem cont_ne {ex:XS→XN × XS} {n:Nat} {ks:List XN} {q:XS} (h:q.2≠0):F7 ex n ks q=(ks,q):=by
  cases n with
  | zero=>rfl
  | succ n=>rw [F7,if_pos h]
theorem piece_ok {el:List UInt8→EX} {ex:XS→XN × XS} (hel:ElOk el ex) (m:Nat) (ks:List XN) (l:List UInt8) (hp:Pl l) (h0:¬ [60,47].isPrefixOf l=true):match pieceE el ks l with | .ok x=>F7 ex (m+1) ks (l,0)=F7 ex m x.1 (x.2,0)∧Pl x.2∧x.2.length<l.length | .error e=>(F7 ex (m+1) ks (l,0)).2.2=e∧e≠0:=by
  have ht:∀ w:List UInt8,(G2 w (l,0)).1=w.isPrefixOf l:=fun w=>by
    rw [take_0]
    by_cases h:w.isPrefixOf l=true
    · rw [if_pos h,h]
    · rw [if_neg h,Bool.eq_false_iff.2 h]
  have ht2:∀ w:List UInt8,w.isPrefixOf l=true→(G2 w (l,0)).2=(l.drop w.length,0):=fun w h=>by rw [take_0,if_pos h]
  rw [F7,if_neg (by simp)]
  unfold pieceE
  rw [ht,ht,ht,if_neg h0]
  by_cases h1:[60,33,91,67,68,65,84,65,91].isPrefixOf l=true
  · rw [if_pos h1,if_pos h1,ht2 _ h1]
    dsimp only [List.length_cons,List.length_nil]
    have p0:=hp.pre h1 (by decide)
    have hu:=until_ok (w:=[93,93,62]) (l:=l.drop 9)
    cases hU:R3 [93,93,62] (l.drop 9) with
    | none =>
      rw [hU] at hu
      dsimp only at hu ⊢
      rw [cont_ne (by rw [hu]; decide)]
      exact ⟨hu,by decide⟩
    | some x =>
      obtain ⟨x,r⟩:=x
      obtain ⟨_,p2,p3⟩:=until_pl p0 (by decide) (by decide) hU
      change r.length<(l.drop 9).length at p3
      rw [List.length_drop] at p3
      rw [hU] at hu
      dsimp only at hu ⊢
      rw [hu]
      exact ⟨rfl,p2,by omega⟩
  · rw [if_neg h1,if_neg h1]
    have ha:=aside_ok (l:=l)
    cases hA:Q4 l with
    | none =>
      rw [hA] at ha
      dsimp only at ha ⊢
      rw [if_pos ha.1,cont_ne (by rw [ha.2]; decide)]
      exact ⟨ha.2,by decide⟩
    | some x =>
      cases x with
      | some r =>
        obtain ⟨p2,p3⟩:=aside_pl hp hA
        rw [hA] at ha
        dsimp only at ha ⊢
        rw [ha,if_pos rfl]
        exact ⟨rfl,p2,p3⟩
      | none =>
        rw [hA] at ha
        dsimp only at ha ⊢
        rw [ha]
        dsimp only
        rw [if_neg Bool.false_ne_true]
        by_cases h2:[60].isPrefixOf l=true
        · rw [if_pos h2,if_pos h2,ht2 _ h2]
          dsimp only [List.length_cons,List.length_nil]
          have p0:=hp.pre h2 (by decide)
          have h3:=hel (l.drop 1) p0
          cases hE:el (l.drop 1) with
          | error e =>
            rw [hE] at h3
            dsimp only at h3 ⊢
            rw [cont_ne (by rw [h3.1]; exact h3.2)]
            exact h3
          | ok x =>
            obtain ⟨x,r⟩:=x
            rw [hE] at h3
            dsimp only at h3 ⊢
            rw [h3.1]
            have h4:=h3.2.2
            rw [List.length_drop] at h4
            exact ⟨rfl,h3.2.1,by omega⟩
        · rw [if_neg h2,if_neg h2]
          have tp:=fun x h=>text_pl (x:=x) hp h (Bool.eq_false_iff.2 h2)
          unfold textE at tp ⊢
          cases hi:idxL [60] l with
          | none=>exact ⟨rfl,by decide⟩
          | some i =>
            rw [hi] at tp
            dsimp only at tp ⊢
            by_cases h3:(idxL [93,93,62] (l.take i)).isSome=true
            · rw [if_pos h3,if_pos h3]; exact ⟨rfl,by decide⟩
            · rw [if_neg h3] at tp
              rw [if_neg h3,if_neg h3]
              have hr:=refs_ok (l:=l.drop i) (hp.at hi (by decide) (by decide)).1
              cases hR:refsE (l.take i) with
              | none =>
                rw [hR] at hr
                dsimp only at hr ⊢
                rw [cont_ne (by rw [hr]; decide)]
                exact ⟨hr,by decide⟩
              | some x =>
                rw [hR] at hr tp
                dsimp only at hr tp ⊢
                rw [hr]
                obtain ⟨t1,t2⟩:=tp _ rfl
                exact ⟨rfl,t1,t2⟩
theorem cont_ok {el:List UInt8→EX} {ex:XS→XN × XS} (hel:ElOk el ex):∀ (n m:Nat) (ks:List XN) (l:List UInt8),Pl l→l.length<n→l.length<m→match contE el n ks l with | .ok x=>F7 ex m ks (l,0)=(x.1,(x.2,0))∧Pl x.2∧x.2.length<l.length | .error e=>(F7 ex m ks (l,0)).2.2=e∧e≠0
  | 0,_,_,_,_,h,_=>absurd h (Nat.not_lt_zero _)
  | _+1,0,_,_,_,_,h=>absurd h (Nat.not_lt_zero _)
  | n+1,m+1,ks,l,hp,hn,hm=>by
    rw [contE]
    by_cases h0:[60,47].isPrefixOf l=true
    · rw [if_pos h0]
      dsimp only
      rw [F7,if_neg (by simp),take_0,if_pos h0,if_pos rfl]
      have:=(List.isPrefixOf_iff_prefix.1 h0).length_le
      have h2:([60,47]:List UInt8).length=2:=rfl
      exact ⟨rfl,hp.pre h0 (by decide),by rw [List.length_drop]; omega⟩
    · rw [if_neg h0]
      have h1:=piece_ok hel m ks l hp h0
      cases hP:pieceE el ks l with
      | error e=>rw [hP] at h1; exact h1
      | ok x =>
        obtain ⟨k2,r⟩:=x
        rw [hP] at h1
        dsimp only at h1 ⊢
        rw [h1.1]
        have ih:=cont_ok hel n m k2 r h1.2.1 (by have:=h1.2.2; omega) (by have:=h1.2.2; omega)
        revert ih
        cases contE el n k2 r with
        | error e=>exact id
        | ok y=>exact fun ih=>⟨ih.1,ih.2.1,by have:=ih.2.2; have:=h1.2.2; omega⟩
theorem elX_eq (lv:Nat) (sp0:SPX) (q:XS):elX lv sp0 q =
    let a:=A7 q
    let t:=tagX (a.2.1.length+1) [] a.2
    if t.2.2.2≠0 then (V8,t.2.2) else
    let sp:=L7 t.1 [] sp0 t.2.2
    let s:=J9 a.1.pre a.1.has sp.1 sp.2
    let m:=N3 t.1 [] sp.1 s.2
    match lv with
    | 0=>(.mk s.1 a.1.name m.1 [] [],F0 71 m.2)
    | lv+1 =>
      if t.2.1=true∨m.2.2≠0 then (.mk s.1 a.1.name m.1 [] [],m.2) else S7 a.1 (F7 (elX lv sp.1) (m.2.1.length+1) [] m.2) s.1 m.1:=by
  rw [elX]
  all_goals (cases lv <;> dsimp only)
theorem end_ok {a:QN} {s:List UInt8} {m:List XA} {ks:List XN} {l:List UInt8} (hp:Pl l):match endE a l with | some r=>S7 a (ks,(l,0)) s m=(.mk s a.name m ks [],(r,0))∧Pl r∧r.length<l.length | none=>(S7 a (ks,(l,0)) s m).2.2=70:=by
  have h1:=qual_ok (l:=l)
  unfold endE S7
  dsimp only
  cases hq:qualE l with
  | none =>
    rw [hq] at h1
    dsimp only at h1 ⊢
    have h2:(D3 [62] (K6 (A7 (l,0)).2).2).2=70:=by rw [must_ne (by rw [skip_e,h1]; decide),skip_e,h1]
    split
    · rw [flt_ne (by rw [h2]; decide),h2]
    · exact h2
  | some b =>
    obtain ⟨b,r⟩:=b
    obtain ⟨p1,p2,_,_⟩:=qual_pl hp hq
    rw [hq] at h1
    dsimp only at h1 p1 p2 ⊢
    rw [h1]
    dsimp only
    have s1:(K6 (r,0)).2=(blk r,0):=rfl
    rw [s1]
    have h2:=must_ok (w:=[62]) (l:=blk r)
    by_cases hb:b≠a
    · rw [if_pos hb,if_pos hb]
      dsimp only
      cases hm:mustE [62] (blk r) with
      | none=>rw [hm] at h2; dsimp only at h2; rw [flt_ne (by rw [h2]; decide),h2]
      | some x=>rw [hm] at h2; dsimp only at h2; rw [h2]; rfl
    · rw [if_neg hb,if_neg hb]
      cases hm:mustE [62] (blk r) with
      | none=>rw [hm] at h2; exact h2
      | some x =>
        obtain ⟨q1,q2⟩:=must_pl p1.blk (by decide) (by decide) hm
        rw [hm] at h2
        have:=X7 r
        exact ⟨congrArg (Prod.mk _) h2,q1,by omega⟩
theorem close_ne {a:QN} {k:List XN × XS} {s:List UInt8} {m:List XA} (h:k.2.2≠0):(S7 a k s m).2.2=k.2.2:=by
  unfold S7
  dsimp only
  have h1:=qual_ne h
  have h2:(D3 [62] (K6 (A7 k.2).2).2).2=k.2.2:=by rw [must_ne (by rw [skip_e,h1]; exact h),skip_e,h1]
  split
  · rw [flt_ne (by rw [h2]; exact h),h2]
  · exact h2
theorem el_ok:∀ (lv:Nat) (sp0:SPX),ElOk (elE lv sp0) (elX lv sp0):=by
  intro lv
  induction lv with
  | zero =>
    intro sp0 l hp
    have hx:=elX_eq 0 sp0 (l,0)
    dsimp only at hx
    rw [elE]
    unfold headE
    have h1:=qual_ok (l:=l)
    cases hq:qualE l with
    | none =>
      rw [hq] at h1
      dsimp only at h1 ⊢
      have ht:=tag_ne (n:=(A7 (l,0)).2.1.length+1) (acc:=[]) (q:=(A7 (l,0)).2) (by rw [h1]; decide)
      rw [h1] at ht
      rw [hx,if_pos (by rw [ht]; decide)]
      exact ⟨ht,by decide⟩
    | some a =>
      obtain ⟨a,r⟩:=a
      obtain ⟨p1,p2,_,_⟩:=qual_pl hp hq
      rw [hq] at h1
      dsimp only at h1 p1 p2 ⊢
      rw [h1] at hx
      dsimp only at hx
      have h2:=tag_ok (r.length+1) (r.length+1) [] r p1 (Nat.lt_succ_self _) (Nat.lt_succ_self _)
      cases hT:tagE (r.length+1) [] r with
      | none =>
        rw [hT] at h2
        dsimp only at h2 ⊢
        rw [hx,if_pos (by rw [h2]; decide)]
        exact ⟨h2,by decide⟩
      | some t =>
        obtain ⟨ats,c,r1⟩:=t
        rw [hT] at h2
        dsimp only at h2 ⊢
        rw [h2.1] at hx
        dsimp only at hx
        rw [if_neg (by decide)] at hx
        have h3:=sp_ok ats [] sp0 r1
        cases hS:spE ats [] sp0 with
        | none =>
          rw [hS] at h3
          dsimp only at h3 ⊢
          rw [space_ne (by rw [h3]; decide),V9 (by rw [h3]; decide),flt_ne (by rw [h3]; decide)] at hx
          rw [hx]; exact ⟨h3,by decide⟩
        | some sp =>
          rw [hS] at h3
          dsimp only at h3 ⊢
          rw [h3] at hx
          dsimp only at hx
          have h4:=space_ok (p:=a.pre) (has:=a.has) (sp:=sp) (l:=r1)
          cases hP:spaceE a.pre a.has sp with
          | none =>
            rw [hP] at h4
            dsimp only at h4 ⊢
            rw [V9 (by rw [h4]; decide),flt_ne (by rw [h4]; decide)] at hx
            rw [hx]; exact ⟨h4,by decide⟩
          | some s =>
            rw [hP] at h4
            dsimp only at h4 ⊢
            rw [h4] at hx
            dsimp only at hx
            have h5:=marks_ok ats [] sp r1
            cases hM:marksE ats [] sp with
            | none =>
              rw [hM] at h5
              dsimp only at h5 ⊢
              rw [flt_ne (by rw [h5]; decide)] at hx
              rw [hx]; exact ⟨h5,by decide⟩
            | some m =>
              rw [hM] at h5
              dsimp only at h5 ⊢
              rw [h5] at hx
              rw [hx]; exact ⟨rfl,by decide⟩
  | succ lv ih =>
    intro sp0 l hp
    have hx:=elX_eq (lv+1) sp0 (l,0)
    dsimp only at hx
    rw [elE]
    unfold headE
    have h1:=qual_ok (l:=l)
    cases hq:qualE l with
    | none =>
      rw [hq] at h1
      dsimp only at h1 ⊢
      have ht:=tag_ne (n:=(A7 (l,0)).2.1.length+1) (acc:=[]) (q:=(A7 (l,0)).2) (by rw [h1]; decide)
      rw [h1] at ht
      rw [hx,if_pos (by rw [ht]; decide)]
      exact ⟨ht,by decide⟩
    | some a =>
      obtain ⟨a,r⟩:=a
      obtain ⟨p1,p2,_,_⟩:=qual_pl hp hq
      rw [hq] at h1
      dsimp only at h1 p1 p2 ⊢
      rw [h1] at hx
      dsimp only at hx
      have h2:=tag_ok (r.length+1) (r.length+1) [] r p1 (Nat.lt_succ_self _) (Nat.lt_succ_self _)
      cases hT:tagE (r.length+1) [] r with
      | none =>
        rw [hT] at h2
        dsimp only at h2 ⊢
        rw [hx,if_pos (by rw [h2]; decide)]
        exact ⟨h2,by decide⟩
      | some t =>
        obtain ⟨ats,c,r1⟩:=t
        rw [hT] at h2
        dsimp only at h2 ⊢
        rw [h2.1] at hx
        dsimp only at hx
        rw [if_neg (by decide)] at hx
        have h3:=sp_ok ats [] sp0 r1
        cases hS:spE ats [] sp0 with
        | none =>
          rw [hS] at h3
          dsimp only at h3 ⊢
          rw [space_ne (by rw [h3]; decide),V9 (by rw [h3]; decide),if_pos (.inr (by rw [h3]; decide))] at hx
          rw [hx]; exact ⟨h3,by decide⟩
        | some sp =>
          rw [hS] at h3
          dsimp only at h3 ⊢
          rw [h3] at hx
          dsimp only at hx
          have h4:=space_ok (p:=a.pre) (has:=a.has) (sp:=sp) (l:=r1)
          cases hP:spaceE a.pre a.has sp with
          | none =>
            rw [hP] at h4
            dsimp only at h4 ⊢
            rw [V9 (by rw [h4]; decide),if_pos (.inr (by rw [h4]; decide))] at hx
            rw [hx]; exact ⟨h4,by decide⟩
          | some s =>
            rw [hP] at h4
            dsimp only at h4 ⊢
            rw [h4] at hx
            dsimp only at hx
            have h5:=marks_ok ats [] sp r1
            cases hM:marksE ats [] sp with
            | none =>
              rw [hM] at h5
              dsimp only at h5 ⊢
              rw [if_pos (.inr (by rw [h5]; decide))] at hx
              rw [hx]; exact ⟨h5,by decide⟩
            | some m =>
              rw [hM] at h5
              dsimp only at h5 ⊢
              rw [h5] at hx
              dsimp only at hx
              by_cases hc:c=true
              · rw [if_pos (.inl hc)] at hx
                rw [if_pos hc]
                exact ⟨hx,h2.2.1,by have:=h2.2.2; show r1.length<_; have h9:r1.length<r.length:=this; omega⟩
              · rw [if_neg (by rintro (h | h); exact hc h; exact h rfl)] at hx
                rw [if_neg hc]
                have h6:=cont_ok (ih sp) (r1.length+1) (r1.length+1) [] r1 h2.2.1 (Nat.lt_succ_self _) (Nat.lt_succ_self _)
                cases hC:contE (elE lv sp) (r1.length+1) [] r1 with
                | error e =>
                  rw [hC] at h6
                  dsimp only at h6 ⊢
                  rw [hx,close_ne (by rw [h6.1]; exact h6.2)]
                  exact h6
                | ok k =>
                  obtain ⟨ks,r2⟩:=k
                  rw [hC] at h6
                  dsimp only at h6 ⊢
                  rw [h6.1] at hx
                  have h7:=end_ok (a:=a) (s:=s) (m:=m) (ks:=ks) h6.2.1
                  cases hE:endE a r2 with
                  | none =>
                    rw [hE] at h7
                    dsimp only at h7 ⊢
                    rw [hx]; exact ⟨h7,by decide⟩
                  | some r3 =>
                    rw [hE] at h7
                    dsimp only at h7 ⊢
                    rw [hx]
                    exact ⟨h7.1,h7.2.1,by have:=h7.2.2; have:=h6.2.2; have:=h2.2.2; omega⟩
theorem par_ok (l0:List UInt8):parX l0=parE l0:=by
  unfold parX parE
  by_cases hlen:65536<l0.length
  · rw [if_pos hlen,if_pos hlen]
  · rw [if_neg hlen,if_neg hlen]
    dsimp only
    generalize F4 l0=l
    by_cases hv:K8 l=false∨D6 l≠l
    · rw [if_pos hv,if_pos hv]
    · rw [if_neg hv,if_neg hv]
      have hp:Pl l:=pl_of (by cases h:K8 l; exact absurd (.inl h) hv; rfl) (by by_cases h:D6 l=l; exact h; exact absurd (.inr h) hv)
      have h1:=around_ok (l.length+1) (l.length+1) l hp (Nat.lt_succ_self _) (Nat.lt_succ_self _)
      have bad:∀ q:XS,q.2≠0→(let n:=if q.2=0 then elX 24 I6 q else (V8,q); let q2:=C3 (n.2.1.length+1) n.2; let q3:=if q2.1≠[] then F0 70 q2 else q2; if q3.2≠0 then (V8,q3.2) else (n.1,0))=(V8,q.2):=by
        intro q hq
        dsimp only
        rw [if_neg hq]
        dsimp only
        rw [around_ne hq,flt_ne hq]
        simp only [ite_self]
        rw [if_pos hq]
      cases hA:N5 (l.length+1) l with
      | none =>
        rw [hA] at h1
        dsimp only at h1 ⊢
        have h2:(D3 [60] (C3 (l.length+1) (l,0))).2=70:=by rw [must_ne (by rw [h1]; decide),h1]
        refine (bad _ (by rw [h2]; decide)).trans ?_
        rw [h2]
      | some r =>
        rw [hA] at h1
        dsimp only at h1 ⊢
        rw [h1.1]
        have h2:=must_ok (w:=[60]) (l:=r)
        cases hM:mustE [60] r with
        | none =>
          rw [hM] at h2
          dsimp only at h2 ⊢
          refine (bad _ (by rw [h2]; decide)).trans ?_
          rw [h2]
        | some r1 =>
          obtain ⟨p1,p2⟩:=must_pl h1.2.1 (by decide) (by decide) hM
          rw [hM] at h2
          dsimp only at h2 ⊢
          rw [h2]
          dsimp only
          rw [if_pos rfl]
          have h3:=el_ok 24 I6 r1 p1
          cases hE:elE 24 I6 r1 with
          | error e =>
            rw [hE] at h3
            dsimp only at h3 ⊢
            rw [around_ne (by rw [h3.1]; exact h3.2),flt_ne (by rw [h3.1]; exact h3.2)]
            simp only [ite_self]
            rw [if_pos (by rw [h3.1]; exact h3.2),h3.1]
          | ok k =>
            obtain ⟨k,r2⟩:=k
            rw [hE] at h3
            dsimp only at h3 ⊢
            rw [h3.1]
            dsimp only
            have h4:=around_ok (r2.length+1) (r2.length+1) r2 h3.2.1 (Nat.lt_succ_self _) (Nat.lt_succ_self _)
            cases hB:N5 (r2.length+1) r2 with
            | none =>
              rw [hB] at h4
              dsimp only at h4 ⊢
              rw [flt_ne (by rw [h4]; decide)]
              simp only [ite_self]
              rw [if_pos (by rw [h4]; decide),h4]
            | some r3 =>
              rw [hB] at h4
              dsimp only at h4 ⊢
              rw [h4.1]
              by_cases h5:r3=[]
              · subst h5; rfl
              · have e:(if (r3,(0:Int)).1≠[] then F0 70 (r3,0) else (r3,0))=(r3,70):=(if_pos h5).trans (flt_0 rfl)
                rw [e,if_neg h5]; rfl
end Go.Xml
namespace Go.Xml
open Go.Esc Go.Json
theorem pre_iff {w l:List UInt8}:l.take w.length=w ↔ w.isPrefixOf l=true:=by
  rw [List.isPrefixOf_iff_prefix,List.prefix_iff_eq_take]; exact ⟨Eq.symm,Eq.symm⟩
theorem idx_lib:∀ (l w:List UInt8),Lib.index l w=match idxL w l with | some i=>(i:Int) | none=>-1
  | [],w=>by
    unfold Lib.index idxL
    cases w with
    | nil=>rfl
    | cons b w=>rfl
  | b::l,w=>by
    rw [Lib.index,idxL,idx_lib l w]
    by_cases h:w.isPrefixOf (b::l)=true
    · rw [if_pos h,if_pos h]; rfl
    · rw [if_neg h,if_neg h]
      cases idxL w l with
      | none=>rfl
      | some i =>
        dsimp only [Option.map]
        show (if ((i:Int)==-1)=true then (-1:Int) else (i:Int)+1)=((i+1:Nat):Int)
        rw [if_neg (show ¬ ((i:Int)==-1)=true by rw [beq_iff_eq]; intro h; have:=Int.natCast_nonneg i; omega)]; rfl
theorem cut_none {l w:List UInt8} (h:idxL w l=none):Lib.cut l w=(l,[],false):=by
  unfold Lib.cut; rw [idx_lib,h]; rfl
theorem cut_some {l w:List UInt8} {i:Nat} (h:idxL w l=some i):Lib.cut l w=(l.take i,l.drop (i+w.length),true):=by
  unfold Lib.cut; rw [idx_lib,h]; dsimp only
  rw [if_pos (Int.natCast_nonneg i),Int.toNat_natCast]
theorem contains_idx (l w:List UInt8):Lib.contains l w=(idxL w l).isSome:=by
  unfold Lib.contains; rw [idx_lib]
  cases idxL w l with
  | none=>rfl
  | some i=>exact decide_eq_true (Int.natCast_nonneg i)
theorem idx_mem (c:UInt8):∀ l:List UInt8,(idxL [c] l).isSome=decide (c∈l)
  | []=>rfl
  | b::l=>by
    rw [idxL]
    by_cases h:b=c
    · subst h; rw [if_pos (by simp [List.isPrefixOf])]; simp
    · rw [if_neg (by simpa [List.isPrefixOf] using fun e=>h e.symm)]
      have ih:=idx_mem c l
      rw [Option.isSome_map,ih]
      simp [show ¬ c=b from fun e=>h e.symm]
theorem blk_trimX (l:List UInt8):Lib.trimLeftS l [32,9,13,10]=blk l:=by
  unfold Lib.trimLeftS blk
  congr 1
  funext b
  unfold wsB
  simp only [List.contains_cons,List.contains_nil,Bool.or_false]
  cases b==32 <;> cases b==9 <;> cases b==13 <;> cases b==10 <;> rfl
theorem must_yes {w:List UInt8} {q:XS} (h:w.isPrefixOf q.1=true):D3 w q=(q.1.drop w.length,q.2):=if_pos h
theorem must_no {w:List UInt8} {q:XS} (h:¬ w.isPrefixOf q.1=true):D3 w q=F0 70 q:=if_neg h
theorem P9 {w:List UInt8} {q:XS} (h:w.isPrefixOf q.1=true):G2 w q=(true,(q.1.drop w.length,q.2)):=if_pos h
theorem M5 {w:List UInt8} {q:XS} (h:¬ w.isPrefixOf q.1=true):G2 w q=(false,q):=if_neg h
theorem until_none {w:List UInt8} {q:XS} (h:idxL w q.1=none):H3 w q=([],F0 70 q):=by unfold H3; rw [h]
theorem until_some {w:List UInt8} {q:XS} {i:Nat} (h:idxL w q.1=some i):H3 w q=(q.1.take i,(q.1.drop (i+w.length),q.2)):=by unfold H3; rw [h]
theorem fst_iff (b:UInt8):fstX b=true ↔ (97≤b.toNat∧b.toNat≤122)∨(65≤b.toNat∧b.toNat≤90)∨b.toNat=95∨128≤b.toNat:=by
  unfold fstX
  have h95:(b==95)=true ↔ b.toNat=95:=by rw [beq_iff_eq]; exact ⟨fun h=>by rw [h]; rfl,fun h=>UInt8.toNat_inj.1 h⟩
  simp only [Bool.or_eq_true,Bool.and_eq_true,decide_eq_true_eq,h95,or_assoc]
theorem nxt_iff (b:UInt8):nxtX b=true ↔ fstX b=true∨(48≤b.toNat∧b.toNat≤57)∨b.toNat=45∨b.toNat=46:=by
  unfold nxtX dgB
  have h45:(b==45)=true ↔ b.toNat=45:=by rw [beq_iff_eq]; exact ⟨fun h=>by rw [h]; rfl,fun h=>UInt8.toNat_inj.1 h⟩
  have h46:(b==46)=true ↔ b.toNat=46:=by rw [beq_iff_eq]; exact ⟨fun h=>by rw [h]; rfl,fun h=>UInt8.toNat_inj.1 h⟩
  simp only [Bool.or_eq_true,Bool.and_eq_true,decide_eq_true_eq,h45,h46,or_assoc]
def NmAt (l:List UInt8) (i:Nat):Prop:=i=0∨(0<i∧nmX l=i+((l.drop i).takeWhile nxtX).length)
theorem nm_le (l:List UInt8):nmX l≤l.length:=by
  cases l with
  | nil=>exact Nat.le_refl _
  | cons b l =>
    rw [nm_cons]; split
    · have:=(List.takeWhile_prefix nxtX (l:=l)).length_le; rw [List.length_cons]; omega
    · exact Nat.zero_le _
theorem nm_stop {l:List UInt8} {i:Nat} (h:NmAt l i) (hi:i<l.length) (hf:fstX (l.getD i 0)=false) (hn:i=0∨nxtX (l.getD i 0)=false):nmX l=i:=by
  have hd:=R7 l hi
  rcases h with rfl | ⟨h0,h⟩
  · rw [List.drop_zero] at hd
    rw [hd,nm_cons,hf]; rfl
  · have hn:=hn.resolve_left (by omega)
    rw [h,hd,List.takeWhile_cons,hn]; rfl
theorem nm_step {l:List UInt8} {i:Nat} (h:NmAt l i) (hi:i<l.length) (hf:fstX (l.getD i 0)=true∨(i≠0∧nxtX (l.getD i 0)=true)):NmAt l (i+1):=by
  have hd:=R7 l hi
  refine .inr ⟨Nat.succ_pos _,?_⟩
  rcases h with rfl | ⟨h0,h⟩
  · have hf:=hf.resolve_right (fun h=>h.1 rfl)
    rw [List.drop_zero] at hd
    conv=>lhs; rw [hd,nm_cons,hf]
    rfl
  · have hn:nxtX (l.getD i 0)=true:=hf.elim (fun h=>(nxt_iff _).2 (.inl h)) (·.2)
    rw [h,hd,List.takeWhile_cons,hn]
    simp only [if_true,List.length_cons]; omega
theorem nm_end {l:List UInt8} {i:Nat} (h:NmAt l i) (hi:l.length≤i) (h2:i≤l.length):nmX l=l.length:=by
  rcases h with rfl | ⟨h0,h⟩
  · have:l=[]:=List.eq_nil_of_length_eq_zero (by omega)
    subst this; rfl
  · rw [h,List.drop_eq_nil_of_le hi]; show i+0=_; omega
theorem nameX_0 {q:XS} (h:nmX q.1=0):K9 q=([],F0 70 q):=by unfold K9; rw [if_pos h,h]; rfl
theorem nameX_s {q:XS} (h:nmX q.1≠0):K9 q=(q.1.take (nmX q.1),(q.1.drop (nmX q.1),q.2)):=by unfold K9; rw [if_neg h]
theorem qual_no {q:XS} (h:¬ [58].isPrefixOf (K9 q).2.1=true):A7 q=(⟨[],(K9 q).1,false⟩,(K9 q).2):=by
  unfold A7; dsimp only; rw [M5 h]; rfl
theorem qual_yes {q:XS} (h:[58].isPrefixOf (K9 q).2.1=true):A7 q=(⟨(K9 q).1,(K9 ((K9 q).2.1.drop 1,(K9 q).2.2)).1,true⟩,(K9 ((K9 q).2.1.drop 1,(K9 q).2.2)).2):=by
  unfold A7; dsimp only; rw [P9 h]; rfl
theorem aside_1 {q:XS} (h:[60,33,45,45].isPrefixOf q.1=true):H6 q=(true,D3 [62] (H3 [45,45] (q.1.drop 4,q.2)).2):=by unfold H6; rw [P9 h]; rfl
theorem aside_2 {q:XS} (h1:¬ [60,33,45,45].isPrefixOf q.1=true) (h:[60,63].isPrefixOf q.1=true):H6 q=(true,(H3 [63,62] (K9 (q.1.drop 2,q.2)).2).2):=by unfold H6; rw [M5 h1,P9 h]; rfl
theorem aside_3 {q:XS} (h1:¬ [60,33,45,45].isPrefixOf q.1=true) (h:¬ [60,63].isPrefixOf q.1=true):H6 q=(false,q):=by unfold H6; rw [M5 h1,M5 h]; rfl
theorem around_skip {m:Nat} {q:XS} (h0:q.2=0) (h:(blk q.1).length<q.1.length):C3 (m+1) q=C3 m (blk q.1,q.2):=by
  rw [C3,if_neg (fun h=>h h0)]
  rw [if_pos (show (K6 q).1=true from decide_eq_true h)]; rfl
theorem around_aside {m:Nat} {q:XS} (h0:q.2=0) (h:¬ (blk q.1).length<q.1.length) (ha:(H6 (blk q.1,q.2)).1=true):C3 (m+1) q=C3 m (H6 (blk q.1,q.2)).2:=by
  rw [C3,if_neg (fun h=>h h0)]
  rw [if_neg (show ¬ (K6 q).1=true from fun hh=>h (of_decide_eq_true hh)),if_pos (show (H6 (K6 q).2).1=true from ha)]; rfl
theorem around_end {m:Nat} {q:XS} (h0:q.2=0) (h:¬ (blk q.1).length<q.1.length) (ha:¬ (H6 (blk q.1,q.2)).1=true):C3 (m+1) q=(H6 (blk q.1,q.2)).2:=by
  rw [C3,if_neg (fun h=>h h0)]
  rw [if_neg (show ¬ (K6 q).1=true from fun hh=>h (of_decide_eq_true hh)),if_neg (show ¬ (H6 (K6 q).2).1=true from ha)]; rfl
end Go.Xml
namespace Go.Proofs
open Go.Shelf
def Tryz.lays144_ren:Go.Shelf.Ren:=⟨fun | 144=>143 | 143=>166 | 219=>184 | 217=>186 | 225=>194 | 224=>193 | 267=>202 | 266=>205 | 314=>221 | n=>n,fun | 9=>9 | 4=>4 | 3=>3 | 5=>5 | 46=>37 | 146=>230 | 51=>36 | n=>n,fun | 1=>2 | n=>n⟩
theorem Tryz.lays144:Go.Proofs.Lays.n144 Tryz.prog Tryz.lays144_ren:={
  mixed:=by kernel_rfl
  f143:=Tryz.func166.trans (congrArg some (by kernel_rfl))
  f144:=Tryz.func143.trans (congrArg some (by kernel_rfl))
  f217:=Tryz.func186.trans (congrArg some (by kernel_rfl))
  f219:=Tryz.func184.trans (congrArg some (by kernel_rfl))
  f224:=Tryz.func193.trans (congrArg some (by kernel_rfl))
  f225:=Tryz.func194.trans (congrArg some (by kernel_rfl))
  f266:=Tryz.func205.trans (congrArg some (by kernel_rfl))
  f267:=Tryz.func202.trans (congrArg some (by kernel_rfl))
  f314:=Tryz.func221.trans (congrArg some (by kernel_rfl))
  t3:=Tryz.underlying3
  a3:=Tryz.isAgg3
  z3:=Tryz.sizeOf3
  v3:=Tryz.zeroValue3
  t4:=Tryz.underlying4
  a4:=Tryz.isAgg4
  z4:=Tryz.sizeOf4
  v4:=Tryz.zeroValue4
  t5:=Tryz.underlying5
  a5:=Tryz.isAgg5
  z5:=Tryz.sizeOf5
  v5:=Tryz.zeroValue5
  t9:=Tryz.underlying9
  a9:=Tryz.isAgg9
  z9:=Tryz.sizeOf9
  v9:=Tryz.zeroValue9
  t46:=Tryz.underlying37
  a46:=Tryz.isAgg37
  z46:=Tryz.sizeOf37
  v46:=Tryz.zeroValue37
  t51:=Tryz.underlying36
  a51:=Tryz.isAgg36
  z51:=Tryz.sizeOf36
  v51:=Tryz.zeroValue36
  t146:=Tryz.underlying230
  a146:=Tryz.isAgg230
  z146:=Tryz.sizeOf230
  v146:=Tryz.zeroValue230
  g1:=by kernel_rfl }
open Go.RowKit Go.Lib in
/-- strings.Contains: "Contains reports whether substr is within s.": IT RETURNS 'Lib.contains s substr'; the world is as it was. (LAID: no walk: one application.) -/
theorem Tryz.strings_Contains (s sub:ByteArray) (m:Int) (w:World) (hs:s.size<4294967281) (hm:w.cell? ⟨2,0,none⟩=some (.int .i64 m)) :
    Calls Tryz.prog 143 #[.string s,.string sub] w fun e w'=>e=.returned (.bool (Lib.contains s.data.toList sub.data.toList))∧w'=w:=Any.strings_Contains Tryz.lays144 s sub m w hs hm
def Tryz.lays145_ren:Go.Shelf.Ren:=⟨fun | 145=>150 | 220=>173 | 219=>184 | 217=>186 | 225=>194 | 224=>193 | 267=>202 | 266=>205 | 314=>221 | n=>n,fun | 9=>9 | 4=>4 | 59=>130 | 3=>3 | 5=>5 | 46=>37 | 146=>230 | 51=>36 | n=>n,fun | 1=>2 | n=>n⟩
theorem Tryz.lays145:Go.Proofs.Lays.n145 Tryz.prog Tryz.lays145_ren:={
  mixed:=by kernel_rfl
  f145:=Tryz.func150.trans (congrArg some (by kernel_rfl))
  f217:=Tryz.func186.trans (congrArg some (by kernel_rfl))
  f219:=Tryz.func184.trans (congrArg some (by kernel_rfl))
  f220:=Tryz.func173.trans (congrArg some (by kernel_rfl))
  f224:=Tryz.func193.trans (congrArg some (by kernel_rfl))
  f225:=Tryz.func194.trans (congrArg some (by kernel_rfl))
  f266:=Tryz.func205.trans (congrArg some (by kernel_rfl))
  f267:=Tryz.func202.trans (congrArg some (by kernel_rfl))
  f314:=Tryz.func221.trans (congrArg some (by kernel_rfl))
  t3:=Tryz.underlying3
  a3:=Tryz.isAgg3
  z3:=Tryz.sizeOf3
  v3:=Tryz.zeroValue3
  t4:=Tryz.underlying4
  a4:=Tryz.isAgg4
  z4:=Tryz.sizeOf4
  v4:=Tryz.zeroValue4
  t5:=Tryz.underlying5
  a5:=Tryz.isAgg5
  z5:=Tryz.sizeOf5
  v5:=Tryz.zeroValue5
  t9:=Tryz.underlying9
  a9:=Tryz.isAgg9
  z9:=Tryz.sizeOf9
  v9:=Tryz.zeroValue9
  t46:=Tryz.underlying37
  a46:=Tryz.isAgg37
  z46:=Tryz.sizeOf37
  v46:=Tryz.zeroValue37
  t51:=Tryz.underlying36
  a51:=Tryz.isAgg36
  z51:=Tryz.sizeOf36
  v51:=Tryz.zeroValue36
  t59:=Tryz.underlying130
  a59:=Tryz.isAgg130
  z59:=Tryz.sizeOf130
  v59:=Tryz.zeroValue130
  t146:=Tryz.underlying230
  a146:=Tryz.isAgg230
  z146:=Tryz.sizeOf230
  v146:=Tryz.zeroValue230
  g1:=by kernel_rfl }
open Go.RowKit Go.Lib in
/-- strings.Cut: "Cut slices s around the first instance of sep, returning the text before and after sep. The found result reports whether sep appears in s. If sep does not appear in s, cut returns s, "", false.": IT RETURNS 'Lib.cut s sep'; the world is as it was but for the count of draws. (LAID: no walk: one application.) -/
theorem Tryz.strings_Cut (s sep:ByteArray) (m:Int) (w:World) (hs:s.size<4294967281) (hm:w.cell? ⟨2,0,none⟩=some (.int .i64 m)) :
    Calls Tryz.prog 150 #[.string s,.string sep] w fun e w'=>e=.returned (.tuple #[.string ⟨(Lib.cut s.data.toList sep.data.toList).1.toArray⟩,.string ⟨(Lib.cut s.data.toList sep.data.toList).2.1.toArray⟩,.bool (Lib.cut s.data.toList sep.data.toList).2.2])∧∃ n,w'=w.drewN n:=Any.strings_Cut Tryz.lays145 s sep m w hs hm
def Tryz.lays146_ren:Go.Shelf.Ren:=⟨fun | 146=>167 | 221=>185 | 268=>203 | 138=>204 | 143=>166 | 195=>222 | 197=>158 | 218=>223 | 219=>184 | 260=>176 | 217=>186 | 225=>194 | 224=>193 | 267=>202 | 266=>205 | 314=>221 | n=>n,fun | 9=>9 | 31=>25 | 3=>3 | 4=>4 | 0=>0 | 105=>185 | 21=>21 | 5=>5 | 46=>37 | 119=>173 | 139=>176 | 138=>175 | 146=>230 | 51=>36 | n=>n,fun | 1=>2 | 3=>0 | 4=>1 | n=>n⟩
theorem Tryz.lays146:Go.Proofs.Lays.n146 Tryz.prog Tryz.lays146_ren:={
  mixed:=by kernel_rfl
  f138:=Tryz.func204.trans (congrArg some (by kernel_rfl))
  f143:=Tryz.func166.trans (congrArg some (by kernel_rfl))
  f146:=Tryz.func167.trans (congrArg some (by kernel_rfl))
  f195:=Tryz.func222.trans (congrArg some (by kernel_rfl))
  f197:=Tryz.func158.trans (congrArg some (by kernel_rfl))
  f217:=Tryz.func186.trans (congrArg some (by kernel_rfl))
  f218:=Tryz.func223.trans (congrArg some (by kernel_rfl))
  f219:=Tryz.func184.trans (congrArg some (by kernel_rfl))
  f221:=Tryz.func185.trans (congrArg some (by kernel_rfl))
  f224:=Tryz.func193.trans (congrArg some (by kernel_rfl))
  f225:=Tryz.func194.trans (congrArg some (by kernel_rfl))
  f260:=Tryz.func176.trans (congrArg some (by kernel_rfl))
  f266:=Tryz.func205.trans (congrArg some (by kernel_rfl))
  f267:=Tryz.func202.trans (congrArg some (by kernel_rfl))
  f268:=Tryz.func203.trans (congrArg some (by kernel_rfl))
  f314:=Tryz.func221.trans (congrArg some (by kernel_rfl))
  t0:=Tryz.underlying0
  a0:=Tryz.isAgg0
  z0:=Tryz.sizeOf0
  v0:=Tryz.zeroValue0
  t3:=Tryz.underlying3
  a3:=Tryz.isAgg3
  z3:=Tryz.sizeOf3
  v3:=Tryz.zeroValue3
  t4:=Tryz.underlying4
  a4:=Tryz.isAgg4
  z4:=Tryz.sizeOf4
  v4:=Tryz.zeroValue4
  t5:=Tryz.underlying5
  a5:=Tryz.isAgg5
  z5:=Tryz.sizeOf5
  v5:=Tryz.zeroValue5
  t9:=Tryz.underlying9
  a9:=Tryz.isAgg9
  z9:=Tryz.sizeOf9
  v9:=Tryz.zeroValue9
  t21:=Tryz.underlying21
  a21:=Tryz.isAgg21
  z21:=Tryz.sizeOf21
  v21:=Tryz.zeroValue21
  t31:=Tryz.underlying25
  a31:=Tryz.isAgg25
  z31:=Tryz.sizeOf25
  v31:=Tryz.zeroValue25
  t46:=Tryz.underlying37
  a46:=Tryz.isAgg37
  z46:=Tryz.sizeOf37
  v46:=Tryz.zeroValue37
  t51:=Tryz.underlying36
  a51:=Tryz.isAgg36
  z51:=Tryz.sizeOf36
  v51:=Tryz.zeroValue36
  t105:=Tryz.underlying185
  a105:=Tryz.isAgg185
  z105:=Tryz.sizeOf185
  v105:=Tryz.zeroValue185
  t119:=Tryz.underlying173
  a119:=Tryz.isAgg173
  z119:=Tryz.sizeOf173
  t138:=Tryz.underlying175
  a138:=Tryz.isAgg175
  z138:=Tryz.sizeOf175
  v138:=Tryz.zeroValue175
  t139:=Tryz.underlying176
  a139:=Tryz.isAgg176
  z139:=Tryz.sizeOf176
  v139:=Tryz.zeroValue176
  t146:=Tryz.underlying230
  a146:=Tryz.isAgg230
  z146:=Tryz.sizeOf230
  v146:=Tryz.zeroValue230
  g1:=by kernel_rfl
  g3:=by kernel_rfl
  g4:=by kernel_rfl }
open Go.RowKit Go.Lib in
/-- strings.Split. (LAID: no walk: one application.) -/
theorem Tryz.strings_Split (s sep:ByteArray) (m:Int) (w:World) (hs:s.size<4294967281) (hm:w.cell? ⟨2,0,none⟩=some (.int .i64 m)) (h1:1≤sep.size) :
    Calls Tryz.prog 167 #[.string s,.string sep] w fun e w' =>
      e=.returned (.slice (some ⟨w.heap.size,0,none⟩) (Lib.countB s sep+1) (Lib.countB s sep+1))∧w'=w.alloc (.cells ((Lib.splitB sep 0 (Lib.countB s sep) s).map Value.string).toArray 9):=Any.strings_Split Tryz.lays146 (by kernel_rfl) s sep m w hs hm h1
end Go.Proofs
namespace Go.Proofs.YtppgfiklmfoaeaaGreatDoor
open Go.Sw Go.Sha Go.Esc Go.RowKit Go.Json Go.Xml
structure P2 (W0:World):Prop where
  base:T0 W0
  max:∃ m,2<W0.heap.size∧W0.cell? ⟨2,0,none⟩=some (.int .i64 m)
def rdX (r:Nat) (q:XS):Grp:=[(r,.cells #[.string (bk q.1),.int .i64 q.2] 97 (0,0))]
theorem trimX (l:List UInt8) (W0:World) (H:List Grp):Tri Tryz.prog 82 #[.string (bk l),.string (mB #[32,9,13,10])] W0 H (fun v H'=>v=.string (bk (blk l))∧H'=H) :=
  Tri_below (fun w _=>(Any.strings_TrimLeft_laid Tryz.lays161 (by kernel_rfl) (bk l) _ w (by decide) (ascii_of_all (by decide))).mono fun _ _ ⟨h1,h2⟩=>⟨by rw [h1,show Lib.trimLeftS (bk l).data.toList (mB #[32,9,13,10]).data.toList=blk l from blk_trimX _],h2⟩)
theorem cutW (w l:List UInt8) (hl:l.length≤1000000000) (W0:World) (H:List Grp) (hX:P2 W0):Tri Tryz.prog 150 #[.string (bk l),.string (bk w)] W0 H (fun v H'=>((idxL w l=none∧v=.tuple #[.string (bk l),.string eB,.bool false])∨∃ i,idxL w l=some i∧v=.tuple #[.string (bk (l.take i)),.string (bk (l.drop (i+w.length))),.bool true])∧H'=H):=by
  obtain ⟨m,h1,h2⟩:=hX.max
  have key:∀ v0,v0=Value.tuple #[.string ⟨(Lib.cut l w).1.toArray⟩,.string ⟨(Lib.cut l w).2.1.toArray⟩,.bool (Lib.cut l w).2.2]→Tri Tryz.prog 150 #[.string (bk l),.string (bk w)] W0 H (fun v H'=>v=v0∧H'=H):=fun v0 h0 =>
    Tri_below (fun w' hs=>(Tryz.strings_Cut (bk l) (bk w) m w' (by rw [C8]; omega) (cell_base hs h1 h2)).mono fun _ w2 ⟨h3,n,h4⟩=>⟨by rw [h3,h0],by rw [h4]; exact ⟨rfl,rfl,rfl,Nat.le_refl _,fun _ _=>rfl⟩⟩)
  refine (key _ rfl).post fun v H' ⟨hv,hH⟩=>⟨H',⟨?_,hH⟩,fun _ h=>h⟩
  cases hI:idxL w l with
  | none=>exact .inl ⟨rfl,by rw [hv,Go.Xml.cut_none hI]⟩
  | some i=>exact .inr ⟨i,rfl,by rw [hv,Go.Xml.cut_some hI]⟩
theorem hasW (w l:List UInt8) (hl:l.length≤1000000000) (W0:World) (H:List Grp) (hX:P2 W0):Tri Tryz.prog 143 #[.string (bk l),.string (bk w)] W0 H (fun v H'=>v=.bool (idxL w l).isSome∧H'=H):=by
  obtain ⟨m,h1,h2⟩:=hX.max
  exact Tri_below (fun w' hs=>(Tryz.strings_Contains (bk l) (bk w) m w' (by rw [C8]; omega) (cell_base hs h1 h2)).mono fun _ w2 ⟨h3,h4⟩=>⟨by rw [h3,← contains_idx],by rw [h4]; exact ⟨rfl,rfl,rfl,Nat.le_refl _,fun _ _=>rfl⟩⟩)
theorem toNat_ext (l:List UInt8) (n:Nat):(bk l).extract 0 (Int.toNat (n:Int))=bk (l.take n):=by rw [Int.toNat_natCast,ext_bkT]
theorem toNat_extD (l:List UInt8) (n:Nat):(bk l).extract (Int.toNat (n:Int)) (bk l).size=bk (l.drop n):=by rw [Int.toNat_natCast,ext_bk]
theorem M7 (r:Nat) (q:XS) (n:Int) (W0:World) (H:List Grp):Tri Tryz.prog 64 #[pt r,.int .i64 n] W0 ([(r,.cells #[.string (bk q.1),.int .i64 q.2] 97 (0,0))]::H) (fun _ H'=>H'=rdX r (F0 n q)::H):=by
 refine D4 13 Tryz.func64 ?_
 refine A1 (A3 (A4 (j:=3) [0,0,0] (k:=C4 0 1 rfl rfl (A8 [0] [0,1,8] (k:=A0 (B0 (b:=q.2==0) kr (fun hc1=>?_) (fun hc1=>?_)))))))
 ·
  have hc:q.2=0:=by simpa using hc1
  refine A3 (A4 (j:=4) [0,0,0,0] (k:=E4 0 1 (.int .i64 n) rfl (B4 (E':=[]) [] [] (k:=B7 [] [] (k:=?_)))))
  exact (by rw [Go.Xml.flt_0 hc]; try rfl)
 ·
  have hc:¬ q.2=0:=by simpa using hc1
  refine A9 (B7 [] [] (k:=?_))
  exact (by rw [Go.Xml.flt_ne hc]; try rfl)
theorem xtake_ (r:Nat) (q:XS) (w:List UInt8) (W0:World) (H:List Grp):Tri Tryz.prog 102 #[pt r,.string (bk w)] W0 ([(r,.cells #[.string (bk q.1),.int .i64 q.2] 97 (0,0))]::H) (fun v H'=>(w.isPrefixOf q.1=true∧v=.bool true∧H'=rdX r (q.1.drop w.length,q.2)::H)∨(¬ w.isPrefixOf q.1=true∧v=.bool false∧H'=rdX r q::H)):=by
 refine D4 22 Tryz.func102 ?_
 refine A1 (B9 (E':=[⟨0,[],pt r⟩,⟨1,[],.string (bk w)⟩]) [0] [0,1] (k:=A0 (A1 (A3 (A4 (j:=3) [0,0,0] (k:=C4 0 0 rfl rfl (A4 (j:=5) [0] (k:=E0 Tryz.func124 (jcut_ (bk q.1) (bk w) _ _) ?_))))))))
 rintro _ _ ⟨rfl,rfl⟩
 cases hsp:J2 (bk q.1) (bk w)
 all_goals simp only [Bool.false_eq_true,if_false,if_true]
 ·
  refine A8 [0,0,0,0,0] [0,5,6] (k:=A0 (A1 (A1 (G_p [0] [0,5,6,16] (k:=A0 (C9 kr (A9 (A0 ?_))))))))
  refine A1 (B9 (E':=[⟨4,[],.bool false⟩]) [0,0] [4] (k:=A0 (B8 (B7 [.tmp 4] [.bool false] (k:=?_)))))
  exact .inr ⟨fun hn=>(O5 _ _).1 hsp (by rw [C8]; exact pre_iff.2 hn),rfl,rfl⟩
 ·
  refine A8 [0,0,0,0,0] [0,5,6] (k:=A0 (A1 (A1 (G_p [0] [0,5,6,16] (k:=A0 (C7 kr (A3 (A4 (j:=4) [0,0,0,0] (k:=?_)))))))))
  refine E4 0 0 (.string ((bk q.1).extract (bk w).size (bk q.1).size)) rfl (B4 (E':=[⟨6,[],.bool true⟩]) [] [6] (k:=A0 (A1 (B9 (E':=[⟨4,[],.bool true⟩]) [0,0] [4] (k:=A0 (B8 (B7 [.tmp 4] [.bool true] (k:=?_))))))))
  exact .inl ⟨pre_iff.1 (by have h:=(O8 _ _).1 hsp; rw [C8] at h; exact h),rfl,by rw [ext_bk,C8]; rfl⟩
theorem xmust_ (r:Nat) (q:XS) (w:List UInt8) (W0:World) (H:List Grp):Tri Tryz.prog 62 #[pt r,.string (bk w)] W0 ([(r,.cells #[.string (bk q.1),.int .i64 q.2] 97 (0,0))]::H) (fun _ H'=>H'=rdX r (D3 w q)::H):=by
 refine D4 10 Tryz.func62 ?_
 refine A1 (A3 (A4 (j:=2) [0,0] (k:=E0 Tryz.func102 (xtake_ r q w _ _) ?_)))
 rintro _ _ (⟨hk1,rfl,rfl⟩ | ⟨hk1,rfl,rfl⟩)
 ·
  have hk1:w.isPrefixOf q.1=true:=hk1
  refine B4 (E':=[⟨0,[],pt r⟩,⟨7,[],.bool false⟩]) [0] [0,7] (k:=A0 (C9 kr (A9 (B7 [] [] (k:=?_)))))
  exact (by rw [must_yes hk1]; try rfl)
 ·
  have hk1:¬ w.isPrefixOf q.1=true:=hk1
  refine B4 (E':=[⟨0,[],pt r⟩,⟨7,[],.bool true⟩]) [0] [0,7] (k:=A0 (C7 kr (A3 (A4 (j:=1) [0] (k:=E0 Tryz.func64 (M7 r q 70 _ _) ?_)))))
  rintro _ _ rfl
  refine B4 (E':=[]) [] [] (k:=B7 [] [] (k:=?_))
  exact (by rw [must_no hk1]; try rfl)
theorem xskip_ (r:Nat) (q:XS) (W0:World) (H:List Grp):Tri Tryz.prog 100 #[pt r] W0 ([(r,.cells #[.string (bk q.1),.int .i64 q.2] 97 (0,0))]::H) (fun v H'=>v=.bool (decide ((blk q.1).length<q.1.length))∧H'=rdX r (blk q.1,q.2)::H):=by
 refine D4 24 Tryz.func100 ?_
 refine A1 (B9 (E':=[⟨0,[],pt r⟩]) [0] [0] (k:=A0 (A1 (A3 (A4 (j:=3) [0,0,0] (k:=C4 0 0 rfl rfl (A8 [0,0] [0,3] (k:=A0 ?_))))))))
 refine A1 (A3 (A4 (j:=4) [0,0,0,0] (k:=C4 0 0 rfl rfl (F8 Tryz.func82 (trimX q.1 _ _) (A4 (j:=8) [0,0] (k:=E4 0 0 (.string (bk (blk q.1))) rfl (A8 [] [0,3] (k:=A0 ?_))))))))
 refine A1 (A3 (A4 (j:=3) [0,0,0] (k:=C4 0 0 rfl rfl (A8 [0,0,0,0] [2] (k:=A0 (B8 (B7 [.tmp 2] [.bool (decide (((bk (blk q.1)).size:Int)<((bk q.1).size:Int)))] (k:=?_))))))))
 exact ⟨congrArg Value.bool (by rw [C8,C8]; exact decide_eq_decide.2 (by omega)),rfl⟩
theorem xskip2_ (r:Nat) (q:XS) (W0:World) (H:List Grp):Tri Tryz.prog 100 #[pt r] W0 (rdX r q::H) (fun v H'=>((blk q.1).length<q.1.length∧v=.bool true∧H'=rdX r (blk q.1,q.2)::H)∨(¬ (blk q.1).length<q.1.length∧v=.bool false∧H'=rdX r (blk q.1,q.2)::H)):=by
  refine (xskip_ r q W0 H).post fun v H' ⟨h1,h2⟩=>⟨H',?_,fun _ h=>h⟩
  by_cases h:(blk q.1).length<q.1.length
  · exact .inl ⟨h,by rw [h1,decide_eq_true h],h2⟩
  · exact .inr ⟨h,by rw [h1,decide_eq_false h],h2⟩
theorem xuntil_ (r:Nat) (q:XS) (w:List UInt8) (hl:q.1.length≤1000000) (W0:World) (H:List Grp) (hX:P2 W0):Tri Tryz.prog 141 #[pt r,.string (bk w)] W0 ([(r,.cells #[.string (bk q.1),.int .i64 q.2] 97 (0,0))]::H) (fun v H'=>v=.string (bk (H3 w q).1)∧H'=rdX r (H3 w q).2::H):=by
 refine D4 27 Tryz.func141 ?_
 refine A1 (B9 (E':=[⟨0,[],pt r⟩,⟨1,[],.string (bk w)⟩]) [0] [0,1] (k:=A0 (A1 (A3 (A4 (j:=3) [0,0,0] (k:=C4 0 0 rfl rfl (A4 (j:=5) [0] (k:=E0 Tryz.func150 (cutW w q.1 (by omega) _ _ hX) ?_))))))))
 rintro _ _ ⟨⟨hI,rfl⟩ | ⟨i,hI,rfl⟩,rfl⟩
 ·
  refine A8 [0,0,0,0,0,0,0] [0,5,6,7] (k:=A0 (A1 (A1 (G_p [0,0] [0,5,6,19] (k:=A0 (C7 kr (A1 (A3 ?_))))))))
  refine A4 (j:=1) [0] (k:=E0 Tryz.func64 (M7 r q 70 _ _) ?_)
  rintro _ _ rfl
  refine B4 (E':=[]) [] [] (k:=A0 (A1 (B9 (E':=[⟨4,[],.string eB⟩]) [0] [4] (k:=A0 (B8 (A5 (B7 [.tmp 4] [.string eB] (k:=?_))))))))
  exact ⟨by rw [until_none hI]; try rfl,by rw [until_none hI]; try rfl⟩
 ·
  refine A8 [0,0,0,0,0,0,0] [0,5,6,7] (k:=A0 (A1 (A1 (G_p [0,0] [0,5,6,19] (k:=A0 (C9 kr (A9 (A0 ?_))))))))
  refine A1 (A3 (A4 (j:=4) [0,0,0,0] (k:=E4 0 0 (.string (bk (q.1.drop (i+w.length)))) rfl (B4 (E':=[⟨5,[],.string (bk (q.1.take i))⟩]) [] [5] (k:=A0 (A1 (B9 (E':=[⟨4,[],.string (bk (q.1.take i))⟩]) [0,0] [4] (k:=A0 ?_))))))))
  refine B8 (B7 [.tmp 4] [.string (bk (q.1.take i))] (k:=?_))
  exact ⟨by rw [until_some hI]; try rfl,by rw [until_some hI]; try rfl⟩
theorem xlen_ (l:List UInt8) (hl:l.length≤1000000000000) (W0:World) (H:List Grp):Tri Tryz.prog 116 #[.string (bk l)] W0 H (fun v H'=>v=.int .i64 (nmX l:Int)∧H'=H):=by
 have hbz:=C8 l
 refine D4 63 Tryz.func116 ?_
 refine A1 (B9 (E':=[⟨0,[],.string (bk l)⟩]) [0] [0] (k:=A0 (A1 (A1 (G_p [0,0,0] [0,7,8] (k:=A0 (B2 (I3 (EI:=(fun ξ:Nat=>[⟨0,[],.string (bk l)⟩,⟨7,[],.int .i64 ((bk l).size:Int)⟩,⟨8,[],.int .i64 ((ξ:Nat):Int)⟩])) (HI:=(fun ξ:Nat=>H)) (Φ:=(fun ξ:Nat=>(ξ≤l.length)∧(NmAt l ξ))) (μ:=(fun ξ:Nat=>l.length - ξ)) (s0:=(0)) [0,7,8] kr rfl ⟨(Nat.zero_le _),(.inl rfl)⟩ ?_))))))))
 rintro i ⟨hi,hN⟩
 try dsimp only at hi hN
 refine A1 (G_p [0] [0,7,8,9] (k:=A0 (A1 (B0 (b:=decide (((i:Nat):Int)<((bk l).size:Int))) kr (fun hc1=>?_) (fun hc1=>?_)))))
 ·
  have h0:=hc1; simp only [decide_eq_true_eq] at h0
  refine A9 (A0 (A1 (B2 (A1 (G_p [0,0] [0,3,7,8] (k:=A0 (A1 (A3 ?_))))))))
  refine A4 (j:=2) [0,0] (k:=I9 (bk l) ((i:Nat):Int) (fun _=>by omega) ?_)
  have hb2:=G6 (bk l) ((i:Nat):Int)
  refine A8 [0] [0,3,4,7,8] (k:=A0 (A1 (G_p [0,0,0,0,0,6,0,0,0,0,0,0,6,5,0,0,0,5,0,0,0,5,0] [0,3,4,5,7,8] (k:=A0 (A1 (G_p [0,0,0,0,0,0,0,0,0,0,0,6,0,0,0,5,0,0,0,5,0,5,6] [0,3,7,8,58] (k:=A0 (B0 (b:=(!(((((decide ((B1 (bk l) ((i:Nat):Int)) ≥ 97))&&(decide ((B1 (bk l) ((i:Nat):Int))≤122)))||((decide ((B1 (bk l) ((i:Nat):Int)) ≥ 65))&&(decide ((B1 (bk l) ((i:Nat):Int))≤90))))||((B1 (bk l) ((i:Nat):Int))==95))||(decide ((B1 (bk l) ((i:Nat):Int)) ≥ 128))))&&((((i:Nat):Int)==0)||(!((((decide ((B1 (bk l) ((i:Nat):Int)) ≥ 48))&&(decide ((B1 (bk l) ((i:Nat):Int))≤57)))||((B1 (bk l) ((i:Nat):Int))==45))||((B1 (bk l) ((i:Nat):Int))==46))))) kr (fun hc3=>?_) (fun hc3=>?_)))))))))
  ·
   simp only [Bool.and_eq_true,Bool.and_eq_false_iff,Bool.or_eq_true,Bool.or_eq_false_iff,Bool.not_eq_true',decide_eq_false_iff_not,beq_iff_eq,beq_eq_false_iff_ne,ne_eq,ge_iff_le,byteJ] at hc3
   have h1:=hc3
   refine A1 (B9 (E':=[⟨2,[],.int .i64 ((i:Nat):Int)⟩]) [0,0] [2] (k:=A0 (B8 (B3 (A5 (A5 (B3 (A5 ?_))))))))
   refine B7 [.tmp 2] [.int .i64 ((i:Nat):Int)] (k:=?_)
   exact ⟨congrArg (fun n:Nat=>Value.int .i64 (n:Int)) (nm_stop hN (by omega) (by rw [← Bool.not_eq_true,fst_iff]; omega) (by rcases h1.2 with h | h; exact .inl (by omega); exact .inr (by rw [← Bool.not_eq_true,nxt_iff,fst_iff]; omega))).symm,rfl⟩
  ·
   simp only [Bool.and_eq_true,Bool.and_eq_false_iff,Bool.or_eq_true,Bool.or_eq_false_iff,Bool.not_eq_false',decide_eq_true_eq,beq_iff_eq,beq_eq_false_iff_ne,ne_eq,ge_iff_le,byteJ] at hc3
   have h1:=hc3
   refine A9 (B6 (A0 (A3 (A4 (j:=1) [0] (k:=D0 60 (((i:Nat):Int)+1) (by omega) (by omega) kr (B4 (E':=[⟨0,[],.string (bk l)⟩,⟨7,[],.int .i64 ((bk l).size:Int)⟩,⟨8,[],.int .i64 (((i:Nat):Int)+1)⟩]) [0] [0,7,8] (k:=D2 (s':=(i+1)) [0,7,8] kr rfl ⟨(by omega),(nm_step hN (by omega) (by rcases h1 with h1 | h1; exact .inl ((fst_iff _).2 (by omega)); exact .inr ⟨by omega,(nxt_iff _).2 (.inr (by omega))⟩))⟩ (by omega))))))))
 ·
  have h0:=hc1; simp only [decide_eq_false_iff_not] at h0
  refine E3 (A6 (A6 (B5 (A0 (A1 (B9 (E':=[⟨2,[],.int .i64 ((bk l).size:Int)⟩]) [0,0,0] [2] (k:=A0 (B8 ?_))))))))
  refine B7 [.tmp 2] [.int .i64 ((bk l).size:Int)] (k:=?_)
  exact ⟨congrArg (Value.int .i64) (by rw [nm_end hN (by omega) hi,C8]),rfl⟩
theorem xname_ (r:Nat) (q:XS) (hl:q.1.length≤1000000) (W0:World) (H:List Grp):Tri Tryz.prog 142 #[pt r] W0 ([(r,.cells #[.string (bk q.1),.int .i64 q.2] 97 (0,0))]::H) (fun v H'=>v=.string (bk (K9 q).1)∧H'=rdX r (K9 q).2::H):=by
 have hbz:=C8 q.1
 have hnl:=nm_le q.1
 refine D4 30 Tryz.func142 ?_
 refine A1 (B9 (E':=[⟨0,[],pt r⟩]) [0] [0] (k:=A0 (A1 (A3 (A4 (j:=3) [0,0,0] (k:=C4 0 0 rfl rfl (F8 Tryz.func116 (xlen_ q.1 (by omega) _ _) (A8 [0] [0,3] (k:=?_)))))))))
 refine A0 (A1 (A1 (G_p [0,0] [0,3,11] (k:=A0 (B0 (b:=(nmX q.1:Int)==0) kr (fun hc1=>?_) (fun hc1=>?_))))))
 ·
  have hn:nmX q.1=0:=by have:=hc1; simp only [beq_iff_eq] at this; omega
  refine A3 (A4 (j:=1) [0] (k:=E0 Tryz.func64 (M7 r q 70 _ _) ?_))
  rintro _ _ rfl
  refine A8 [] [0,3] (k:=A0 (A1 (A3 (A4 (j:=3) [0,0,0] (k:=C4 0 0 rfl rfl (A4 (j:=5) [0] (k:=O2 (bk (F0 70 q).1) 0 (nmX q.1:Int) (fun _=>by omega) (F6 19 (x:=.string ((bk (F0 70 q).1).extract 0 (Int.toNat (nmX q.1:Int)))) (y:=.string (bk (q.1.take (nmX q.1)))) (by rw [toNat_ext]; try rfl) ?_))))))))
  refine A8 [0] [0,3,4] (k:=A0 (A1 (A3 (A4 (j:=4) [0,0,0,0] (k:=C4 0 0 rfl rfl (A4 (j:=6) [0] (k:=O2 (bk (F0 70 q).1) (nmX q.1:Int) ((bk (F0 70 q).1).size:Int) (fun _=>by omega) (F6 26 (x:=.string ((bk (F0 70 q).1).extract (Int.toNat (nmX q.1:Int)) (bk (F0 70 q).1).size)) (y:=.string (bk (q.1.drop (nmX q.1)))) (by rw [toNat_extD]; try rfl) ?_))))))))
  refine A4 (j:=9) [0,0] (k:=E4 0 0 (.string (bk (q.1.drop (nmX q.1)))) rfl (A8 [] [4] (k:=A0 (A1 (B9 (E':=[⟨2,[],.string (bk (q.1.take (nmX q.1)))⟩]) [0,0] [2] (k:=A0 (B8 (B7 [.tmp 2] [.string (bk (q.1.take (nmX q.1)))] (k:=?_)))))))))
  exact ⟨by rw [nameX_0 hn,hn]; try rfl,by rw [nameX_0 hn,hn]; try rfl⟩
 ·
  have hn:¬ nmX q.1=0:=by have:=hc1; simp only [beq_eq_false_iff_ne,ne_eq] at this; omega
  refine A9 (A0 (A1 (A3 (A4 (j:=3) [0,0,0] (k:=C4 0 0 rfl rfl (A4 (j:=5) [0] (k:=O2 (bk q.1) 0 (nmX q.1:Int) (fun _=>by omega) (F6 19 (x:=.string ((bk q.1).extract 0 (Int.toNat (nmX q.1:Int)))) (y:=.string (bk (q.1.take (nmX q.1)))) (by rw [toNat_ext]; try rfl) ?_))))))))
  refine A8 [0] [0,3,4] (k:=A0 (A1 (A3 (A4 (j:=4) [0,0,0,0] (k:=C4 0 0 rfl rfl (A4 (j:=6) [0] (k:=O2 (bk q.1) (nmX q.1:Int) ((bk q.1).size:Int) (fun _=>by omega) (F6 26 (x:=.string ((bk q.1).extract (Int.toNat (nmX q.1:Int)) (bk q.1).size)) (y:=.string (bk (q.1.drop (nmX q.1)))) (by rw [toNat_extD]; try rfl) ?_))))))))
  refine A4 (j:=9) [0,0] (k:=E4 0 0 (.string (bk (q.1.drop (nmX q.1)))) rfl (A8 [] [4] (k:=A0 (A1 (G_p [0,0] [2] (k:=A0 (B8 (B7 [.tmp 2] [.string (bk (q.1.take (nmX q.1)))] (k:=?_)))))))))
  exact ⟨by rw [nameX_s hn]; try rfl,by rw [nameX_s hn]; try rfl⟩
theorem xqual_ (r:Nat) (q:XS) (hl:q.1.length≤1000000) (W0:World) (H:List Grp):Tri Tryz.prog 103 #[pt r] W0 ([(r,.cells #[.string (bk q.1),.int .i64 q.2] 97 (0,0))]::H) (fun v H'=>v=.tuple #[.string (bk (A7 q).1.pre),.string (bk (A7 q).1.name),.bool (A7 q).1.has]∧H'=rdX r (A7 q).2::H):=by
 have hn1:=name_le q
 refine D4 15 Tryz.func103 ?_
 refine A1 (B9 (E':=[⟨0,[],pt r⟩]) [0,0,0] [0] (k:=A0 (A1 (A3 (A4 (j:=1) [0] (k:=E0 (vs:=[pt r]) Tryz.func142 (xname_ r q (by first | omega | (show (List.drop 1 _).length≤_; rw [List.length_drop]; omega)) _ _) ?_))))))
 rintro _ _ ⟨rfl,rfl⟩
 refine A8 [0] [0,5] (k:=A0 (A1 (A1 (A3 (A4 (j:=1) [0] (k:=E0 Tryz.func102 (xtake_ r ((K9 q).2) [58] _ _) ?_))))))
 rintro _ _ (⟨hk1,rfl,rfl⟩ | ⟨hk1,rfl,rfl⟩)
 ·
  have hk1:[58].isPrefixOf ((K9 q).2).1=true:=hk1
  refine A8 [0] [0,5,10] (k:=A0 (C9 kr (A9 (A0 (A1 (A3 (A4 (j:=2) [0,0] (k:=E0 (vs:=[pt r]) Tryz.func142 (xname_ r (((K9 q).2).1.drop 1,((K9 q).2).2) (by first | omega | (show (List.drop 1 _).length≤_; rw [List.length_drop]; omega)) _ _) ?_))))))))
  rintro _ _ ⟨rfl,rfl⟩
  refine A8 [0,0,0] [2,3,4] (k:=A0 (B8 (B7 [.tmp 2,.tmp 3,.tmp 4] [.string (bk (K9 q).1),.string (bk (K9 (((K9 q).2).1.drop 1,((K9 q).2).2)).1),.bool true] (k:=?_))))
  exact ⟨by rw [qual_yes hk1]; try rfl,by rw [qual_yes hk1]; try rfl⟩
 ·
  have hk1:¬ [58].isPrefixOf ((K9 q).2).1=true:=hk1
  refine A8 [0] [0,5,10] (k:=A0 (C7 kr (A1 (G_p [0,0,0,0] [2,3,4] (k:=A0 (B8 (A5 (B7 [.tmp 2,.tmp 3,.tmp 4] [.string eB,.string (bk (K9 q).1),.bool false] (k:=?_)))))))))
  exact ⟨by rw [qual_no hk1]; try rfl,by rw [qual_no hk1]; try rfl⟩
theorem xaside_ (r:Nat) (q:XS) (hl:q.1.length≤1000000) (W0:World) (H:List Grp) (hX:P2 W0):Tri Tryz.prog 101 #[pt r] W0 ([(r,.cells #[.string (bk q.1),.int .i64 q.2] 97 (0,0))]::H) (fun v H'=>v=.bool (H6 q).1∧H'=rdX r (H6 q).2::H):=by
 refine D4 17 Tryz.func101 ?_
 refine A1 (B9 (E':=[⟨0,[],pt r⟩]) [0] [0] (k:=A0 (A1 (B2 (A1 (A3 (A4 (j:=1) [0] (k:=E0 Tryz.func102 (xtake_ r q [60,33,45,45] _ _) ?_))))))))
 rintro _ _ (⟨hk1,rfl,rfl⟩ | ⟨hk1,rfl,rfl⟩)
 ·
  have hk1:[60,33,45,45].isPrefixOf q.1=true:=hk1
  refine B4 (E':=[⟨0,[],pt r⟩,⟨3,[],.bool true⟩]) [0] [0,3] (k:=A0 (C7 kr (A1 (A3 (A4 (j:=1) [0] (k:=E0 (vs:=[pt r,.string (mB #[45,45])]) Tryz.func141 (xuntil_ r (q.1.drop 4,q.2) [45,45] (by first | (show (List.drop _ _).length≤_; rw [List.length_drop]; omega) | (have:=name_le (q.1.drop 2,q.2); dsimp only at this; rw [List.length_drop] at this; omega)) _ _ hX) ?_))))))
  rintro _ _ ⟨rfl,rfl⟩
  refine B4 (E':=[⟨0,[],pt r⟩]) [] [0] (k:=A0 (A3 (A4 (j:=1) [0] (k:=E0 Tryz.func62 (xmust_ r ((H3 [45,45] (q.1.drop 4,q.2)).2) [62] _ _) ?_))))
  rintro _ _ rfl
  refine B4 (E':=[]) [] [] (k:=B6 (A0 (A1 (B9 (E':=[⟨2,[],.bool true⟩]) [0] [2] (k:=A0 (B8 (B7 [.tmp 2] [.bool true] (k:=?_))))))))
  exact ⟨by rw [aside_1 hk1]; try rfl,by rw [aside_1 hk1]; try rfl⟩
 ·
  have hk1:¬ [60,33,45,45].isPrefixOf q.1=true:=hk1
  refine B4 (E':=[⟨0,[],pt r⟩,⟨3,[],.bool false⟩]) [0] [0,3] (k:=A0 (C9 kr (A1 (A3 (A4 (j:=1) [0] (k:=E0 Tryz.func102 (xtake_ r q [60,63] _ _) ?_))))))
  rintro _ _ (⟨hk2,rfl,rfl⟩ | ⟨hk2,rfl,rfl⟩)
  ·
   have hk2:[60,63].isPrefixOf q.1=true:=hk2
   refine B4 (E':=[⟨0,[],pt r⟩,⟨10,[],.bool true⟩]) [0] [0,10] (k:=A0 (C7 kr (A1 (A3 (A4 (j:=1) [0] (k:=E0 (vs:=[pt r]) Tryz.func142 (xname_ r (q.1.drop 2,q.2) (by first | (show (List.drop _ _).length≤_; rw [List.length_drop]; omega) | (have:=name_le (q.1.drop 2,q.2); dsimp only at this; rw [List.length_drop] at this; omega)) _ _) ?_))))))
   rintro _ _ ⟨rfl,rfl⟩
   refine B4 (E':=[⟨0,[],pt r⟩]) [] [0] (k:=A0 (A3 (A4 (j:=1) [0] (k:=E0 (vs:=[pt r,.string (mB #[63,62])]) Tryz.func141 (xuntil_ r ((K9 (q.1.drop 2,q.2)).2) [63,62] (by first | (show (List.drop _ _).length≤_; rw [List.length_drop]; omega) | (have:=name_le (q.1.drop 2,q.2); dsimp only at this; rw [List.length_drop] at this; omega)) _ _ hX) ?_))))
   rintro _ _ ⟨rfl,rfl⟩
   refine B4 (E':=[]) [] [] (k:=B6 (A0 (A1 (B9 (E':=[⟨2,[],.bool true⟩]) [0] [2] (k:=A0 (B8 (B7 [.tmp 2] [.bool true] (k:=?_))))))))
   exact ⟨by rw [aside_2 hk1 hk2]; try rfl,by rw [aside_2 hk1 hk2]; try rfl⟩
  ·
   have hk2:¬ [60,63].isPrefixOf q.1=true:=hk2
   refine B4 (E':=[⟨0,[],pt r⟩,⟨10,[],.bool false⟩]) [0] [0,10] (k:=A0 (C9 kr (A1 (B9 (E':=[⟨2,[],.bool false⟩]) [0] [2] (k:=A0 (B8 (B3 (A5 ?_))))))))
   refine B7 [.tmp 2] [.bool false] (k:=?_)
   exact ⟨by rw [aside_3 hk1 hk2]; try rfl,by rw [aside_3 hk1 hk2]; try rfl⟩
theorem xaround_ (r:Nat) (q:XS) (hl:q.1.length≤1000000) (W0:World) (H:List Grp) (hX:P2 W0):Tri Tryz.prog 61 #[pt r] W0 ([(r,.cells #[.string (bk q.1),.int .i64 q.2] 97 (0,0))]::H) (fun _ H'=>H'=rdX r (C3 (q.1.length+1) q)::H):=by
 refine D4 15 Tryz.func61 ?_
 refine B2 (I3 (EI:=(fun ξ:Nat × XS=>[⟨0,[],pt r⟩])) (HI:=(fun ξ:Nat × XS=>([(r,.cells #[.string (bk ξ.2.1),.int .i64 ξ.2.2] 97 (0,0))]::H))) (Φ:=(fun ξ:Nat × XS=>(C3 (q.1.length+1) q=C3 ξ.1 ξ.2)∧(ξ.2.2=0→ξ.2.1.length<ξ.1)∧(ξ.2.1.length≤1000000))) (μ:=(fun ξ:Nat × XS=>ξ.1)) (s0:=((q.1.length+1),q)) [0] kr rfl ⟨rfl,(fun _=>Nat.lt_succ_self _),hl⟩ ?_)
 rintro ⟨n,q2⟩ ⟨hT,hn,hl2⟩
 dsimp only at hT hn hl2
 refine A1 (A1 ?_)
 by_cases hq0:q2.2=0
 ·
  have hnq:=hn hq0
  obtain ⟨m,rfl⟩:∃ m,n=m+1:=⟨n - 1,by omega⟩
  have hbl:=X7 q2.1
  refine A3 (A4 (j:=3) [0,0,0] (k:=C4 0 1 rfl rfl (A4 (j:=5) [0] (k:=F6 6 (x:=.bool (q2.2==0)) (y:=.bool true) (by rw [show (q2.2==0)=true by simpa using hq0]) (A4 (j:=7) [0,0] (k:=Z2 (ch:=[(7,true)]) (f:=100) (fst:=#[]) (caps:=#[]) (vs:=[pt r]) (hf:=Tryz.func100) (hsure:=Q0 kr) (hc:=xskip2_ r q2 _ _) (k:=?_)))))))
  rintro _ _ (⟨hs1,rfl,rfl⟩ | ⟨hs1,rfl,rfl⟩)
  ·
   have hsk:(blk q2.1).length<q2.1.length:=hs1
   refine B4 (E':=[⟨0,[],pt r⟩,⟨14,[],.bool true⟩]) [0,1,1,2,2] [0,14] (k:=A0 (C7 kr (A9 (A0 (B2 (A9 (B6 (D2 (s':=(m,(blk q2.1,q2.2))) [0] kr rfl ⟨(by dsimp only; exact hT.trans (by first | exact around_skip hq0 hsk | exact around_aside hq0 hsk has)),(by dsimp only; intro _; have:=hn hq0; first | omega | (have:=aside_lt has; dsimp only at this; omega)),(by dsimp only; first | omega | (have:=Z0 (blk q2.1,q2.2); dsimp only at this; omega))⟩ (by dsimp only; omega)))))))))
  ·
   have hsk:¬ (blk q2.1).length<q2.1.length:=hs1
   refine A4 (j:=10) [0,0] (k:=Z2 (ch:=[(10,false),(7,true)]) (f:=101) (fst:=#[]) (caps:=#[]) (vs:=[pt r]) (hf:=Tryz.func101) (hsure:=Q0 kr) (hc:=xaside_ r (blk q2.1,q2.2) (by have:=X7 q2.1; show (blk q2.1).length≤_; omega) _ _ hX) (k:=?_))
   rintro _ _ ⟨rfl,rfl⟩
   refine A8 [3,2] [0,14] (k:=A0 (B0 (b:=(H6 (blk q2.1,q2.2)).1) kr (fun hc2=>?_) (fun hc2=>?_)))
   ·
    have has:(H6 (blk q2.1,q2.2)).1=true:=hc2
    refine A9 (A0 (B2 (A9 (B6 (D2 (s':=(m,(H6 (blk q2.1,q2.2)).2)) [0] kr rfl ⟨(by dsimp only; exact hT.trans (by first | exact around_skip hq0 hsk | exact around_aside hq0 hsk has)),(by dsimp only; intro _; have:=hn hq0; first | omega | (have:=aside_lt has; dsimp only at this; omega)),(by dsimp only; first | omega | (have:=Z0 (blk q2.1,q2.2); dsimp only at this; omega))⟩ (by dsimp only; omega))))))
   ·
    have has:¬ (H6 (blk q2.1,q2.2)).1=true:=by rw [hc2]; exact Bool.false_ne_true
    refine E3 (A6 (A6 (B5 (B7 [] [] (k:=?_)))))
    exact (by rw [hT,around_end hq0 hsk has]; try rfl)
 ·
  refine A3 (A4 (j:=3) [0,0,0] (k:=C4 0 1 rfl rfl (A4 (j:=5) [0] (k:=F6 6 (x:=.bool (q2.2==0)) (y:=.bool false) (by rw [show (q2.2==0)=false by simpa using hq0]) (B4 (E':=[⟨0,[],pt r⟩,⟨14,[],.bool false⟩]) [0,1,1,1,1,1,1,3] [0,14] (k:=A0 (C9 kr (E3 ?_))))))))
  refine A6 (A6 (B5 (B7 [] [] (k:=?_))))
  exact (by rw [hT,around_ne hq0]; try rfl)
end Go.Proofs.YtppgfiklmfoaeaaGreatDoor
namespace Go.Proofs
open Go.Shelf
def Tryz.laysValid_ren:Go.Shelf.Ren:=⟨fun | 196=>97 | 259=>140 | n=>n,fun | 9=>9 | 4=>4 | 3=>3 | 5=>5 | 12=>12 | 119=>173 | 0=>0 | 46=>37 | 139=>176 | 138=>175 | 53=>194 | n=>n,fun | 3=>0 | 4=>1 | n=>n⟩
theorem Tryz.laysValid:Go.Proofs.Lays.n196 Tryz.prog Tryz.laysValid_ren:={
  mixed:=by kernel_rfl
  f196:=Tryz.func97.trans (congrArg some (by kernel_rfl))
  f259:=Tryz.func140.trans (congrArg some (by kernel_rfl))
  t0:=Tryz.underlying0
  a0:=Tryz.isAgg0
  z0:=Tryz.sizeOf0
  v0:=Tryz.zeroValue0
  t3:=Tryz.underlying3
  a3:=Tryz.isAgg3
  z3:=Tryz.sizeOf3
  v3:=Tryz.zeroValue3
  t4:=Tryz.underlying4
  a4:=Tryz.isAgg4
  z4:=Tryz.sizeOf4
  v4:=Tryz.zeroValue4
  t5:=Tryz.underlying5
  a5:=Tryz.isAgg5
  z5:=Tryz.sizeOf5
  v5:=Tryz.zeroValue5
  t9:=Tryz.underlying9
  a9:=Tryz.isAgg9
  z9:=Tryz.sizeOf9
  v9:=Tryz.zeroValue9
  t12:=Tryz.underlying12
  a12:=Tryz.isAgg12
  z12:=Tryz.sizeOf12
  v12:=Tryz.zeroValue12
  t46:=Tryz.underlying37
  a46:=Tryz.isAgg37
  z46:=Tryz.sizeOf37
  v46:=Tryz.zeroValue37
  t53:=Tryz.underlying194
  a53:=Tryz.isAgg194
  z53:=Tryz.sizeOf194
  v53:=Tryz.zeroValue194
  t119:=Tryz.underlying173
  a119:=Tryz.isAgg173
  z119:=Tryz.sizeOf173
  t138:=Tryz.underlying175
  a138:=Tryz.isAgg175
  z138:=Tryz.sizeOf175
  v138:=Tryz.zeroValue175
  t139:=Tryz.underlying176
  a139:=Tryz.isAgg176
  z139:=Tryz.sizeOf176
  v139:=Tryz.zeroValue176
  g3:=by kernel_rfl
  g4:=by kernel_rfl }
end Go.Proofs
namespace Go.Proofs.YtppgfiklmfoaeaaGreatDoor
open Go.Sw Go.Esc Go.RowKit
theorem cell_lt {w:World} {b off:Nat} {v:Value} (h:w.cell? ⟨b,off,none⟩=some v):b<w.heap.size:=by
  rcases Nat.lt_or_ge b w.heap.size with h' | h'
  · exact h'
  · unfold World.cell? at h
    simp only [Array.getElem?_eq_none h'] at h
    cases h
theorem tabs_sat {W0:World} {H:List Grp} {w:World} {g3 g4:Nat} (h:Lib.Utf8Tabs g3 g4 W0) (hs:Sat W0 H w):Lib.Utf8Tabs g3 g4 w:=by
  have c:∀ {b off:Nat} {v:Value},W0.cell? ⟨b,off,none⟩=some v→w.cell? ⟨b,off,none⟩=some v:=fun h=>cell_base hs (cell_lt h) h
  exact ⟨fun q hq=>c (h.1 q hq),fun i hi=>⟨c (h.2 i hi).1,c (h.2 i hi).2⟩⟩
theorem validStr (s:ByteArray) (hs:s.size≤1000000000000) (W0:World) (H:List Grp) (hW:T0 W0):Tri Tryz.prog 97 #[.string s] W0 H (fun v H'=>v=.bool (K8 s.data.toList)∧H'=H):=by
  rw [validP_D]
  exact Tri_below (fun w hw=>Any.utf8_ValidString Tryz.laysValid s w (by omega) (tabs_sat hW.utf hw))
end Go.Proofs.YtppgfiklmfoaeaaGreatDoor
namespace Go.Proofs.YtppgfiklmfoaeaaGreatDoor
open Go Go.ChangeShapes Go.WideShapes Go.ChangeAt Go.RowKit Go.Sw Go.Lib Go.Shelf Go.Proofs
theorem frozen_below {W W':World} (h:Below W.heap.size W W') {a:Addr} (ha:a.block<W.heap.size):W'.frozen? a=W.frozen? a:=by
  unfold World.frozen?
  rw [h.block _ ha]
theorem post_below {H:Type} {enc:TypeId × Value→H} {P:Program} {f:Func} {s:ChangeSpec} {apart fresh handsOn again:Bool} {W W':World} {args:Array Value} {v:Value} {ds gs:List (DataW H)} {before pa pv:List MemPlace}
    (hW:DataW.Whole enc P f.params.toList s.vars apart W args.toList ds gs before)
    (hres:∀ (b:Nat) (sp:Nat→Bool) (hd:Bool),DataW.TrodAll enc P W' b sp hd f.resultTypes.toList (v.resultList f.resultTypes.size) (s.fn H (ds++gs)).results [])
    (hargs:∀ sp:Nat→Bool,(∀ p∈before,sp p.block=true)→DataW.TrodAll enc P W' 0 sp true f.params.toList args.toList (s.fn H (ds++gs)).args pa)
    (hvars:∀ sp:Nat→Bool,(∀ p∈before,sp p.block=true)→DataW.TrodVars enc P W' sp s.vars (s.fn H (ds++gs)).vars pv)
    (hps:before=pa++pv) (hb:Below W.heap.size W W')
    (hok:∀ (j:Nat) (t:TypeId) (r:Value),f.resultTypes[j]? = some t→(v.resultList f.resultTypes.size)[j]? = some r→Value.okWide P W' .any 0 t r) :
    s.post enc P f apart fresh handsOn again W args v W':=by
  have hold:∀ p∈before,(fun b=>decide (b<W.heap.size)) p.block=true:=fun p hp=>by simpa using hW.lt p hp
  have hlt:=hW.lt
  refine ⟨ds,gs,before,[],pa,pv,hW,hres _ _ _,hargs _ hold,hvars _ hold,hb.frame _,fun _=>?_⟩
  obtain ⟨_,_,_,_,_,hz,hn⟩:=hW
  refine ⟨hok,_,_,([]++pa)++pv,⟨[]++pa,pv,trodAll_append (hargs _ (fun _ _=>rfl)) (hres _ _ _),hvars _ (fun _ _=>rfl),rfl,?_,?_⟩,?_⟩
  · intro b off hp
    have hp':MemPlace.cell b off∈before:=by rw [hps]; simpa using hp
    rw [frozen_below hb (hlt _ hp')]
    exact hz b off hp'
  · intro ha
    have:=hn ha
    rw [hps] at this
    simpa using this
  · intro p hp _
    rw [hps]
    simpa using hp
theorem R6 {P:Program} {x:String × DataW Unit} {r:List (String × DataW Unit)} {W:World} (h:laidMet P (x::r) W):laidMet P r W:=by
  obtain ⟨ps,⟨g,t,cs,fuel,p,q,_,_,_,_,h5,h6⟩,hn,hc⟩:=h
  subst h6
  exact ⟨q,h5,(List.nodup_append.1 hn).2.1,fun b off hm=>hc b off (List.mem_append_right _ hm)⟩
theorem sat_nil (W:World):Sat W [] W:=⟨Below.refl _ _,by simp,by simp,by simp⟩
theorem eStar : "*" ++ "errors.errorString" = "*errors.errorString" := by decide
theorem eRow (u : TypeId) (h : Tryz.prog.typeName? 3 u = some "*errors.errorString") : u = 292 :=
  typeName_ptr_named (nm := "errors.errorString") (by rw [eStar]; kernel_rfl) (by kernel_rfl) (by decide) u (by rw [eStar]; exact h)
theorem eGlob : Tryz.prog.globalNamed "strconv.ErrSyntax" = some 4 := by kernel_rfl
theorem eU8:U8Extra Tryz.prog Tryz.laysValid_ren:={ n3:=by kernel_rfl,n4:=by kernel_rfl,y3:=by kernel_rfl,y4:=by kernel_rfl,c5:=by kernel_rfl,c119:=by kernel_rfl,c138:=by kernel_rfl }
def de64:List Int:=[0,1,56,2,57,49,28,3,61,58,42,50,38,29,17,4,62,47,59,36,45,43,51,22,53,39,33,30,24,18,12,5,63,55,48,27,60,41,37,16,46,35,44,21,52,32,23,11,54,26,40,15,34,20,31,10,25,14,19,9,13,8,7,6]
theorem eTz : Tryz.prog.globalNamed "math/bits.deBruijn64tab" = some 7 := by kernel_rfl
theorem base_of {W : World} (h : laidMet Tryz.prog [("math/bits.deBruijn32tab", Rows.laid_math_bits_deBruijn32tab), ("math/bits.deBruijn64tab", Rows.laid_math_bits_deBruijn64tab), ("internal/strconv.uint64pow10", Rows.laid_internal_strconv_uint64pow10), ("unicode/utf8.acceptRanges", Rows.laid_unicode_utf8_acceptRanges), ("strconv.ErrRange", Rows.laid_strconv_ErrRange), ("strconv.ErrSyntax", Rows.laid_strconv_ErrSyntax), ("unicode/utf8.first", Rows.laid_unicode_utf8_first)] W) : T0 W := by
  have h2:=R6 h
  have h6:=R6 (R6 (R6 (R6 h2)))
  refine ⟨?_,?_,?_⟩
  · obtain ⟨a0,s0,hv0,-,-,-⟩:=laid_sentinel h6 eGlob (ti:=120) (tp:=292) (te:=294) (ts:=9) (by kernel_rfl) Tryz.underlying120 eRow Tryz.underlying292 Tryz.underlying294 rfl rfl Tryz.underlying9 (by kernel_rfl) (by kernel_rfl)
    have hc:W.cell? ⟨4,0,none⟩=some (.iface 292 (.pointer (some a0))):=by
      have h0:=World.var?_cell eGlob hv0 0; simpa using h0
    exact ⟨_,cell_lt hc,hc,.inr ⟨_,_,rfl⟩⟩
  · have hT : Lib.TabIs Tryz.prog W "math/bits.deBruijn64tab" .u8 de64 := by
      rw [show Rows.laid_math_bits_deBruijn64tab=Lib.tabData .u8 de64 from by kernel_rfl] at h2
      exact Lib.tabIs_of_head (t:=289) (e:=5) (n:=64) eTz (by kernel_rfl) (by kernel_rfl) (by kernel_rfl) (by kernel_rfl) (by kernel_rfl) h2
    unfold Lib.TabIs World.var? at hT
    rw [eTz] at hT
    simp only [Option.bind_some] at hT
    cases hb:W.heap[7]? with
    | none=>rw [hb] at hT; cases hT
    | some ob =>
      rw [hb] at hT
      cases ob with
      | cells c e fz =>
        have hlt:7<W.heap.size:=(Array.getElem?_eq_some_iff.1 hb).1
        simp only [Option.some.injEq] at hT
        subst hT
        exact ⟨_,_,_,hlt,rfl,by rfl⟩
      | _=>cases hT
  · have h3 := laidMet.reads h (n := "unicode/utf8.first") (d := Rows.laid_unicode_utf8_first) (by simp)
    have h4 := laidMet.reads h (n := "unicode/utf8.acceptRanges") (d := Rows.laid_unicode_utf8_acceptRanges) (by simp)
    rw [show Rows.laid_unicode_utf8_first=Lib.firstData from by kernel_rfl] at h3
    rw [show Rows.laid_unicode_utf8_acceptRanges=Lib.acceptData from by kernel_rfl] at h4
    exact utf8Tabs_of_readsT (U8Types.of196 Tryz.laysValid) eU8 h3 h4
end Go.Proofs.YtppgfiklmfoaeaaGreatDoor
namespace Go.Json
open Go.Sw Go.Esc
def strV (ns:List (List UInt8)):List Value:=ns.map fun n=>.string (bk n)
theorem strV_len (a:List (List UInt8)):(strV a).length=a.length:=List.length_map _
theorem strV_at {a:List (List UInt8)} {k:Nat} (h:k<a.length):(strV a)[k]? = some (.string (bk a[k])):=by
  unfold strV; rw [List.getElem?_map,List.getElem?_eq_getElem h]; rfl
theorem rd_mono {S S':Nat→Obj→Prop} {a:Option Addr} {cs:List Value} (h:Rd S a cs) (hs:∀ b o,S b o→S' b o):Rd S' a cs:=by
  unfold Rd at h ⊢
  rcases h with h | ⟨b,off,c,t,z,h1,h2,h3⟩
  · exact .inl h
  · exact .inr ⟨b,off,c,t,z,h1,hs _ _ h2,h3⟩
mutual
inductive JRd (S:Nat→Obj→Prop):JV→List Value→Prop
  | mk {k:Int} {t:List UInt8} {ns:List (List UInt8)} {l:List JV} {an al:Option Addr} {cn cl:Nat} {cs:List Value}:Rd S an (strV ns)→Rd S al cs→JRdL S l cs→JRd S (.mk k t ns l) [.int .i64 k,.string (bk t),.slice an ns.length cn,.slice al l.length cl]
inductive JRdL (S:Nat→Obj→Prop):List JV→List Value→Prop
  | nil:JRdL S [] []
  | cons {v:JV} {l:List JV} {c cs:List Value}:JRd S v c→JRdL S l cs→JRdL S (v::l) (c++cs)
end
mutual
/-- owned: one group for all of it -/
inductive JRep (ts tj:TypeId):JV→List Value→Grp→Prop
  | mk {k:Int} {t:List UInt8} {ns:List (List UInt8)} {l:List JV} {an al:Option Addr} {cn cl:Nat} {cs:List Value} {gn gl gs:Grp}:Own ts 1 (.slice an ns.length cn) gn ns.length (strV ns)→Own tj 4 (.slice al l.length cl) gl l.length cs→JRepL ts tj l cs gs→JRep ts tj (.mk k t ns l) [.int .i64 k,.string (bk t),.slice an ns.length cn,.slice al l.length cl] (gn++(gl++gs))
inductive JRepL (ts tj:TypeId):List JV→List Value→Grp→Prop
  | nil:JRepL ts tj [] [] []
  | cons {v:JV} {l:List JV} {c cs:List Value} {g gs:Grp}:JRep ts tj v c g→JRepL ts tj l cs gs→JRepL ts tj (v::l) (c++cs) (g++gs)
end
theorem JRd.len {S:Nat→Obj→Prop} {v:JV} {c:List Value} (h:JRd S v c):c.length=4:=by cases h; rfl
theorem JRdL.len {S:Nat→Obj→Prop}:∀ {l:List JV} {cs:List Value},JRdL S l cs→cs.length=l.length * 4
  | [],_,h=>by cases h; rfl
  | v::l,_,h=>by
    cases h with
    | cons h1 h2=>rw [List.length_append,h1.len,h2.len,List.length_cons]; omega
theorem JRdL.at {S:Nat→Obj→Prop}:∀ {l:List JV} {cs:List Value} {i:Nat} (hi:i<l.length),JRdL S l cs→JRd S l[i] ((cs.drop (i * 4)).take 4)
  | [],_,_,hi,_=>absurd hi (Nat.not_lt_zero _)
  | v::l,_,0,_,h=>by
    cases h with
    | cons h1 h2 =>
      rw [Nat.zero_mul,List.drop_zero,List.take_append_of_le_length (by rw [h1.len]; exact Nat.le_refl _),List.take_of_length_le (by rw [h1.len]; exact Nat.le_refl _)]; exact h1
  | v::l,_,i+1,hi,h=>by
    cases h with
    | cons h1 h2 =>
      rename_i c cs
      have e:(c++cs).drop ((i+1) * 4)=cs.drop (i * 4):=by
        rw [List.drop_append,List.drop_eq_nil_of_le (by rw [h1.len]; omega),h1.len,List.nil_append,show (i+1) * 4 - 4=i * 4 by omega]
      rw [e]; exact JRdL.at (l:=l) (by simpa using hi) h2
theorem JRep.nul {ts tj:TypeId}:JRep ts tj nul [.int .i64 0,.string (bk []),.slice none 0 0,.slice none 0 0] []:=.mk (ns:=[]) (l:=[]) Own.nil Own.nil .nil
theorem JRepL.snoc {ts tj:TypeId}:∀ {l:List JV} {cs:List Value} {gs:Grp} {v:JV} {c:List Value} {g:Grp},JRepL ts tj l cs gs→JRep ts tj v c g→JRepL ts tj (l++[v]) (cs++c) (gs++g)
  | [],_,_,v,c,g,h,hv=>by
    cases h
    have:=JRepL.cons hv .nil
    rw [List.append_nil,List.append_nil] at this
    exact this
  | x::l,_,_,v,c,g,h,hv=>by
    cases h with
    | cons h1 h2 =>
      rw [List.cons_append,List.append_assoc,List.append_assoc]
      exact .cons h1 (JRepL.snoc h2 hv)
mutual
theorem JRep.rd {ts tj:TypeId} {S:Nat→Obj→Prop}:∀ {v:JV} {c:List Value} {g:Grp},JRep ts tj v c g→(∀ b o,inG g b o→S b o)→JRd S v c
  | .mk _ _ _ _,_,_,.mk h1 h2 h3,hs=>.mk (rd_mono (H7 h1) fun b o h=>hs b o (List.mem_append_left _ h)) (rd_mono (H7 h2) fun b o h=>hs b o (List.mem_append_right _ (List.mem_append_left _ h))) (JRepL.rd h3 fun b o h=>hs b o (List.mem_append_right _ (List.mem_append_right _ h)))
theorem JRepL.rd {ts tj:TypeId} {S:Nat→Obj→Prop}:∀ {l:List JV} {cs:List Value} {g:Grp},JRepL ts tj l cs g→(∀ b o,inG g b o→S b o)→JRdL S l cs
  | [],_,_,.nil,_=>.nil
  | _::_,_,_,.cons h1 h2,hs=>.cons (JRep.rd h1 fun b o h=>hs b o (List.mem_append_left _ h)) (JRepL.rd h2 fun b o h=>hs b o (List.mem_append_right _ h))
end
end Go.Json
namespace Go.Proofs.YtppgfiklmfoaeaaGreatDoor
open Go Go.ChangeShapes Go.WideShapes Go.ChangeAt Go.RowKit Go.Sw Go.Sha Go.Esc
theorem laidOut_:laidOutB Tryz.prog=true:=by kernel_rfl
def SW (W:World) (y:Nat) (o:Obj):Prop:=y<W.heap.size∧W.heap[y]? = some o
theorem sw_at {W:World} {y:Nat} {o:Obj} (h:SW W y o):At W [] y o:=.inl h
theorem rd_cells {W:World} {a:Addr} {cs:List Value} (hn:cs≠[]) (h:∀ j u,cs[j]? = some u→W.cell? (a.add j)=some u):(∃ b off,a=⟨b,off,none⟩)∧Rd (SW W) (some a) cs:=by
  obtain ⟨b,off,sp⟩:=a
  cases cs with
  | nil=>exact absurd rfl hn
  | cons v r =>
    have h0:=h 0 v rfl
    unfold World.cell? at h0
    rw [show (Addr.add ⟨b,off,sp⟩ 0)=⟨b,off,sp⟩ from rfl] at h0
    cases hb:W.heap[b]? with
    | none=>rw [show (⟨b,off,sp⟩:Addr).block=b from rfl,hb] at h0; cases h0
    | some o =>
      rw [show (⟨b,off,sp⟩:Addr).block=b from rfl,hb] at h0
      cases o with
      | cells c e fz =>
        cases sp with
        | some s=>simp at h0
        | none =>
          refine ⟨⟨b,off,rfl⟩,.inr ⟨b,off,c,e,fz,rfl,⟨?_,hb⟩,fun j u hu=>?_⟩⟩
          · rcases Nat.lt_or_ge b W.heap.size with h | h
            · exact h
            · rw [Array.getElem?_eq_none h] at hb; cases hb
          · have hj:=h j u hu
            rw [N6] at hj
            unfold World.cell? at hj
            rw [show (⟨b,off+j,none⟩:Addr).block=b from rfl,hb] at hj
            simpa using hj
      | _=>cases h0
theorem wf_u8 {n:Int} (h:(Lit.int .u8 n).wf=true):0≤n∧n<256:=by
  simp [Lit.wf,IntKind.min,IntKind.max,IntKind.bits,IntKind.signed] at h
  omega
def bytesZ (zs:List Int):List UInt8:=zs.map fun z=>UInt8.ofNat z.toNat
theorem u8s_bytesZ {zs:List Int} (h:∀ n∈zs,0≤n∧n<256):u8s (bytesZ zs)=zs.map (Value.int .u8):=by
  unfold u8s bytesZ
  simp only [List.map_map]
  refine List.map_congr_left fun z hz=>?_
  obtain ⟨h0,h1⟩:=h z hz
  simp only [Function.comp]
  congr 1
  rw [UInt8.toNat_ofNat']
  omega
theorem bytesZ_len (zs:List Int):(bytesZ zs).length=zs.length:=List.length_map _
theorem cells_u8:Tryz.prog.cellsOf 5=1:=by kernel_rfl
set_option maxRecDepth 100000 in
theorem open_bytesL {H:Type} {enc:TypeId × Value→H} {W:World} {v:Value} {d:DataW H} {p:List MemPlace} {r:Reach} {b0:Nat} (hval:Value.okWide Tryz.prog W r b0 22 v) (h0:DataW.Trod enc Tryz.prog W 0 (fun _=>true) true 22 v d p) :
    ∃ (a:Option Addr) (c:Nat) (l:List UInt8),v=.slice a l.length c∧Rd (SW W) a (u8s l)∧l.length≤c:=by
  obtain ⟨a0,len,cap,rfl⟩:=okWide_slice Tryz.underlying22 hval
  obtain ⟨fuel,hf⟩:=h0
  rcases open_ints Tryz.underlying22 Tryz.underlying5 cells_u8 hf with ⟨hcs,hx⟩ | ⟨a,len',cap',zs,hcs,_,hl,hm,hz,hx,hcell,hwz⟩
  · have e:Value.slice a0 len cap=.slice none 0 0:=by simpa [Value.cells] using hcs
    exact ⟨none,0,[],e,.inl rfl,Nat.le_refl _⟩
  · have e:Value.slice a0 len cap=.slice (some a) len' cap':=by simpa [Value.cells] using hcs
    rw [e]
    simp only [if_true] at hz
    have hlen:(zs.take len').length=len':=by rw [List.length_take]; omega
    have hu:u8s (bytesZ (zs.take len'))=(zs.take len').map (Value.int .u8):=u8s_bytesZ fun n hn=>wf_u8 (hwz n (List.mem_of_mem_take hn))
    refine ⟨some a,cap',bytesZ (zs.take len'),by rw [bytesZ_len,hlen],?_,by rw [bytesZ_len,hlen]; omega⟩
    by_cases h0:len'=0
    · subst h0; exact .inl (by rw [hu]; simp)
    · rw [hu]
      exact (rd_cells (W:=W) (a:=a) (cs:=(zs.take len').map (Value.int .u8)) (by intro he; rw [List.map_eq_nil_iff] at he; rw [he] at hlen; simp at hlen; omega) (fun j u hu=>by
        rw [List.getElem?_map] at hu
        obtain ⟨z,hz1,rfl⟩:=Option.map_eq_some_iff.1 hu
        have hj:j<len':=by
          rcases Nat.lt_or_ge j (zs.take len').length with h | h
          · omega
          · rw [List.getElem?_eq_none h] at hz1; cases hz1
        rw [List.getElem?_take_of_lt hj] at hz1
        rw [hcell j (by omega),List.getD_eq_getElem?_getD,hz1]; rfl)).2
end Go.Proofs.YtppgfiklmfoaeaaGreatDoor
namespace Go.Proofs.YtppgfiklmfoaeaaGreatDoor
open Go Go.ChangeShapes Go.WideShapes Go.ChangeAt Go.RowKit Go.Sw Go.Esc Go.Xml
theorem cell_in {W:World} {g:Nat} {v:Value} (h:W.cell? ⟨g,0,none⟩=some v):g<W.heap.size:=by
  rcases Nat.lt_or_ge g W.heap.size with h1 | h1
  · exact h1
  · unfold World.cell? at h
    rw [show (⟨g,0,none⟩:Addr).block=g from rfl,Array.getElem?_eq_none h1] at h; cases h
theorem baseX_of {W:World} (hB:T0 W) (h:W.ShapedOpen Tryz.prog):P2 W:=by
  obtain ⟨m,hm⟩:=cell_of_shapedOpen_int (k:=.i64) h (g:=2) (of_decide_eq_true (by kernel_rfl)) (t:=3) (zero:=#[.int .i64 0]) (by kernel_rfl) rfl (by kernel_rfl) (by kernel_rfl) Tryz.underlying3
  exact ⟨hB,m,cell_in hm,hm⟩
variable {H : Type} {enc : TypeId × Value → H}
theorem returnsIn_shaped {a:Assume} {C:Checked} {os:Os} {f:FuncId} {fn:Func} {s:ChangeSpec} {conds:List PathCond} {apart fresh handsOn again:Bool} {X:World→Array Value→Prop}
    (hX:∀ (w w':World) (args:Array Value),w.heap=w'.heap→X w args→X w' args)
    (own:ownKnob C.prog.godebug=none) (started:os.Started) (noInit:C.prog.inits.idxOf? f=none) (hfn:C.prog.funcs[f]? = some fn)
    (witness:∃ (w:World) (tape:Tape) (i:Input),w.os=os∧(w.forCall tape i).Shaped C.prog∧i.vars=[]∧Input.okWide C.prog (w.forCall tape i) .any w.heap.size f i ∧
      ((s.pre enc C.prog fn conds apart (w.forCall tape i).memory i.args∧X (w.forCall tape i).memory i.args)∧sizedMet enc C.prog fn (OpenSpec.ofChange s) apart (w.forCall tape i).memory i.args)∧a.holds C.prog (lone (Frame.enter C.prog f i.args .normal) [] (w.forCall tape i)))
    (contract:∀ (W:World) (base:Nat) (args:Array Value) (ds gs:List (DataW H)) (before:List MemPlace),
      (∀ (j:Nat) t v,fn.params[j]? = some t→args[j]? = some v→Value.okWide C.prog W .any base t v) →
      DataW.Whole enc C.prog fn.params.toList s.vars apart W args.toList ds gs before →
      conds.all (PathCond.test C.prog ⟨fn.params.toList,ds,s.plain.varTypes C.prog,gs⟩)=true →
      X W args→W.ShapedOpen C.prog →
      Calls C.prog f args W fun e W'=>∃ v,e=.returned v∧s.post enc C.prog fn apart fresh handsOn again W args v W') :
    ReturnsInHanded a C os f .any (fun w args=>(s.pre enc C.prog fn conds apart w args∧X w args)∧sizedMet enc C.prog fn (OpenSpec.ofChange s) apart w args) (s.post enc C.prog fn apart fresh handsOn again):=by
  refine returnsInHanded_of_calls own started noInit witness ?_
  intro w tape i _ hsh _ hok hpre _
  obtain ⟨_,_,_,fn',hfn',_,_,_,_,hval⟩:=hok
  have e:fn'=fn:=Option.some.inj (hfn'.symm.trans hfn)
  subst e
  obtain ⟨⟨⟨ds,gs,before,hw,hc⟩,hx⟩,_⟩:=hpre
  have hw':=DataW.Whole.of_heap (w':=w.forCall tape i) (by rfl) hw
  refine (contract (w.forCall tape i) w.heap.size i.args ds gs before hval hw' hc (hX _ _ _ (by rfl) hx) hsh).mono fun e W' ⟨v,he,hp⟩=>?_
  subst he
  exact ChangeSpec.post_blind hp
end Go.Proofs.YtppgfiklmfoaeaaGreatDoor
namespace Go.Json
open Go.Lib Go.Esc Go.Sw
theorem must_le (c:UInt8) (r:RdS):(mustR c r).1.length≤r.1.length:=by
  unfold mustR
  split
  · show (List.drop _ _).length≤_; rw [List.length_drop]; omega
  · exact Nat.le_refl _
theorem JRep.shape {ts tj:TypeId} {v:JV} {c:List Value} {g:Grp} (h:JRep ts tj v c g):∃ (k:Int) (t:ByteArray) (an:Option Addr) (n cn:Nat) (al:Option Addr) (m cl:Nat),c=[.int .i64 k,.string t,.slice an n cn,.slice al m cl]:=by
  cases h; exact ⟨_,_,_,_,_,_,_,_,rfl⟩
theorem JRd.shape {S:Nat→Obj→Prop} {v:JV} {c:List Value} (h:JRd S v c):∃ (an al:Option Addr) (cn cl:Nat) (cs:List Value),c=[.int .i64 v.kind,.string (bk v.text),.slice an v.names.length cn,.slice al v.list.length cl]∧Rd S an (strV v.names)∧Rd S al cs∧JRdL S v.list cs:=by
  cases h with
  | mk h1 h2 h3=>exact ⟨_,_,_,_,_,rfl,h1,h2,h3⟩
variable {lv : Nat} {q q1 : RdS}
end Go.Json
namespace Go.Json
open Go.Lib Go.Esc
theorem prL_nil (obj fst:Bool) (ns:List (List UInt8)):prL obj fst ns []=[]:=by unfold prL; rfl
theorem prL_cons (obj fst:Bool) (ns:List (List UInt8)) (v:JV) (l:List JV):prL obj fst ns (v::l)=(if fst then [] else [44])++((if obj then jsonL (ns.headD [])++[58] else [])++(prP v++prL obj false ns.tail l)):=by rw [prL]
end Go.Json
namespace Go.Json
open Go.Lib Go.Esc Go.Sw
abbrev jvC (x:JV) (an:Option Addr) (cn:Nat) (al:Option Addr) (cl:Nat):List Value:=[.int .i64 x.kind,.string (bk x.text),.slice an x.names.length cn,.slice al x.list.length cl]
theorem JRdL.get {S:Nat→Obj→Prop} {l:List JV} {cs:List Value} {k:Nat} (h:k<l.length) (hc:JRdL S l cs):∃ (x:JV) (an:Option Addr) (cn:Nat) (al:Option Addr) (cl:Nat) (cs2:List Value),x=l[k]∧(cs.drop (k * 4)).take 4=jvC x an cn al cl∧Rd S an (strV x.names)∧Rd S al cs2∧JRdL S x.list cs2:=by
  obtain ⟨an,al,cn,cl,cs2,h1,h2,h3,h4⟩:=(JRdL.at h hc).shape
  exact ⟨l[k],an,cn,al,cl,cs2,rfl,h1,h2,h3,h4⟩
theorem elt4 {cs l:List Value} {q:Nat} (h:(cs.drop q).take 4=l):∀ m (hm:m<l.length),cs[q+m]? = some l[m]:=by
  intro m hm
  subst h
  have h4:m<4:=by rw [List.length_take] at hm; omega
  rw [← List.getElem?_eq_getElem hm,List.getElem?_take_of_lt h4,List.getElem?_drop]
structure RtB (x:JV):Prop where
  rng:0≤x.kind∧x.kind≤6
  list:x.kind≠5→x.kind≠6→x.list=[]
  names:x.kind≠6→x.names=[]
end Go.Json
namespace Go.Proofs.YtppgfiklmfoaeaaGreatDoor
open Go Go.ChangeShapes Go.WideShapes Go.ChangeAt Go.RowKit Go.Sw Go.Sha Go.Esc Go.Json
theorem cells_strT:Tryz.prog.cellsOf 9=1:=by kernel_rfl
theorem add_addN (a:Addr) (i j:Nat) (h:i≤j):(a.add i).add (j - i)=a.add j:=by
  unfold Addr.add
  by_cases hm0:i=0
  · simp [hm0]
  · by_cases hj0:j - i=0
    · have:j=i:=by omega
      simp [this]
    · have:j≠0:=by omega
      simp [hm0,hj0,this]
      omega
theorem row_flat_len {α:Type} {f:α→List Value} {sz:Nat} (hf:∀ o,(f o).length=sz):∀ l:List α,(l.flatMap f).length=l.length * sz
  | []=>by simp
  | o::l=>by rw [List.flatMap_cons,List.length_append,hf,row_flat_len hf l,List.length_cons,Nat.add_mul,Nat.one_mul,Nat.add_comm]
set_option maxRecDepth 100000 in
/-- a slice whose elements are known -/
theorem slice_core {α H:Type} {enc:TypeId × Value→H} {W:World} {ts te:TypeId} {sz:Nat} (ht:Tryz.prog.underlying ts=some (.slice te)) (hc:Tryz.prog.cellsOf te=sz) (f:α→List Value) (Q:α→Prop) (hf:∀ o,(f o).length=sz) {fuel:Nat} {cs:List Value} {x:DataW H × List MemPlace}
    (each:∀ (n:Nat) (c:List Value) (y:DataW H × List MemPlace),n<fuel→DataW.trod enc Tryz.prog W 0 (fun _=>true) true n te c=some y→∃ o,c=f o∧Q o) (h:DataW.trod enc Tryz.prog W 0 (fun _=>true) true fuel ts cs=some x) :
    ∃ (a:Option Addr) (c:Nat) (l:List α),cs=[.slice a l.length c]∧Rd (SW W) a (l.flatMap f)∧l.length≤c∧∀ o∈l,Q o:=by
  rcases DataW.trod_slice ht h with ⟨hcs,_⟩ | ⟨a,len,cap,elems,rest,n,rfl,hcs,_,_,hl,hm,hlen,hel,_,_⟩
  · exact ⟨none,0,[],hcs,.inl rfl,Nat.le_refl _,fun _ h=>absurd h List.not_mem_nil⟩
  · rw [hc] at hel
    have one:∀ i,i<len→∃ o:α,Q o∧∀ j,j<sz→W.cell? ((a.add (i * sz)).add j)=(f o)[j]? := by
      intro i hi
      have h:=hel i hi
      rw [List.getElem?_eq_getElem (by omega)] at h
      obtain ⟨c,hc',ht'⟩:=Option.bind_eq_some_iff.1 h
      obtain ⟨o,rfl,ho⟩:=each n c _ (Nat.lt_succ_self n) ht'
      exact ⟨o,ho,(World.cells?_some hc').2.2⟩
    have build:∀ m,m≤len→∃ l:List α,l.length=m∧(∀ o∈l,Q o)∧∀ j u,(l.flatMap f)[j]? = some u→W.cell? (a.add j)=some u:=by
      intro m
      induction m with
      | zero=>intro _; exact ⟨[],rfl,fun _ h=>absurd h List.not_mem_nil,fun j u h=>by simp at h⟩
      | succ m ih =>
        intro hm1
        obtain ⟨l,h1,h2,h3⟩:=ih (by omega)
        obtain ⟨o,ho,hc⟩:=one m (by omega)
        have hll:(l.flatMap f).length=m * sz:=by rw [row_flat_len hf,h1]
        refine ⟨l++[o],by simp [h1],fun x hx=>?_,fun j u hu=>?_⟩
        · rcases List.mem_append.1 hx with hx | hx
          · exact h2 x hx
          · rw [List.mem_singleton.1 hx]; exact ho
        · rw [List.flatMap_append] at hu
          rcases Nat.lt_or_ge j (m * sz) with hlt | hge
          · rw [List.getElem?_append_left (by omega)] at hu
            exact h3 j u hu
          · rw [List.getElem?_append_right (by omega),hll] at hu
            simp only [List.flatMap_cons,List.flatMap_nil,List.append_nil] at hu
            have hj:j - m * sz<sz:=by
              rcases Nat.lt_or_ge (j - m * sz) sz with h | h
              · exact h
              · rw [List.getElem?_eq_none (by rw [hf]; exact h)] at hu; cases hu
            have h4:=hc (j - m * sz) hj
            rw [hu,add_addN a (m * sz) j hge] at h4
            exact h4
    obtain ⟨l,h1,h2,h3⟩:=build len (Nat.le_refl _)
    refine ⟨some a,cap,l,by rw [h1]; exact hcs,?_,by omega,h2⟩
    by_cases h0:l.flatMap f=[]
    · rw [h0]; exact .inl rfl
    · exact (rd_cells h0 h3).2
structure JC where
  x:JV
  an:Option Addr
  cn:Nat
  al:Option Addr
  cl:Nat
def JC.c (o:JC):List Value:=jvC o.x o.an o.cn o.al o.cl
theorem JC.len (o:JC):o.c.length=4:=rfl
def JC.ok (W:World) (o:JC):Prop:=JRd (SW W) o.x o.c∧o.x.list.length≤o.cl
end Go.Proofs.YtppgfiklmfoaeaaGreatDoor
namespace Go.Xml
open Go.Sw Go.Esc Go.Json
def xaC (a:XA):List Value:=[.string (bk a.space),.string (bk a.name),.string (bk a.value)]
def xaV:List XA→List Value
  | []=>[]
  | a::l=>xaC a++xaV l
theorem xaV_app:∀ (a b:List XA),xaV (a++b)=xaV a++xaV b
  | [],_=>rfl
  | x::a,b=>by rw [List.cons_append,xaV,xaV_app a b,xaV,List.append_assoc]
theorem Q6:∀ a:List XA,(xaV a).length=a.length * 3
  | []=>rfl
  | x::a=>by rw [xaV,List.length_append,Q6 a,List.length_cons]; show 3+_=_; omega
theorem W7:∀ {a:List XA} {i:Nat} (h:i<a.length),((xaV a).drop (i * 3)).take 3=xaC a[i]
  | [],_,h=>absurd h (Nat.not_lt_zero _)
  | x::a,0,_=>rfl
  | x::a,i+1,h=>by
    have e:(xaV (x::a)).drop ((i+1) * 3)=(xaV a).drop (i * 3):=by
      rw [xaV,List.drop_append,List.drop_eq_nil_of_le (by show 3≤_; omega),List.nil_append]; show List.drop ((i+1) * 3 - 3) _=_; congr 1; omega
    rw [e]; exact W7 (a:=a) (by simpa using h)
def atC (a:AT):List Value:=[.string (bk a.q.pre),.string (bk a.q.name),.string (bk a.value),.bool a.q.has]
def atV:List AT→List Value
  | []=>[]
  | a::l=>atC a++atV l
theorem atV_app:∀ (a b:List AT),atV (a++b)=atV a++atV b
  | [],_=>rfl
  | x::a,b=>by rw [List.cons_append,atV,atV_app a b,atV,List.append_assoc]
theorem atV_len:∀ a:List AT,(atV a).length=a.length * 4
  | []=>rfl
  | x::a=>by rw [atV,List.length_append,atV_len a,List.length_cons]; show 4+_=_; omega
theorem atV_at:∀ {a:List AT} {i:Nat} (h:i<a.length),((atV a).drop (i * 4)).take 4=atC a[i]
  | [],_,h=>absurd h (Nat.not_lt_zero _)
  | x::a,0,_=>rfl
  | x::a,i+1,h=>by
    have e:(atV (x::a)).drop ((i+1) * 4)=(atV a).drop (i * 4):=by
      rw [atV,List.drop_append,List.drop_eq_nil_of_le (by show 4≤_; omega),List.nil_append]; show List.drop ((i+1) * 4 - 4) _=_; congr 1; omega
    rw [e]; exact atV_at (a:=a) (by simpa using h)
mutual
inductive XRd (S:Nat→Obj→Prop):XN→List Value→Prop
  | mk {sp nm t:List UInt8} {ats:List XA} {l:List XN} {an al:Option Addr} {cn cl:Nat} {cs:List Value}:ats.length≤cn→Rd S an (xaV ats)→Rd S al cs→XRdL S l cs→XRd S (.mk sp nm ats l t) [.string (bk sp),.string (bk nm),.slice an ats.length cn,.slice al l.length cl,.string (bk t)]
inductive XRdL (S:Nat→Obj→Prop):List XN→List Value→Prop
  | nil:XRdL S [] []
  | cons {v:XN} {l:List XN} {c cs:List Value}:XRd S v c→XRdL S l cs→XRdL S (v::l) (c++cs)
end
mutual
/-- owned: one group for all of it -/
inductive XRep (ta tn:TypeId):XN→List Value→Grp→Prop
  | mk {sp nm t:List UInt8} {ats:List XA} {l:List XN} {an al:Option Addr} {cn cl:Nat} {cs:List Value} {ga gl gs:Grp}:Own ta 3 (.slice an ats.length cn) ga ats.length (xaV ats)→Own tn 5 (.slice al l.length cl) gl l.length cs→XRepL ta tn l cs gs→XRep ta tn (.mk sp nm ats l t) [.string (bk sp),.string (bk nm),.slice an ats.length cn,.slice al l.length cl,.string (bk t)] (ga++(gl++gs))
inductive XRepL (ta tn:TypeId):List XN→List Value→Grp→Prop
  | nil:XRepL ta tn [] [] []
  | cons {v:XN} {l:List XN} {c cs:List Value} {g gs:Grp}:XRep ta tn v c g→XRepL ta tn l cs gs→XRepL ta tn (v::l) (c++cs) (g++gs)
end
theorem XRd.len {S:Nat→Obj→Prop} {v:XN} {c:List Value} (h:XRd S v c):c.length=5:=by cases h; rfl
theorem XRdL.len {S:Nat→Obj→Prop}:∀ {l:List XN} {cs:List Value},XRdL S l cs→cs.length=l.length * 5
  | [],_,h=>by cases h; rfl
  | v::l,_,h=>by
    cases h with
    | cons h1 h2=>rw [List.length_append,h1.len,h2.len,List.length_cons]; omega
theorem XRdL.at {S:Nat→Obj→Prop}:∀ {l:List XN} {cs:List Value} {i:Nat} (hi:i<l.length),XRdL S l cs→XRd S l[i] ((cs.drop (i * 5)).take 5)
  | [],_,_,hi,_=>absurd hi (Nat.not_lt_zero _)
  | v::l,_,0,_,h=>by
    cases h with
    | cons h1 h2 =>
      rw [Nat.zero_mul,List.drop_zero,List.take_append_of_le_length (by rw [h1.len]; exact Nat.le_refl _),List.take_of_length_le (by rw [h1.len]; exact Nat.le_refl _)]; exact h1
  | v::l,_,i+1,hi,h=>by
    cases h with
    | cons h1 h2 =>
      rename_i c cs
      have e:(c++cs).drop ((i+1) * 5)=cs.drop (i * 5):=by
        rw [List.drop_append,List.drop_eq_nil_of_le (by rw [h1.len]; omega),h1.len,List.nil_append,show (i+1) * 5 - 5=i * 5 by omega]
      rw [e]; exact XRdL.at (l:=l) (by simpa using hi) h2
theorem XRep.len {ta tn:TypeId} {v:XN} {c:List Value} {g:Grp} (h:XRep ta tn v c g):c.length=5:=by cases h; rfl
theorem XRepL.len {ta tn:TypeId}:∀ {l:List XN} {cs:List Value} {g:Grp},XRepL ta tn l cs g→cs.length=l.length * 5
  | [],_,_,h=>by cases h; rfl
  | v::l,_,_,h=>by
    cases h with
    | cons h1 h2=>rw [List.length_append,h1.len,XRepL.len h2,List.length_cons]; omega
theorem XRep.nul {ta tn:TypeId}:XRep ta tn V8 [.string (bk []),.string (bk []),.slice none 0 0,.slice none 0 0,.string (bk [])] []:=.mk (ats:=[]) (l:=[]) Own.nil Own.nil .nil
theorem XRep.text {ta tn:TypeId} (t:List UInt8):XRep ta tn (.mk [] [] [] [] t) [.string (bk []),.string (bk []),.slice none 0 0,.slice none 0 0,.string (bk t)] []:=.mk (ats:=[]) (l:=[]) Own.nil Own.nil .nil
theorem XRepL.snoc {ta tn:TypeId}:∀ {l:List XN} {cs:List Value} {gs:Grp} {v:XN} {c:List Value} {g:Grp},XRepL ta tn l cs gs→XRep ta tn v c g→XRepL ta tn (l++[v]) (cs++c) (gs++g)
  | [],_,_,v,c,g,h,hv=>by
    cases h
    have:=XRepL.cons hv .nil
    rw [List.append_nil,List.append_nil] at this
    exact this
  | x::l,_,_,v,c,g,h,hv=>by
    cases h with
    | cons h1 h2 =>
      rw [List.cons_append,List.append_assoc,List.append_assoc]
      exact .cons h1 (XRepL.snoc h2 hv)
theorem XRepL.last {ta tn:TypeId}:∀ {l:List XN} {cs:List Value} {gs:Grp},XRepL ta tn l cs gs→l≠[]→∃ l0 v cs0 c g0 g,l=l0++[v]∧cs=cs0++c∧gs=g0++g∧XRepL ta tn l0 cs0 g0∧XRep ta tn v c g
  | [],_,_,_,h=>absurd rfl h
  | [x],_,_,h,_=>by
    cases h with
    | cons h1 h2=>cases h2; exact ⟨[],x,[],_,[],_,rfl,by simp,by simp,.nil,h1⟩
  | x::y::l,_,_,h,_=>by
    cases h with
    | cons h1 h2 =>
      obtain ⟨l0,v,cs0,c,g0,g,e1,e2,e3,h3,h4⟩:=XRepL.last h2 (by simp)
      exact ⟨x::l0,v,_++cs0,c,_++g0,g,by rw [e1]; rfl,by rw [e2,List.append_assoc],by rw [e3,List.append_assoc],.cons h1 h3,h4⟩
mutual
theorem XRep.rd {ta tn:TypeId} {S:Nat→Obj→Prop}:∀ {v:XN} {c:List Value} {g:Grp},XRep ta tn v c g→(∀ b o,inG g b o→S b o)→XRd S v c
  | .mk _ _ _ _ _,_,_,.mk h1 h2 h3,hs=>.mk (own_cap h1) (rd_mono (H7 h1) fun b o h=>hs b o (List.mem_append_left _ h)) (rd_mono (H7 h2) fun b o h=>hs b o (List.mem_append_right _ (List.mem_append_left _ h))) (XRepL.rd h3 fun b o h=>hs b o (List.mem_append_right _ (List.mem_append_right _ h)))
theorem XRepL.rd {ta tn:TypeId} {S:Nat→Obj→Prop}:∀ {l:List XN} {cs:List Value} {g:Grp},XRepL ta tn l cs g→(∀ b o,inG g b o→S b o)→XRdL S l cs
  | [],_,_,.nil,_=>.nil
  | _::_,_,_,.cons h1 h2,hs=>.cons (XRep.rd h1 fun b o h=>hs b o (List.mem_append_left _ h)) (XRepL.rd h2 fun b o h=>hs b o (List.mem_append_right _ h))
end
theorem XRep.shape {ta tn:TypeId} {v:XN} {c:List Value} {g:Grp} (h:XRep ta tn v c g):∃ an cn al cl,c=[.string (bk v.space),.string (bk v.name),.slice an v.attrs.length cn,.slice al v.kids.length cl,.string (bk v.text)]:=by
  cases h; exact ⟨_,_,_,_,rfl⟩
theorem XRep.cells5 {ta tn:TypeId} {v:XN} {c:List Value} {g:Grp} (h:XRep ta tn v c g):∃ e0 e1 e2 e3 e4,c=[e0,e1,e2,e3,e4]∧([e0,e1,e2,e3,e4].all Value.oneCell')=true:=by
  cases h; exact ⟨_,_,_,_,_,rfl,rfl⟩
end Go.Xml
namespace Go.Xml
open Go.Esc Go.Json
theorem Y8 {c:UInt8}:∀ {l:List UInt8} {i:Nat},idxL [c] l=some i→l=l.take i++c::l.drop (i+1)∧(∀ b∈l.take i,b≠c)∧i<l.length
  | [],i,h=>by cases h
  | b::l,i,h=>by
    rw [idxL] at h
    by_cases hb:b=c
    · subst hb
      rw [if_pos (by simp [List.isPrefixOf])] at h
      injection h with h; subst h
      exact ⟨rfl,fun _ h=>absurd h List.not_mem_nil,Nat.succ_pos _⟩
    · rw [if_neg (by simpa [List.isPrefixOf] using fun e=>hb e.symm)] at h
      cases hi:idxL [c] l with
      | none=>rw [hi] at h; cases h
      | some j =>
        rw [hi] at h
        injection h with h; subst h
        obtain ⟨h1,h2,h3⟩:=Y8 hi
        refine ⟨?_,fun x hx=>?_,by simpa using h3⟩
        · show b::l=b::(l.take j++c::l.drop (j+1)); rw [← h1]
        · rcases List.mem_cons.1 (show x∈b::l.take j from hx) with rfl | hx
          · exact hb
          · exact h2 x hx
theorem idx_no {c:UInt8} {l:List UInt8} (h:idxL [c] l=none):∀ b∈l,b≠c:=by
  intro b hb e
  have:=idx_mem c l
  rw [h] at this
  subst e
  simp [hb] at this
theorem piecesC_keep (c:UInt8):∀ (a t:List UInt8),(∀ b∈a,b≠c)→C6 c (a++t)=(a++(C6 c t).1,(C6 c t).2)
  | [],t,_=>rfl
  | b::a,t,h=>by
    rw [List.cons_append,C6,piecesC_keep c a t (fun x hx=>h x (List.mem_cons_of_mem _ hx))]
    dsimp only
    rw [if_neg (h b List.mem_cons_self)]; rfl
theorem pieces_sign (c:UInt8) (t:List UInt8):C6 c (c::t)=([],(C6 c t).1::(C6 c t).2):=by
  rw [C6]; (try dsimp only); rw [if_pos rfl]
theorem split_pieces (c:UInt8):∀ (n:Nat) (s:List UInt8),s.length≤n→Lib.splitK [c] 0 (Lib.count s [c]) s=(C6 c s).1::(C6 c s).2∧Lib.count s [c]=(C6 c s).2.length:=by
  intro n
  induction n with
  | zero =>
    intro s h
    have:s=[]:=List.eq_nil_of_length_eq_zero (by omega)
    subst this
    rw [Lib.count_miss (by rw [idx_lib]; rfl)]
    exact ⟨rfl,rfl⟩
  | succ n ih =>
    intro s h
    have hx:=idx_lib s [c]
    cases hi:idxL [c] s with
    | none =>
      rw [hi] at hx
      rw [Lib.count_miss hx]
      have h1:=piecesC_keep c s [] (idx_no hi)
      rw [List.append_nil] at h1
      have h2:C6 c s=(s,[]):=by rw [h1]; show (s++[],[])=_; rw [List.append_nil]
      rw [h2]; exact ⟨rfl,rfl⟩
    | some i =>
      rw [hi] at hx
      dsimp only at hx
      obtain ⟨h1,h2,h3⟩:=Y8 hi
      obtain ⟨h4,h5⟩:=ih (s.drop (i+1)) (by clear hx; rw [List.length_drop]; have:=Nat.zero_le i; omega)
      have h6:C6 c s=(s.take i,(C6 c (s.drop (i+1))).1::(C6 c (s.drop (i+1))).2):=by
        conv=>lhs; rw [h1]
        rw [piecesC_keep c _ _ h2,pieces_sign,List.append_nil]
      have h7:=Lib.count_hit (s:=s) (sub:=[c]) (by simp) hx
      have h8:([c]:List UInt8).length=1:=rfl
      rw [h8] at h7
      rw [h7,h6]
      dsimp only
      refine ⟨?_,by rw [h5,List.length_cons]; omega⟩
      rw [Nat.add_comm 1,Lib.splitK,if_neg (by rw [hx,beq_iff_eq]; have:=Int.natCast_nonneg i; omega),hx,Int.toNat_natCast,Nat.add_zero,h8,h4]
theorem bidx_none {p:List UInt8} (h:idxL [59] p=none):Go.Sw.bIdx (bk p) 59=-1:=by
  refine Go.Sw.bIdx_none (by decide) (by decide) (fun j hj he=>?_)
  rw [byteJ] at he
  rw [C8] at hj
  have hm:p.getD j 0∈p:=by rw [show p.getD j 0=p[j] by simp [List.getD,hj]]; exact List.getElem_mem hj
  exact idx_no h _ hm (UInt8.toNat_inj.1 (by show (p.getD j 0).toNat=59; omega))
theorem bidx_some {p:List UInt8} {i:Nat} (h:idxL [59] p=some i):Go.Sw.bIdx (bk p) 59=i:=by
  obtain ⟨h1,h2,h3⟩:=Y8 h
  refine Go.Sw.bIdx_eq (by decide) (by decide) (by rw [C8]; exact h3) ?_ (fun j hj he=>?_)
  · rw [byteJ]
    have:p.getD i 0=59:=by
      conv=>lhs; rw [h1]
      simp [List.getD,List.length_take,Nat.min_eq_left (Nat.le_of_lt h3)]
    rw [this]; rfl
  · rw [byteJ] at he
    have hm:p.getD j 0∈p.take i:=by
      rw [show p.getD j 0=p[j]'(by omega) by simp [List.getD,show j<p.length by omega]]
      rw [List.mem_take_iff_getElem]
      exact ⟨j,by omega,rfl⟩
    exact h2 _ hm (UInt8.toNat_inj.1 (by show (p.getD j 0).toNat=59; omega))
theorem flt_flt (e f:Int) (q:XS) (he:e≠0):F0 f (F0 e q)=F0 e q:=by
  by_cases h:q.2=0
  · rw [flt_0 h]; exact flt_ne he
  · rw [flt_ne h,flt_ne h]
theorem bad_none {p:List UInt8} (h:idxL [59] p=none):badX p=true:=by unfold badX; rw [h]
theorem bad_some {p:List UInt8} {i:Nat} (h:idxL [59] p=some i):badX p=(unL (38::p.take (i+1))==38::p.take (i+1)):=by unfold badX; rw [h]
def pcX (ps:List (List UInt8)) (k:Nat) (q:XS):XS:=if (ps.take k).any badX then F0 70 q else q
theorem pcX_0 (ps:List (List UInt8)) (q:XS):pcX ps 0 q=q:=by unfold pcX; rw [List.take_zero]; rfl
theorem pcX_bad {ps:List (List UInt8)} {k:Nat} {q:XS} (h:k<ps.length) (hb:badX ps[k]=true):pcX ps (k+1) q=F0 70 (pcX ps k q):=by
  unfold pcX
  rw [List.take_succ_eq_append_getElem h,List.any_append,List.any_cons,List.any_nil,hb,Bool.or_false,Bool.or_true,if_pos rfl]
  split
  · rw [flt_flt _ _ _ (by decide)]
  · rfl
theorem pcX_good {ps:List (List UInt8)} {k:Nat} {q:XS} (h:k<ps.length) (hb:badX ps[k]=false):pcX ps (k+1) q=pcX ps k q:=by
  unfold pcX
  rw [List.take_succ_eq_append_getElem h,List.any_append,List.any_cons,List.any_nil,hb,Bool.or_false,Bool.or_false]
theorem refs_yes {s:List UInt8} {q:XS} (h:D6 (unL (C1 s))≠unL (C1 s)):M9 s q=(unL (C1 s),F0 70 (pcX (C6 38 (C1 s)).2 (C6 38 (C1 s)).2.length q)):=by
  unfold M9 pcX; dsimp only; rw [List.take_length,if_pos h]
theorem refs_no {s:List UInt8} {q:XS} (h:D6 (unL (C1 s))=unL (C1 s)):M9 s q=(unL (C1 s),pcX (C6 38 (C1 s)).2 (C6 38 (C1 s)).2.length q):=by
  unfold M9 pcX; dsimp only; rw [List.take_length,if_neg (fun hn=>hn h)]
theorem pieces_len (c:UInt8):∀ (l:List UInt8),(C6 c l).1.length≤l.length∧(∀ p∈(C6 c l).2,p.length≤l.length)∧(C6 c l).2.length≤l.length
  | []=>⟨Nat.le_refl _,fun _ h=>absurd h List.not_mem_nil,Nat.le_refl _⟩
  | b::l=>by
    obtain ⟨h1,h2,h3⟩:=pieces_len c l
    rw [C6]; (try dsimp only)
    split
    · refine ⟨Nat.zero_le _,fun p hp=>?_,by simp only [List.length_cons]; omega⟩
      rcases List.mem_cons.1 hp with rfl | hp
      · rw [List.length_cons]; omega
      · have:=h2 p hp; rw [List.length_cons]; omega
    · refine ⟨by simp only [List.length_cons]; omega,fun p hp=>?_,by simp only [List.length_cons]; omega⟩
      have:=h2 p hp; rw [List.length_cons]; omega
end Go.Xml
namespace Go.Xml
open Go.Esc Go.Json Go.Sw
theorem quote_1 {q:XS} (h:[34].isPrefixOf q.1=true):E7 q=H3 [34] (q.1.drop 1,q.2):=by unfold E7; rw [P9 h]; rfl
theorem quote_2 {q:XS} (h1:¬ [34].isPrefixOf q.1=true) (h:[39].isPrefixOf q.1=true):E7 q=H3 [39] (q.1.drop 1,q.2):=by unfold E7; rw [M5 h1,P9 h]; rfl
theorem quote_3 {q:XS} (h1:¬ [34].isPrefixOf q.1=true) (h:¬ [39].isPrefixOf q.1=true):E7 q=([],F0 70 q):=by unfold E7; rw [M5 h1,M5 h]; rfl
def eqX (q:XS):XS:=(K6 (D3 [61] (K6 (A7 q).2).2)).2
theorem eqX_le (q:XS):(eqX q).1.length≤q.1.length:=by
  unfold eqX
  have h1:=qual_le q
  have h2:=skip_le (A7 q).2
  have h3:=must_le [61] (K6 (A7 q).2).2
  have h4:=skip_le (D3 [61] (K6 (A7 q).2).2)
  omega
theorem until_v (w:List UInt8) (q:XS):(H3 w q).1.length≤q.1.length:=by
  unfold H3
  cases h:idxL w q.1 with
  | none=>exact Nat.zero_le _
  | some i=>show (q.1.take i).length≤_; rw [List.length_take]; omega
theorem quote_le (q:XS):(E7 q).1.length≤q.1.length∧(E7 q).2.1.length≤q.1.length:=by
  unfold E7
  split
  · have h1:=take_le [34] q
    have h2:=until_v [34] (G2 [34] q).2
    have h3:=R1 [34] (G2 [34] q).2
    exact ⟨by omega,by omega⟩
  · split
    · have h1:=take_le [39] q
      have h2:=until_v [39] (G2 [39] q).2
      have h3:=R1 [39] (G2 [39] q).2
      exact ⟨by omega,by omega⟩
    · exact ⟨Nat.zero_le _,Nat.le_refl _⟩
theorem attr_yes {q:XS} (h:(idxL [60] (E7 (eqX q)).1).isSome=true):W6 q=(⟨(A7 q).1,(M9 (E7 (eqX q)).1 (F0 70 (E7 (eqX q)).2)).1⟩,(M9 (E7 (eqX q)).1 (F0 70 (E7 (eqX q)).2)).2):=by
  rw [idx_mem] at h
  have h:=of_decide_eq_true h
  unfold W6; dsimp only
  rw [show (E7 (K6 (D3 [61] (K6 (A7 q).2).2)).2)=E7 (eqX q) from rfl,if_pos h]
theorem attr_no {q:XS} (h:(idxL [60] (E7 (eqX q)).1).isSome=false):W6 q=(⟨(A7 q).1,(M9 (E7 (eqX q)).1 (E7 (eqX q)).2).1⟩,(M9 (E7 (eqX q)).1 (E7 (eqX q)).2).2):=by
  rw [idx_mem] at h
  have h:=of_decide_eq_false h
  unfold W6; dsimp only
  rw [show (E7 (K6 (D3 [61] (K6 (A7 q).2).2)).2)=E7 (eqX q) from rfl,if_neg h]
theorem attrX_le (q:XS):(W6 q).2.1.length≤q.1.length:=by
  have h1:=eqX_le q
  have h2:=(quote_le (eqX q)).2
  cases h:(idxL [60] (E7 (eqX q)).1).isSome with
  | true=>rw [attr_yes h]; dsimp only; rw [refs_len,W5]; omega
  | false=>rw [attr_no h]; dsimp only; rw [refs_len]; omega
theorem attrs_stop {n:Nat} {acc:List AT} {q:XS} (h0:q.2=0) (h:¬ (blk q.1).length<q.1.length∨[62].isPrefixOf (blk q.1)=true∨[47,62].isPrefixOf (blk q.1)=true):E8 (n+1) acc q=(acc,(blk q.1,q.2)):=by
  rw [E8,if_neg (fun hn=>hn h0)]
  have hs:K6 q=(decide ((blk q.1).length<q.1.length),(blk q.1,q.2)):=rfl
  rw [hs]
  dsimp only
  rw [if_neg]
  rintro ⟨h1,h2,h3⟩
  rcases h with h | h | h
  · exact h (of_decide_eq_true h1)
  · exact h2 h
  · exact h3 h
theorem attrs_go {n:Nat} {acc:List AT} {q:XS} (h0:q.2=0) (h1:(blk q.1).length<q.1.length) (h2:¬ [62].isPrefixOf (blk q.1)=true) (h3:¬ [47,62].isPrefixOf (blk q.1)=true):E8 (n+1) acc q=E8 n (acc++[(W6 (blk q.1,q.2)).1]) (W6 (blk q.1,q.2)).2:=by
  rw [E8,if_neg (fun hn=>hn h0)]
  have hs:K6 q=(decide ((blk q.1).length<q.1.length),(blk q.1,q.2)):=rfl
  rw [hs]
  dsimp only
  rw [if_pos ⟨decide_eq_true h1,h2,h3⟩]
theorem mgetX_put {m:SM} {c:Nat} {k p:ByteArray} {v:Value}:mget (J6 m c k v) p=if p==k then some v else mget m p:=by
  unfold mget
  have gen:∀ (m:SM) (i:Nat),(mfind p (J6 m c k v) i).map (·.2)=if p==k then some v else (mfind p m i).map (·.2):=by
    intro m
    induction m with
    | nil =>
      intro i
      show (if p==k then some (i,v) else none).map (·.2)=_
      cases p==k <;> rfl
    | cons e m ih =>
      intro i
      by_cases hk:(k==e.1)=true
      · rw [J6,if_pos hk]
        have he:=baEq.1 hk
        show (if p==k then some (i,v) else mfind p m (i+1)).map (·.2)=if p==k then some v else (if p==e.1 then some (i,e.2.1) else mfind p m (i+1)).map (·.2)
        rw [← he]
        cases p==k <;> rfl
      · rw [J6,if_neg hk]
        show (if p==e.1 then some (i,e.2.1) else mfind p (J6 m c k v) (i+1)).map (·.2)=if p==k then some v else (if p==e.1 then some (i,e.2.1) else mfind p m (i+1)).map (·.2)
        by_cases hp:(p==e.1)=true
        · rw [if_pos hp,if_pos hp,if_neg]
          intro hpk
          exact hk (baEq.2 ((baEq.1 hpk).symm.trans (baEq.1 hp)))
        · rw [if_neg hp,if_neg hp]; exact ih (i+1)
  exact gen m 0
theorem bk_inj {a b:List UInt8}:(bk a==bk b)=true ↔ a=b:=by
  rw [baEq]
  constructor
  · intro h
    have:=congrArg (fun x:ByteArray=>x.data.toList) h
    exact this
  · intro h; rw [h]
def SpR (m:SM) (sp:SPX):Prop:=∀ p,mget m (bk p)=(lookX sp p).map fun v=>.string (bk v)
theorem SpR.put {m:SM} {sp:SPX} (h:SpR m sp) (c:Nat) (p v:List UInt8):SpR (J6 m c (bk p) (.string (bk v))) ((p,v)::sp):=by
  intro x
  rw [mgetX_put]
  unfold lookX
  rw [List.find?_cons]
  by_cases hx:x=p
  · subst hx
    rw [if_pos (bk_inj.2 rfl)]
    simp
  · rw [if_neg (fun hh=>hx (bk_inj.1 hh)),show ((p,v).1==x)=false from beq_eq_false_iff_ne.2 (fun e=>hx e.symm)]
    exact h x
def SeR (m:SM) (seen:List (List UInt8)):Prop:=∀ p,mget m (bk p)=if p∈seen then some (.bool true) else none
theorem SeR.nil:SeR [] []:=fun p=>by rw [if_neg List.not_mem_nil]; rfl
theorem SeR.put {m:SM} {seen:List (List UInt8)} (h:SeR m seen) (c:Nat) (p:List UInt8):SeR (J6 m c (bk p) (.bool true)) (p::seen):=by
  intro x
  rw [mgetX_put]
  by_cases hx:x=p
  · subst hx; rw [if_pos (bk_inj.2 rfl),if_pos List.mem_cons_self]
  · rw [if_neg (fun hh=>hx (bk_inj.1 hh)),h x]
    by_cases hm:x∈seen
    · rw [if_pos hm,if_pos (List.mem_cons_of_mem _ hm)]
    · rw [if_neg hm,if_neg (fun hh=>(List.mem_cons.1 hh).elim hx hm)]
theorem sp_step_no {a:AT} {r:List AT} {seen:List (List UInt8)} {sp:SPX} {q:XS} (h:P7 a=none):L7 (a::r) seen sp q=L7 r seen sp q:=by rw [L7,h]
theorem sp_step {a:AT} {r:List AT} {seen:List (List UInt8)} {sp:SPX} {q:XS} {p:List UInt8} (h:P7 a=some p):L7 (a::r) seen sp q=L7 r (p::seen) ((p,a.value)::sp) (if p∈seen∨a.q.has=true∧a.value=[] then F0 70 q else q):=by rw [L7,h]
theorem decl_own {a:AT} (h1:a.q.has=false) (h2:a.q.name=T1):P7 a=some []:=if_pos ⟨h1,h2⟩
theorem decl_pre {a:AT} (h1:a.q.has=true) (h2:a.q.pre=T1):P7 a=some a.q.name:=by
  unfold P7; rw [if_neg (fun h=>by rw [h1] at h; exact Bool.noConfusion h.1),if_pos ⟨h1,h2⟩]
theorem decl_none {a:AT} (h1:¬ (a.q.has=false∧a.q.name=T1)) (h2:¬ (a.q.has=true∧a.q.pre=T1)):P7 a=none:=by
  unfold P7; rw [if_neg h1,if_neg h2]
theorem marks_skip {a:AT} {r:List AT} {out:List XA} {sp:SPX} {q:XS} (h:(P7 a).isSome=true):N3 (a::r) out sp q=N3 r out sp q:=by rw [N3,if_pos h]
theorem marks_go {a:AT} {r:List AT} {out:List XA} {sp:SPX} {q:XS} (h:(P7 a).isSome=false):N3 (a::r) out sp q=N3 r (out++[⟨(if a.q.has then J9 a.q.pre true sp q else ([],q)).1,a.q.name,a.value⟩]) sp (if out.any (fun y=>y.space==(if a.q.has then J9 a.q.pre true sp q else ([],q)).1&&y.name==a.q.name) then F0 70 (if a.q.has then J9 a.q.pre true sp q else ([],q)).2 else (if a.q.has then J9 a.q.pre true sp q else ([],q)).2):=by
  rw [N3,if_neg (by rw [h]; exact Bool.false_ne_true)]
theorem M1 {α:Type} {l:List α} {k:Nat} (h:k<l.length):l.drop k=l[k]::l.drop (k+1):=List.drop_eq_getElem_cons h
theorem space_some {p v:List UInt8} {has:Bool} {sp:SPX} {q:XS} (h:lookX sp p=some v):J9 p has sp q=(v,q):=by
  unfold J9; rw [h]; dsimp only [Option.getD]; rw [if_neg (fun hh=>by cases hh.2)]
theorem space_none {p:List UInt8} {has:Bool} {sp:SPX} {q:XS} (h:lookX sp p=none) (hh:has=true):J9 p has sp q=([],F0 70 q):=by
  unfold J9; rw [h]; dsimp only [Option.getD]; rw [if_pos ⟨hh,rfl⟩]
theorem space_own {p:List UInt8} {has:Bool} {sp:SPX} {q:XS} (h:lookX sp p=none) (hh:has=false):J9 p has sp q=([],q):=by
  unfold J9; rw [h]; dsimp only [Option.getD]; rw [if_neg (fun h1=>by rw [hh] at h1; cases h1.1)]
theorem space_le (p:List UInt8) (has:Bool) (sp:SPX) (q:XS):(J9 p has sp q).2.1=q.1:=by unfold J9; dsimp only; split; rfl; rfl
theorem sp_le:∀ (ats:List AT) (seen:List (List UInt8)) (sp:SPX) (q:XS),(L7 ats seen sp q).2.1=q.1
  | [],_,_,_=>rfl
  | a::r,seen,sp,q=>by
    rw [L7]
    cases P7 a with
    | none=>exact sp_le r _ _ _
    | some p=>dsimp only; rw [sp_le r]; split; rfl; rfl
theorem any_take {α:Type} {f:α→Bool} {l:List α} {k:Nat} (h:k<l.length):(l.take (k+1)).any f=((l.take k).any f||f l[k]):=by
  rw [List.take_succ_eq_append_getElem h,List.any_append,List.any_cons,List.any_nil,Bool.or_false]
theorem any_at {α:Type} {f:α→Bool} {l:List α} {k:Nat} (h:k<l.length) (hf:f l[k]=true):l.any f=true:=List.any_eq_true.2 ⟨_,List.getElem_mem h,hf⟩
end Go.Xml
namespace Go.Xml
open Go.Lib Go.Esc Go.Json Go.Sw
abbrev xvC (x:XN) (an:Option Addr) (cn:Nat) (al:Option Addr) (cl:Nat):List Value:=[.string (bk x.space),.string (bk x.name),.slice an x.attrs.length cn,.slice al x.kids.length cl,.string (bk x.text)]
theorem XRd.shape {S:Nat→Obj→Prop} {x:XN} {c:List Value} (h:XRd S x c):∃ (an al:Option Addr) (cn cl:Nat) (cs:List Value),c=xvC x an cn al cl∧Rd S an (xaV x.attrs)∧Rd S al cs∧XRdL S x.kids cs∧x.attrs.length≤cn:=by
  cases h with
  | mk h0 h1 h2 h3=>exact ⟨_,_,_,_,_,rfl,h1,h2,h3,h0⟩
theorem XRdL.get {S:Nat→Obj→Prop} {l:List XN} {cs:List Value} {k:Nat} (h:k<l.length) (hc:XRdL S l cs):∃ (x:XN) (an:Option Addr) (cn:Nat) (al:Option Addr) (cl:Nat) (cs2:List Value),x=l[k]∧(cs.drop (k * 5)).take 5=xvC x an cn al cl∧Rd S an (xaV x.attrs)∧Rd S al cs2∧XRdL S x.kids cs2∧x.attrs.length≤cn:=by
  obtain ⟨an,al,cn,cl,cs2,h1,h2,h3,h4,h5⟩:=(XRdL.at h hc).shape
  exact ⟨l[k],an,cn,al,cl,cs2,rfl,h1,h2,h3,h4,h5⟩
theorem XRd.of {S:Nat→Obj→Prop} {x:XN} {an al:Option Addr} {cn cl:Nat} {cs:List Value} (h0:x.attrs.length≤cn) (h1:Rd S an (xaV x.attrs)) (h2:Rd S al cs) (h3:XRdL S x.kids cs):XRd S x (xvC x an cn al cl):=by
  cases x; exact .mk h0 h1 h2 h3
theorem elt5 {cs l:List Value} {q:Nat} (h:(cs.drop q).take 5=l):∀ m (hm:m<l.length),cs[q+m]? = some l[m]:=by
  intro m hm
  subst h
  have h4:m<5:=by rw [List.length_take] at hm; omega
  rw [← List.getElem?_eq_getElem hm,List.getElem?_take_of_lt h4,List.getElem?_drop]
theorem XRdL.snoc {S:Nat→Obj→Prop}:∀ {l:List XN} {cs:List Value} {v:XN} {c:List Value},XRdL S l cs→XRd S v c→XRdL S (l++[v]) (cs++c)
  | [],_,v,c,h,hv=>by
    cases h
    have:=XRdL.cons hv .nil
    rw [List.append_nil] at this
    exact this
  | x::l,_,v,c,h,hv=>by
    cases h with
    | cons h1 h2=>rw [List.cons_append,List.append_assoc]; exact .cons h1 (XRdL.snoc h2 hv)
mutual
theorem XRd.mono {S S':Nat→Obj→Prop} (hs:∀ b o,S b o→S' b o):∀ {v:XN} {c:List Value},XRd S v c→XRd S' v c
  | .mk _ _ _ _ _,_,.mk h0 h1 h2 h3=>.mk h0 (rd_mono h1 hs) (rd_mono h2 hs) (XRdL.mono hs h3)
theorem XRdL.mono {S S':Nat→Obj→Prop} (hs:∀ b o,S b o→S' b o):∀ {l:List XN} {cs:List Value},XRdL S l cs→XRdL S' l cs
  | [],_,.nil=>.nil
  | _::_,_,.cons h1 h2=>.cons (XRd.mono hs h1) (XRdL.mono hs h2)
end
def wtA:List XA→Nat
  | []=>0
  | a::r=>a.space.length+a.name.length+a.value.length+1+wtA r
mutual
/-- all that an element has -/
def wtX:XN→Nat
  | .mk s n ats l t=>1+s.length+n.length+t.length+wtA ats+wtXL l
def wtXL:List XN→Nat
  | []=>0
  | v::l=>wtX v+wtXL l
end
theorem wtX_eq (s n:List UInt8) (ats:List XA) (l:List XN) (t:List UInt8):wtX (.mk s n ats l t)=1+s.length+n.length+t.length+wtA ats+wtXL l:=by simp only [wtX]
theorem N9 (v:XN) (l:List XN):wtXL (v::l)=wtX v+wtXL l:=by simp only [wtXL]
theorem wtXL_nil:wtXL []=0:=by simp only [wtXL]
theorem wtX_pos (v:XN):0<wtX v:=by cases v; rw [wtX_eq]; omega
theorem wtA_at:∀ {l:List XA} {i:Nat} (h:i<l.length),l[i].space.length+l[i].name.length+l[i].value.length+1≤wtA l
  | [],_,h=>absurd h (Nat.not_lt_zero _)
  | v::l,0,_=>by show v.space.length+v.name.length+v.value.length+1≤v.space.length+v.name.length+v.value.length+1+wtA l; omega
  | v::l,i+1,h=>by
    have hi:i<l.length:=by simpa using h
    have:=wtA_at hi
    show l[i].space.length+l[i].name.length+l[i].value.length+1≤v.space.length+v.name.length+v.value.length+1+wtA l; omega
theorem wtA_len:∀ l:List XA,l.length≤wtA l
  | []=>Nat.zero_le _
  | v::l=>by have:=wtA_len l; show l.length+1≤v.space.length+v.name.length+v.value.length+1+wtA l; omega
theorem wtXL_at:∀ {l:List XN} {i:Nat} (h:i<l.length),wtX l[i]≤wtXL l
  | [],_,h=>absurd h (Nat.not_lt_zero _)
  | v::l,0,_=>by rw [N9]; show wtX v≤_; omega
  | v::l,i+1,h=>by
    have hi:i<l.length:=by simpa using h
    have:=wtXL_at hi
    rw [N9]; show wtX l[i]≤_; omega
theorem wtXL_len:∀ l:List XN,l.length≤wtXL l
  | []=>Nat.zero_le _
  | v::l=>by have:=wtXL_len l; have:=wtX_pos v; rw [N9,List.length_cons]; omega
theorem wtXL_take:∀ (l:List XN) (i:Nat),wtXL (l.take i)≤wtXL l
  | [],i=>by rw [List.take_nil]; exact Nat.le_refl _
  | v::l,0=>by rw [List.take_zero,wtXL_nil]; exact Nat.zero_le _
  | v::l,i+1=>by rw [List.take_succ_cons,N9,N9]; have:=wtXL_take l i; omega
theorem M0 (x:XN):x.space.length+x.name.length+x.text.length+x.attrs.length+x.kids.length+1≤wtX x∧wtA x.attrs+wtXL x.kids+1≤wtX x:=by
  cases x with
  | mk s n ats l t =>
    have h1:=wtA_len ats
    have h2:=wtXL_len l
    rw [wtX_eq]
    exact ⟨by show s.length+n.length+t.length+ats.length+l.length+1≤_; omega,by show wtA ats+wtXL l+1≤_; omega⟩
theorem wtX_sum (x:XN):wtX x=1+x.space.length+x.name.length+x.text.length+wtA x.attrs+wtXL x.kids:=by
  cases x; exact wtX_eq _ _ _ _ _
theorem wtXL_step:∀ {l:List XN} {i:Nat} (h:i<l.length),wtXL (l.take i)+wtX l[i]≤wtXL l
  | [],_,h=>absurd h (Nat.not_lt_zero _)
  | v::l,0,_=>by rw [List.take_zero,wtXL_nil,N9]; show 0+wtX v≤_; omega
  | v::l,i+1,h=>by
    have hi:i<l.length:=by simpa using h
    have:=wtXL_step hi
    rw [List.take_succ_cons,N9,N9]; show _+wtX l[i]≤_; omega
theorem W3 {x:XN} {i:Nat} (h:i<x.kids.length):wtX x.kids[i]<wtX x:=by
  have h1:=wtXL_at h
  have h2:=(M0 x).2
  omega
def kidX (sp nm:List UInt8) (k:XN):Bool:=k.name != []&&k.space==sp&&k.name==nm
def allX (x:XN) (sp nm:List UInt8):List XN:=x.kids.filter (kidX sp nm)
theorem O6 {l:List XN} {f:XN→Bool} {k:Nat} (h:k<l.length):(l.take (k+1)).filter f=(l.take k).filter f++(if f l[k] then [l[k]] else []):=by
  rw [List.take_succ_eq_append_getElem h,List.filter_append]
  congr 1
  rw [List.filter_cons]; rfl
def vlF (nm:List UInt8) (a:XA):Bool:=a.space==[]&&a.name==nm
def vlX (ats:List XA) (nm:List UInt8):List UInt8:=((ats.find? (vlF nm)).map (·.value)).getD []
theorem vl_step {ats:List XA} {nm:List UInt8} {k:Nat} (h:k<ats.length):vlX (ats.drop k) nm=if vlF nm ats[k] then ats[k].value else vlX (ats.drop (k+1)) nm:=by
  rw [M1 h]
  unfold vlX
  rw [List.find?_cons]
  cases vlF nm ats[k] <;> rfl
theorem bkB (a b:List UInt8):((bk a).toList==(bk b).toList)=(a==b):=by
  by_cases e:a=b
  · subst e; rw [(eqB _ _).2 rfl]; simp
  · rw [(eqBf (bk a) (bk b)).2 e,beq_eq_false_iff_ne.2 e]
mutual
def innX:XN→List UInt8
  | .mk _ n _ l t=>if n=[] then t else innL l
def innL:List XN→List UInt8
  | []=>[]
  | v::l=>innX v++innL l
end
theorem innL_nil:innL []=[]:=by simp only [innL]
theorem innL_cons (v:XN) (l:List XN):innL (v::l)=innX v++innL l:=by simp only [innL]
theorem innL_app:∀ (l m:List XN),innL (l++m)=innL l++innL m
  | [],m=>by rw [innL_nil]; rfl
  | v::l,m=>by rw [List.cons_append,innL_cons,innL_cons,innL_app l m,List.append_assoc]
theorem innX_text {x:XN} (h:x.name=[]):innX x=x.text:=by
  cases x with
  | mk s n ats l t=>cases h; simp only [innX]; rfl
theorem innX_el {x:XN} (h:x.name≠[]):innX x=innL x.kids:=by
  cases x with
  | mk s n ats l t=>simp only [innX]; exact if_neg h
theorem innL_take {l:List XN} {k:Nat} (h:k<l.length):innL (l.take (k+1))=innL (l.take k)++innX l[k]:=by
  rw [List.take_succ_eq_append_getElem h,innL_app,innL_cons,innL_nil,List.append_nil]
mutual
theorem inn_len:∀ x:XN,(innX x).length≤wtX x
  | .mk s n ats l t=>by
    have:=innL_len l
    rw [wtX_eq]
    simp only [innX]
    split <;> omega
theorem innL_len:∀ l:List XN,(innL l).length≤wtXL l
  | []=>by rw [innL_nil]; exact Nat.zero_le _
  | v::l=>by
    have h1:=inn_len v
    have h2:=innL_len l
    rw [innL_cons,N9,List.length_append]; omega
end
end Go.Xml
namespace Go.Proofs.YtppgfiklmfoaeaaGreatDoor
open Go Go.ChangeShapes Go.WideShapes Go.ChangeAt Go.RowKit Go.Sw Go.Sha Go.Esc Go.Json Go.Xml
theorem cells_atT:Tryz.prog.cellsOf 75=3:=by kernel_rfl
theorem cells_ndT:Tryz.prog.cellsOf 55=5:=by kernel_rfl
theorem cells_asT:Tryz.prog.cellsOf 52=1:=by kernel_rfl
theorem cells_nlT:Tryz.prog.cellsOf 53=1:=by kernel_rfl
structure NC where
  x:XN
  an:Option Addr
  cn:Nat
  al:Option Addr
  cl:Nat
def NC.c (o:NC):List Value:=xvC o.x o.an o.cn o.al o.cl
theorem NC.len (o:NC):o.c.length=5:=rfl
def NC.ok (W:World) (o:NC):Prop:=XRd (SW W) o.x o.c
theorem xrdL_of {W:World}:∀ l:List NC,(∀ o∈l,o.ok W)→XRdL (SW W) (l.map (·.x)) (l.flatMap NC.c)
  | [],_=>.nil
  | o::l,h=>by
    rw [List.map_cons,List.flatMap_cons]
    exact .cons (h o List.mem_cons_self) (xrdL_of l fun q hq=>h q (List.mem_cons_of_mem _ hq))
theorem xaV_flat (l:List XA):l.flatMap xaC=xaV l:=by
  induction l with
  | nil=>rfl
  | cons n l ih=>rw [List.flatMap_cons,ih]; rfl
set_option maxRecDepth 100000 in
theorem attr_core {H:Type} {enc:TypeId × Value→H} {W:World} {fuel:Nat} {cs:List Value} {x:DataW H × List MemPlace} (hf:DataW.trod enc Tryz.prog W 0 (fun _=>true) true fuel 75 cs=some x):∃ a:XA,cs=xaC a:=by
  obtain ⟨xs,n,hfu,rfl,hl,hx,hs⟩:=DataW.trod_struct Tryz.underlying75 hf
  have hl4:cs.length=3:=by rw [hl]; kernel_rfl
  obtain ⟨c0,c1,c2,rfl⟩:∃ c0 c1 c2,cs=[c0,c1,c2]:=by
    match cs,hl4 with
    | [c0,c1,c2],_=>exact ⟨c0,c1,c2,rfl⟩
  have h0:DataW.trod enc Tryz.prog W 0 (fun _=>true) true n 9 ((List.drop 0 [c0,c1,c2]).take (Tryz.prog.cellsOf 9))=xs[0]? := hs 0 _ rfl
  have h1:DataW.trod enc Tryz.prog W 0 (fun _=>true) true n 9 ((List.drop 1 [c0,c1,c2]).take (Tryz.prog.cellsOf 9))=xs[1]? := hs 1 _ rfl
  have h2:DataW.trod enc Tryz.prog W 0 (fun _=>true) true n 9 ((List.drop 2 [c0,c1,c2]).take (Tryz.prog.cellsOf 9))=xs[2]? := hs 2 _ rfl
  rw [cells_strT] at h0 h1 h2
  have hx4:xs.length=3:=by rw [hx]; rfl
  rw [List.getElem?_eq_getElem (by omega)] at h0 h1 h2
  simp only [List.drop_succ_cons,List.drop_zero,List.take_succ_cons,List.take_zero] at h0 h1 h2
  obtain ⟨t0,e0,_,_⟩:=DataW.trod_string Tryz.underlying9 h0
  obtain ⟨t1,e1,_,_⟩:=DataW.trod_string Tryz.underlying9 h1
  obtain ⟨t2,e2,_,_⟩:=DataW.trod_string Tryz.underlying9 h2
  injection e0 with e0 _
  injection e1 with e1 _
  injection e2 with e2 _
  subst e0 e1 e2
  exact ⟨⟨t0.data.toList,t1.data.toList,t2.data.toList⟩,rfl⟩
set_option maxRecDepth 100000 in
theorem node_core {H:Type} {enc:TypeId × Value→H} {W:World}:∀ (fuel:Nat) (cs:List Value) (x:DataW H × List MemPlace),DataW.trod enc Tryz.prog W 0 (fun _=>true) true fuel 55 cs=some x→∃ o:NC,cs=o.c∧o.ok W:=by
  intro fuel
  induction fuel using Nat.strongRecOn with
  | _ fuel ih =>
    intro cs x hf
    obtain ⟨xs,n,hfu,rfl,hl,hx,hs⟩:=DataW.trod_struct Tryz.underlying55 hf
    have hl4:cs.length=5:=by rw [hl]; kernel_rfl
    obtain ⟨c0,c1,c2,c3,c4,rfl⟩:∃ c0 c1 c2 c3 c4,cs=[c0,c1,c2,c3,c4]:=by
      match cs,hl4 with
      | [c0,c1,c2,c3,c4],_=>exact ⟨c0,c1,c2,c3,c4,rfl⟩
    have h0:DataW.trod enc Tryz.prog W 0 (fun _=>true) true n 9 ((List.drop 0 [c0,c1,c2,c3,c4]).take (Tryz.prog.cellsOf 9))=xs[0]? := hs 0 _ rfl
    have h1:DataW.trod enc Tryz.prog W 0 (fun _=>true) true n 9 ((List.drop 1 [c0,c1,c2,c3,c4]).take (Tryz.prog.cellsOf 9))=xs[1]? := hs 1 _ rfl
    have h2:DataW.trod enc Tryz.prog W 0 (fun _=>true) true n 52 ((List.drop 2 [c0,c1,c2,c3,c4]).take (Tryz.prog.cellsOf 52))=xs[2]? := hs 2 _ rfl
    have h3:DataW.trod enc Tryz.prog W 0 (fun _=>true) true n 53 ((List.drop 3 [c0,c1,c2,c3,c4]).take (Tryz.prog.cellsOf 53))=xs[3]? := hs 3 _ rfl
    have h4:DataW.trod enc Tryz.prog W 0 (fun _=>true) true n 9 ((List.drop 4 [c0,c1,c2,c3,c4]).take (Tryz.prog.cellsOf 9))=xs[4]? := hs 4 _ rfl
    rw [cells_strT] at h0 h1 h4
    rw [cells_asT] at h2
    rw [cells_nlT] at h3
    have hx4:xs.length=5:=by rw [hx]; rfl
    rw [List.getElem?_eq_getElem (by omega)] at h0 h1 h2 h3 h4
    simp only [List.drop_succ_cons,List.drop_zero,List.take_succ_cons,List.take_zero] at h0 h1 h2 h3 h4
    obtain ⟨t0,e0,_,_⟩:=DataW.trod_string Tryz.underlying9 h0
    obtain ⟨t1,e1,_,_⟩:=DataW.trod_string Tryz.underlying9 h1
    obtain ⟨t4,e4,_,_⟩:=DataW.trod_string Tryz.underlying9 h4
    obtain ⟨an,cn,ats,e2,hn1,hn2,_⟩:=slice_core (α:=XA) Tryz.underlying52 cells_atT xaC (fun _=>True) (fun _=>rfl) (fun m c y _ hm=>by
      obtain ⟨a,ea⟩:=attr_core hm
      exact ⟨a,ea,trivial⟩) h2
    obtain ⟨al,cl,l,e3,hl1,hl2,hl3⟩:=slice_core (α:=NC) Tryz.underlying53 cells_ndT NC.c (NC.ok W) NC.len (fun m c y hm hy=>ih m (by omega) c y hy) h3
    injection e0 with e0 _
    injection e1 with e1 _
    injection e2 with e2 _
    injection e3 with e3 _
    injection e4 with e4 _
    subst e0 e1 e2 e3 e4
    rw [xaV_flat] at hn1
    refine ⟨⟨.mk t0.data.toList t1.data.toList ats (l.map (·.x)) t4.data.toList,an,cn,al,cl⟩,?_,?_⟩
    · show _=[Value.string (bk t0.data.toList),.string (bk t1.data.toList),.slice an ats.length cn,.slice al (l.map (·.x)).length cl,.string (bk t4.data.toList)]
      rw [List.length_map]
    · have h:=XRd.mk (sp:=t0.data.toList) (nm:=t1.data.toList) (t:=t4.data.toList) (ats:=ats) (l:=l.map (·.x)) (cl:=cl) hn2 hn1 hl1 (xrdL_of l hl3)
      exact h
set_option maxRecDepth 100000 in
theorem open_node {H:Type} {enc:TypeId × Value→H} {W:World} {v:Value} {d:DataW H} {p:List MemPlace} {r:Reach} {b0:Nat} (hval:Value.okWide Tryz.prog W r b0 55 v) (h0:DataW.Trod enc Tryz.prog W 0 (fun _=>true) true 55 v d p) :
    ∃ o:NC,v=.agg (xvC o.x o.an o.cn o.al o.cl).toArray∧XRd (SW W) o.x (xvC o.x o.an o.cn o.al o.cl):=by
  obtain ⟨fs,rfl,_⟩:=okWide_struct Tryz.underlying55 hval
  obtain ⟨fuel,hf⟩:=h0
  obtain ⟨o,e,ho⟩:=node_core fuel _ _ hf
  refine ⟨o,?_,ho⟩
  have e2:fs.toList=o.c:=e
  show _=Value.agg o.c.toArray
  rw [← e2]
end Go.Proofs.YtppgfiklmfoaeaaGreatDoor
namespace Go.Proofs.YtppgfiklmfoaeaaGreatDoor
open Go Go.ChangeShapes Go.WideShapes Go.ChangeAt Go.RowKit Go.Sw
theorem and_tt {a b:Bool} (h:a=true) (h2:b=true):(a&&b)=true:=by rw [h,h2]; rfl
theorem cl_may:Tryz.prog.mayEnter=true:=by kernel_rfl
theorem cl_lift:Tryz.prog.liftsFinal=Rows.jsonParsesRow.lifted:=by kernel_rfl
theorem cl_make:Tryz.prog.make=some Rows.jsonParsesRow.make:=by kernel_rfl
theorem cl_heard:Tryz.prog.stopsHeard=true:=by kernel_rfl
theorem cl_keys:Tryz.prog.plainKeys=Rows.jsonParsesRow.plainKeys:=by kernel_rfl
end Go.Proofs.YtppgfiklmfoaeaaGreatDoor
namespace Go.Proofs.YtppgfiklmfoaeaaGreatDoor
open Go.Sw Go.Sha Go.Esc Go.RowKit
theorem w8i {x:Int} (h0:0≤x) (h1:x<256):IntKind.wrap .u8 x=x:=by rw [w8m]; omega
theorem is_ (n:Int) (W0:World) (H:List Grp):Tri Tryz.prog 161 #[.int .i64 n] W0 H (fun v H'=>v=.bool (isB n)∧H'=H):=by
 refine D4 17 Tryz.func161 ?_
 refine A1 (B9 (E':=[⟨0,[],.int .i64 n⟩]) [0] [0] (k:=A0 (A1 (G_p [0,0,0,0,0,6,0,0,0,0,0,0,5,6,0] [2] (k:=A0 (B8 (B7 [.tmp 2] [.bool (((decide (n ≥ 0))&&(decide (n≤1114111)))&&((decide (n<55296))||(decide (n > 57343))))] (k:=?_))))))))
 exact ⟨by unfold isB; rfl,rfl⟩
theorem read_ (s:ByteArray) (h0:0<s.size) (hs:s.size≤1000000000000) (W0:World) (H:List Grp):Tri Tryz.prog 139 #[.string s] W0 H (fun v H'=>v=.tuple #[.int .i64 (rdP s.data.toList).1,.int .i64 ((rdP s.data.toList).2:Int)]∧H'=H):=by
 have e0:=bt_eq s 0
 have e1:=bt_eq s 1
 have e2:=bt_eq s 2
 have e3:=bt_eq s 3
 have g0:bt s 0<256:=UInt8.toNat_lt _
 have g1:bt s 1<256:=UInt8.toNat_lt _
 have g2:bt s 2<256:=UInt8.toNat_lt _
 have g3:bt s 3<256:=UInt8.toNat_lt _
 have hl:=H4 s
 simp only [Int.cast_ofNat_Int] at e0 e1 e2 e3
 refine D4 77 Tryz.func139 ?_
 refine A1 (B9 (E':=[⟨0,[],.string s⟩]) [0,0] [0] (k:=A0 (A1 (A3 (A4 (j:=1) [0] (k:=I9 s 0 (fun _=>by omega) ?_))))))
 have hb1:=G6 s 0
 refine A4 (j:=3) [0] (k:=D0 11 (B1 s 0) (by omega) (by omega) kr (A8 [0] [0,4] (k:=A0 (A1 (G_p [0,0] [0,4] (k:=A0 (A1 (B2 ?_))))))))
 refine A1 (G_p [0,0,0] [0,4,12] (k:=A0 (B0 (b:=decide ((B1 s 0)<128)) kr (fun hc3=>?_) (fun hc3=>?_))))
 ·
  simp only [decide_eq_true_eq] at hc3
  refine A1 (G_p [0,0,0] [2,3] (k:=A0 (B8 (B3 (A5 (B7 [.tmp 2,.tmp 3] [.int .i64 (B1 s 0),.int .i64 1] (k:=?_)))))))
  exact ⟨by rw [rdP_ok (l:=s.data.toList) (dec1 (b0:=bt s 0) (b1:=bt s 1) (b2:=bt s 2) (b3:=bt s 3) (by (try rw [hl]); omega)) (by omega)]; exact congrArg (fun x=>Value.tuple #[.int .i64 x,.int .i64 1]) (by omega),rfl⟩
 ·
  simp only [decide_eq_false_iff_not] at hc3
  refine A1 (G_p [0,0,0,0,0,6,0] [0,4,16] (k:=A0 (B0 (b:=(decide ((B1 s 0) ≥ 194))&&(decide ((B1 s 0)<224))) kr (fun hc4=>?_) (fun hc4=>?_))))
  ·
   simp only [Bool.and_eq_true,decide_eq_true_eq,ge_iff_le] at hc4
   refine A3 (A4 (j:=2) [0,0] (k:=D0 24 ((B1 s 0) - 192) (by omega) (by omega) kr (A8 [0,0,0] [0,4,5,6] (k:=B6 (A0 (A1 (A1 (B9 (E':=[⟨0,[],.string s⟩,⟨4,[],.int .i64 ((B1 s 0) - 192)⟩,⟨5,[],.int .i64 2⟩,⟨6,[],.int .i64 128⟩,⟨46,[],.bool (decide ((s.size:Int)<2))⟩]) [0,0,0,0] [0,4,5,6,46] (k:=?_)))))))))
   refine A0 (B0 (b:=decide ((s.size:Int)<2)) kr (fun hc6=>?_) (fun hc6=>?_))
   ·
    simp only [decide_eq_true_eq] at hc6
    refine A1 (G_p [0,0] [2,3] (k:=A0 (B8 (A5 (B7 [.tmp 2,.tmp 3] [.int .i64 (-1),.int .i64 1] (k:=?_))))))
    exact ⟨by rw [Q7 (l:=s.data.toList) (Q9 (b0:=bt s 0) (b1:=bt s 1) (b2:=bt s 2) (b3:=bt s 3) (by rw [hl]; omega))]; rfl,rfl⟩
   ·
    simp only [decide_eq_false_iff_not] at hc6
    refine A9 (A0 (A1 (A1 (G_p [0] [0,4,5,6,7] (k:=A0 (B2 (N7 4 (F1 ?_))))))))
    refine A1 (A1 (G_p [0,0,0] [0,4,5,6,7,49] (k:=A0 (C7 kr (A9 (A0 (A1 (B2 ?_))))))))
    refine A1 (A3 (A4 (j:=2) [0,0] (k:=I9 s 1 (fun _=>by omega) ?_)))
    have hb7:=G6 s 1
    refine A4 (j:=4) [0] (k:=D0 55 (B1 s 1) (by omega) (by omega) kr (A8 [0] [0,4,5,6,7,8] (k:=A0 (A1 (A1 (G_p [0,0,0,0,0,5] [0,4,5,6,7,8,61] (k:=A0 (B0 (b:=(decide ((B1 s 1)<128))||(decide ((B1 s 1) ≥ 192))) kr (fun hc9=>?_) (fun hc9=>?_)))))))))
    ·
     simp only [Bool.or_eq_true,decide_eq_true_eq,ge_iff_le] at hc9
     refine A1 (G_p [0,0] [2,3] (k:=A0 (B8 (A5 (B3 (A5 (A5 (B3 ?_))))))))
     refine A5 (B7 [.tmp 2,.tmp 3] [.int .i64 (-1),.int .i64 1] (k:=?_))
     exact ⟨by rw [Q7 (l:=s.data.toList) (Q9 (b0:=bt s 0) (b1:=bt s 1) (b2:=bt s 2) (b3:=bt s 3) (by rw [hl]; omega))]; rfl,rfl⟩
    ·
     simp only [Bool.or_eq_false_iff,decide_eq_false_iff_not,ge_iff_le] at hc9
     refine A9 (A0 (A3 (A4 (j:=2) [0,0] (k:=D0 63 (64 * ((B1 s 0) - 192)) (by omega) (by omega) kr (A4 (j:=4) [0,0] (k:=D0 65 ((64 * ((B1 s 0) - 192))+(B1 s 1)) (by omega) (by omega) kr (A4 (j:=5) [0] (k:=D0 66 (((64 * ((B1 s 0) - 192))+(B1 s 1)) - 128) (by omega) (by omega) kr ?_))))))))
     refine A8 [0] [0,4,5,6,7] (k:=B6 (A0 (B9 (E':=[⟨0,[],.string s⟩,⟨4,[],.int .i64 (((64 * ((B1 s 0) - 192))+(B1 s 1)) - 128)⟩,⟨5,[],.int .i64 2⟩,⟨6,[],.int .i64 128⟩,⟨7,[],.int .i64 2⟩]) [0,0,0] [0,4,5,6,7] (k:=N_rd (F1 (A1 (A1 (G_p [0,0,0] [0,4,5,6,7,49] (k:=?_)))))))))
     refine A0 (C9 kr (E3 (A6 (A6 (B5 (A0 (A1 (A1 ?_))))))))
     refine A3 (A4 (j:=5) [0,0,0,0,0] (k:=N1 [(70,false)] Tryz.func161 (fun hc=>is_ (((64 * ((B1 s 0) - 192))+(B1 s 1)) - 128) _ _) (A8 [0,5] [4,5,74] (k:=A0 (B0 (b:=(decide ((((64 * ((B1 s 0) - 192))+(B1 s 1)) - 128)<128))||(!(isB (((64 * ((B1 s 0) - 192))+(B1 s 1)) - 128)))) kr (fun hc13=>?_) (fun hc13=>?_))))))
     ·
      simp only [Bool.or_eq_true,Bool.not_eq_true',decide_eq_true_eq,H5,isR] at hc13
      refine A1 (G_p [0,0] [2,3] (k:=A0 (B8 (A5 (B7 [.tmp 2,.tmp 3] [.int .i64 (-1),.int .i64 1] (k:=?_))))))
      exact ⟨by rw [Q7 (l:=s.data.toList) (Q9 (b0:=bt s 0) (b1:=bt s 1) (b2:=bt s 2) (b3:=bt s 3) (by rw [hl]; omega))]; rfl,rfl⟩
     ·
      simp only [Bool.or_eq_false_iff,Bool.not_eq_false',decide_eq_false_iff_not,isB_iff,isR] at hc13
      refine A9 (A0 (A1 (G_p [0,0,0,0] [2,3] (k:=A0 (B8 (B7 [.tmp 2,.tmp 3] [.int .i64 (((64 * ((B1 s 0) - 192))+(B1 s 1)) - 128),.int .i64 2] (k:=?_)))))))
      exact ⟨by rw [rdP_ok (l:=s.data.toList) (dec2 (b0:=bt s 0) (b1:=bt s 1) (b2:=bt s 2) (b3:=bt s 3) (by (try rw [hl]); omega)) (by omega)]; exact congrArg (fun x=>Value.tuple #[.int .i64 x,.int .i64 2]) (by omega),rfl⟩
  ·
   simp only [Bool.and_eq_false_iff,decide_eq_false_iff_not,ge_iff_le] at hc4
   refine A1 (G_p [0,0,0,0,0,6,0] [0,4,25] (k:=A0 (B0 (b:=(decide ((B1 s 0) ≥ 224))&&(decide ((B1 s 0)<240))) kr (fun hc14=>?_) (fun hc14=>?_))))
   ·
    simp only [Bool.and_eq_true,decide_eq_true_eq,ge_iff_le] at hc14
    refine A3 (A4 (j:=2) [0,0] (k:=D0 33 ((B1 s 0) - 224) (by omega) (by omega) kr (B4 (E':=[⟨0,[],.string s⟩,⟨4,[],.int .i64 ((B1 s 0) - 224)⟩,⟨5,[],.int .i64 3⟩,⟨6,[],.int .i64 2048⟩]) [0,0,0] [0,4,5,6] (k:=B6 (A0 (A1 (A1 (G_p [0,0,0,0] [0,4,5,6,46] (k:=?_)))))))))
    refine A0 (B0 (b:=decide ((s.size:Int)<3)) kr (fun hc16=>?_) (fun hc16=>?_))
    ·
     simp only [decide_eq_true_eq] at hc16
     refine A1 (G_p [0,0] [2,3] (k:=A0 (B8 (A5 (B7 [.tmp 2,.tmp 3] [.int .i64 (-1),.int .i64 1] (k:=?_))))))
     exact ⟨by rw [Q7 (l:=s.data.toList) (Q9 (b0:=bt s 0) (b1:=bt s 1) (b2:=bt s 2) (b3:=bt s 3) (by rw [hl]; omega))]; rfl,rfl⟩
    ·
     simp only [decide_eq_false_iff_not] at hc16
     refine A9 (A0 (A1 (A1 (G_p [0] [0,4,5,6,7] (k:=A0 (B2 (N7 4 (F1 ?_))))))))
     refine A1 (A1 (G_p [0,0,0] [0,4,5,6,7,49] (k:=A0 (C7 kr (A9 (A0 (A1 (B2 ?_))))))))
     refine A1 (A3 (A4 (j:=2) [0,0] (k:=I9 s 1 (fun _=>by omega) ?_)))
     have hb17:=G6 s 1
     refine A4 (j:=4) [0] (k:=D0 55 (B1 s 1) (by omega) (by omega) kr (A8 [0] [0,4,5,6,7,8] (k:=A0 (A1 (A1 (G_p [0,0,0,0,0,5] [0,4,5,6,7,8,61] (k:=A0 (B0 (b:=(decide ((B1 s 1)<128))||(decide ((B1 s 1) ≥ 192))) kr (fun hc19=>?_) (fun hc19=>?_)))))))))
     ·
      simp only [Bool.or_eq_true,decide_eq_true_eq,ge_iff_le] at hc19
      refine A1 (B9 (E':=[⟨2,[],.int .i64 (-1)⟩,⟨3,[],.int .i64 1⟩]) [0,0] [2,3] (k:=A0 (B8 (A5 (B3 (A5 (A5 (B3 ?_))))))))
      refine A5 (B7 [.tmp 2,.tmp 3] [.int .i64 (-1),.int .i64 1] (k:=?_))
      exact ⟨by rw [Q7 (l:=s.data.toList) (Q9 (b0:=bt s 0) (b1:=bt s 1) (b2:=bt s 2) (b3:=bt s 3) (by rw [hl]; omega))]; rfl,rfl⟩
     ·
      simp only [Bool.or_eq_false_iff,decide_eq_false_iff_not,ge_iff_le] at hc19
      refine A9 (A0 (A3 (A4 (j:=2) [0,0] (k:=D0 63 (64 * ((B1 s 0) - 224)) (by omega) (by omega) kr (A4 (j:=4) [0,0] (k:=D0 65 ((64 * ((B1 s 0) - 224))+(B1 s 1)) (by omega) (by omega) kr (A4 (j:=5) [0] (k:=D0 66 (((64 * ((B1 s 0) - 224))+(B1 s 1)) - 128) (by omega) (by omega) kr ?_))))))))
      refine B4 (E':=[⟨0,[],.string s⟩,⟨4,[],.int .i64 (((64 * ((B1 s 0) - 224))+(B1 s 1)) - 128)⟩,⟨5,[],.int .i64 3⟩,⟨6,[],.int .i64 2048⟩,⟨7,[],.int .i64 1⟩]) [0] [0,4,5,6,7] (k:=B6 (A0 (G_p [0,0,0] [0,4,5,6,7] (k:=N_rd (F1 (A1 (A1 (G_p [0,0,0] [0,4,5,6,7,49] (k:=?_)))))))))
      refine A0 (C7 kr (A9 (A0 (A1 (B2 (A1 (A3 (A4 (j:=2) [0,0] (k:=?_)))))))))
      refine I9 s 2 (fun _=>by omega) ?_
      have hb23:=G6 s 2
      refine A4 (j:=4) [0] (k:=D0 55 (B1 s 2) (by omega) (by omega) kr (A8 [0] [0,4,5,6,7,8] (k:=A0 (A1 (A1 (G_p [0,0,0,0,0,5] [0,4,5,6,7,8,61] (k:=A0 (B0 (b:=(decide ((B1 s 2)<128))||(decide ((B1 s 2) ≥ 192))) kr (fun hc25=>?_) (fun hc25=>?_)))))))))
      ·
       simp only [Bool.or_eq_true,decide_eq_true_eq,ge_iff_le] at hc25
       refine A1 (G_p [0,0] [2,3] (k:=A0 (B8 (A5 (B3 (A5 (A5 (B3 ?_))))))))
       refine A5 (B7 [.tmp 2,.tmp 3] [.int .i64 (-1),.int .i64 1] (k:=?_))
       exact ⟨by rw [Q7 (l:=s.data.toList) (Q9 (b0:=bt s 0) (b1:=bt s 1) (b2:=bt s 2) (b3:=bt s 3) (by rw [hl]; omega))]; rfl,rfl⟩
      ·
       simp only [Bool.or_eq_false_iff,decide_eq_false_iff_not,ge_iff_le] at hc25
       refine A9 (A0 (A3 (A4 (j:=2) [0,0] (k:=D0 63 (64 * (((64 * ((B1 s 0) - 224))+(B1 s 1)) - 128)) (by omega) (by omega) kr (A4 (j:=4) [0,0] (k:=D0 65 ((64 * (((64 * ((B1 s 0) - 224))+(B1 s 1)) - 128))+(B1 s 2)) (by omega) (by omega) kr (A4 (j:=5) [0] (k:=D0 66 (((64 * (((64 * ((B1 s 0) - 224))+(B1 s 1)) - 128))+(B1 s 2)) - 128) (by omega) (by omega) kr ?_))))))))
       refine A8 [0] [0,4,5,6,7] (k:=B6 (A0 (B9 (E':=[⟨0,[],.string s⟩,⟨4,[],.int .i64 (((64 * (((64 * ((B1 s 0) - 224))+(B1 s 1)) - 128))+(B1 s 2)) - 128)⟩,⟨5,[],.int .i64 3⟩,⟨6,[],.int .i64 2048⟩,⟨7,[],.int .i64 3⟩]) [0,0,0] [0,4,5,6,7] (k:=N_rd (F1 (A1 (A1 (G_p [0,0,0] [0,4,5,6,7,49] (k:=?_)))))))))
       refine A0 (C9 kr (E3 (A6 (A6 (B5 (A0 (A1 (A1 ?_))))))))
       refine A3 (A4 (j:=5) [0,0,0,0,0] (k:=N1 [(70,false)] Tryz.func161 (fun hc=>is_ (((64 * (((64 * ((B1 s 0) - 224))+(B1 s 1)) - 128))+(B1 s 2)) - 128) _ _) (A8 [0,5] [4,5,74] (k:=A0 (B0 (b:=(decide ((((64 * (((64 * ((B1 s 0) - 224))+(B1 s 1)) - 128))+(B1 s 2)) - 128)<2048))||(!(isB (((64 * (((64 * ((B1 s 0) - 224))+(B1 s 1)) - 128))+(B1 s 2)) - 128)))) kr (fun hc29=>?_) (fun hc29=>?_))))))
       ·
        simp only [Bool.or_eq_true,Bool.not_eq_true',decide_eq_true_eq,H5,isR] at hc29
        refine A1 (G_p [0,0] [2,3] (k:=A0 (B8 (A5 (B7 [.tmp 2,.tmp 3] [.int .i64 (-1),.int .i64 1] (k:=?_))))))
        exact ⟨by rw [Q7 (l:=s.data.toList) (Q9 (b0:=bt s 0) (b1:=bt s 1) (b2:=bt s 2) (b3:=bt s 3) (by rw [hl]; omega))]; rfl,rfl⟩
       ·
        simp only [Bool.or_eq_false_iff,Bool.not_eq_false',decide_eq_false_iff_not,isB_iff,isR] at hc29
        refine A9 (A0 (A1 (G_p [0,0,0,0] [2,3] (k:=A0 (B8 (B7 [.tmp 2,.tmp 3] [.int .i64 (((64 * (((64 * ((B1 s 0) - 224))+(B1 s 1)) - 128))+(B1 s 2)) - 128),.int .i64 3] (k:=?_)))))))
        exact ⟨by rw [rdP_ok (l:=s.data.toList) (dec3 (b0:=bt s 0) (b1:=bt s 1) (b2:=bt s 2) (b3:=bt s 3) (by (try rw [hl]); omega)) (by omega)]; exact congrArg (fun x=>Value.tuple #[.int .i64 x,.int .i64 3]) (by omega),rfl⟩
   ·
    simp only [Bool.and_eq_false_iff,decide_eq_false_iff_not,ge_iff_le] at hc14
    refine A1 (B9 (E':=[⟨0,[],.string s⟩,⟨4,[],.int .i64 (B1 s 0)⟩,⟨34,[],.bool ((decide ((B1 s 0) ≥ 240))&&(decide ((B1 s 0)<245)))⟩]) [0,0,0,0,0,6,0] [0,4,34] (k:=A0 (B0 (b:=(decide ((B1 s 0) ≥ 240))&&(decide ((B1 s 0)<245))) kr (fun hc30=>?_) (fun hc30=>?_))))
    ·
     simp only [Bool.and_eq_true,decide_eq_true_eq,ge_iff_le] at hc30
     refine A3 (A4 (j:=2) [0,0] (k:=D0 42 ((B1 s 0) - 240) (by omega) (by omega) kr (A8 [0,0,0] [0,4,5,6] (k:=B6 (A0 (A1 (A1 (G_p [0,0,0,0] [0,4,5,6,46] (k:=?_)))))))))
     refine A0 (B0 (b:=decide ((s.size:Int)<4)) kr (fun hc32=>?_) (fun hc32=>?_))
     ·
      simp only [decide_eq_true_eq] at hc32
      refine A1 (G_p [0,0] [2,3] (k:=A0 (B8 (A5 (B7 [.tmp 2,.tmp 3] [.int .i64 (-1),.int .i64 1] (k:=?_))))))
      exact ⟨by rw [Q7 (l:=s.data.toList) (Q9 (b0:=bt s 0) (b1:=bt s 1) (b2:=bt s 2) (b3:=bt s 3) (by rw [hl]; omega))]; rfl,rfl⟩
     ·
      simp only [decide_eq_false_iff_not] at hc32
      refine A9 (A0 (A1 (A1 (G_p [0] [0,4,5,6,7] (k:=A0 (B2 (N7 4 (F1 ?_))))))))
      refine A1 (A1 (G_p [0,0,0] [0,4,5,6,7,49] (k:=A0 (C7 kr (A9 (A0 (A1 (B2 ?_))))))))
      refine A1 (A3 (A4 (j:=2) [0,0] (k:=I9 s 1 (fun _=>by omega) ?_)))
      have hb33:=G6 s 1
      refine A4 (j:=4) [0] (k:=D0 55 (B1 s 1) (by omega) (by omega) kr (A8 [0] [0,4,5,6,7,8] (k:=A0 (A1 (A1 (B9 (E':=[⟨0,[],.string s⟩,⟨4,[],.int .i64 ((B1 s 0) - 240)⟩,⟨5,[],.int .i64 4⟩,⟨6,[],.int .i64 65536⟩,⟨7,[],.int .i64 1⟩,⟨8,[],.int .i64 (B1 s 1)⟩,⟨61,[],.bool ((decide ((B1 s 1)<128))||(decide ((B1 s 1) ≥ 192)))⟩]) [0,0,0,0,0,5] [0,4,5,6,7,8,61] (k:=A0 (B0 (b:=(decide ((B1 s 1)<128))||(decide ((B1 s 1) ≥ 192))) kr (fun hc35=>?_) (fun hc35=>?_)))))))))
      ·
       simp only [Bool.or_eq_true,decide_eq_true_eq,ge_iff_le] at hc35
       refine A1 (G_p [0,0] [2,3] (k:=A0 (B8 (A5 (B3 (A5 (A5 (B3 ?_))))))))
       refine A5 (B7 [.tmp 2,.tmp 3] [.int .i64 (-1),.int .i64 1] (k:=?_))
       exact ⟨by rw [Q7 (l:=s.data.toList) (Q9 (b0:=bt s 0) (b1:=bt s 1) (b2:=bt s 2) (b3:=bt s 3) (by rw [hl]; omega))]; rfl,rfl⟩
      ·
       simp only [Bool.or_eq_false_iff,decide_eq_false_iff_not,ge_iff_le] at hc35
       refine A9 (A0 (A3 (A4 (j:=2) [0,0] (k:=D0 63 (64 * ((B1 s 0) - 240)) (by omega) (by omega) kr (A4 (j:=4) [0,0] (k:=D0 65 ((64 * ((B1 s 0) - 240))+(B1 s 1)) (by omega) (by omega) kr (A4 (j:=5) [0] (k:=D0 66 (((64 * ((B1 s 0) - 240))+(B1 s 1)) - 128) (by omega) (by omega) kr ?_))))))))
       refine A8 [0] [0,4,5,6,7] (k:=B6 (A0 (G_p [0,0,0] [0,4,5,6,7] (k:=N_rd (F1 (A1 (A1 (G_p [0,0,0] [0,4,5,6,7,49] (k:=?_)))))))))
       refine A0 (C7 kr (A9 (A0 (A1 (B2 (A1 (A3 (A4 (j:=2) [0,0] (k:=?_)))))))))
       refine I9 s 2 (fun _=>by omega) ?_
       have hb39:=G6 s 2
       refine A4 (j:=4) [0] (k:=D0 55 (B1 s 2) (by omega) (by omega) kr (A8 [0] [0,4,5,6,7,8] (k:=A0 (A1 (A1 (G_p [0,0,0,0,0,5] [0,4,5,6,7,8,61] (k:=A0 (B0 (b:=(decide ((B1 s 2)<128))||(decide ((B1 s 2) ≥ 192))) kr (fun hc41=>?_) (fun hc41=>?_)))))))))
       ·
        simp only [Bool.or_eq_true,decide_eq_true_eq,ge_iff_le] at hc41
        refine A1 (B9 (E':=[⟨2,[],.int .i64 (-1)⟩,⟨3,[],.int .i64 1⟩]) [0,0] [2,3] (k:=A0 (B8 (A5 (B3 (A5 (A5 (B3 ?_))))))))
        refine A5 (B7 [.tmp 2,.tmp 3] [.int .i64 (-1),.int .i64 1] (k:=?_))
        exact ⟨by rw [Q7 (l:=s.data.toList) (Q9 (b0:=bt s 0) (b1:=bt s 1) (b2:=bt s 2) (b3:=bt s 3) (by rw [hl]; omega))]; rfl,rfl⟩
       ·
        simp only [Bool.or_eq_false_iff,decide_eq_false_iff_not,ge_iff_le] at hc41
        refine A9 (A0 (A3 (A4 (j:=2) [0,0] (k:=D0 63 (64 * (((64 * ((B1 s 0) - 240))+(B1 s 1)) - 128)) (by omega) (by omega) kr (A4 (j:=4) [0,0] (k:=D0 65 ((64 * (((64 * ((B1 s 0) - 240))+(B1 s 1)) - 128))+(B1 s 2)) (by omega) (by omega) kr (A4 (j:=5) [0] (k:=D0 66 (((64 * (((64 * ((B1 s 0) - 240))+(B1 s 1)) - 128))+(B1 s 2)) - 128) (by omega) (by omega) kr ?_))))))))
        refine B4 (E':=[⟨0,[],.string s⟩,⟨4,[],.int .i64 (((64 * (((64 * ((B1 s 0) - 240))+(B1 s 1)) - 128))+(B1 s 2)) - 128)⟩,⟨5,[],.int .i64 4⟩,⟨6,[],.int .i64 65536⟩,⟨7,[],.int .i64 2⟩]) [0] [0,4,5,6,7] (k:=B6 (A0 (G_p [0,0,0] [0,4,5,6,7] (k:=N_rd (F1 (A1 (A1 (G_p [0,0,0] [0,4,5,6,7,49] (k:=?_)))))))))
        refine A0 (C7 kr (A9 (A0 (A1 (B2 (A1 (A3 (A4 (j:=2) [0,0] (k:=?_)))))))))
        refine I9 s 3 (fun _=>by omega) ?_
        have hb45:=G6 s 3
        refine A4 (j:=4) [0] (k:=D0 55 (B1 s 3) (by omega) (by omega) kr (A8 [0] [0,4,5,6,7,8] (k:=A0 (A1 (A1 (G_p [0,0,0,0,0,5] [0,4,5,6,7,8,61] (k:=A0 (B0 (b:=(decide ((B1 s 3)<128))||(decide ((B1 s 3) ≥ 192))) kr (fun hc47=>?_) (fun hc47=>?_)))))))))
        ·
         simp only [Bool.or_eq_true,decide_eq_true_eq,ge_iff_le] at hc47
         refine A1 (G_p [0,0] [2,3] (k:=A0 (B8 (A5 (B3 (A5 (A5 (B3 ?_))))))))
         refine A5 (B7 [.tmp 2,.tmp 3] [.int .i64 (-1),.int .i64 1] (k:=?_))
         exact ⟨by rw [Q7 (l:=s.data.toList) (Q9 (b0:=bt s 0) (b1:=bt s 1) (b2:=bt s 2) (b3:=bt s 3) (by rw [hl]; omega))]; rfl,rfl⟩
        ·
         simp only [Bool.or_eq_false_iff,decide_eq_false_iff_not,ge_iff_le] at hc47
         refine A9 (A0 (A3 (A4 (j:=2) [0,0] (k:=D0 63 (64 * (((64 * (((64 * ((B1 s 0) - 240))+(B1 s 1)) - 128))+(B1 s 2)) - 128)) (by omega) (by omega) kr (A4 (j:=4) [0,0] (k:=D0 65 ((64 * (((64 * (((64 * ((B1 s 0) - 240))+(B1 s 1)) - 128))+(B1 s 2)) - 128))+(B1 s 3)) (by omega) (by omega) kr (A4 (j:=5) [0] (k:=D0 66 (((64 * (((64 * (((64 * ((B1 s 0) - 240))+(B1 s 1)) - 128))+(B1 s 2)) - 128))+(B1 s 3)) - 128) (by omega) (by omega) kr ?_))))))))
         refine A8 [0] [0,4,5,6,7] (k:=B6 (A0 (B9 (E':=[⟨0,[],.string s⟩,⟨4,[],.int .i64 (((64 * (((64 * (((64 * ((B1 s 0) - 240))+(B1 s 1)) - 128))+(B1 s 2)) - 128))+(B1 s 3)) - 128)⟩,⟨5,[],.int .i64 4⟩,⟨6,[],.int .i64 65536⟩,⟨7,[],.int .i64 4⟩]) [0,0,0] [0,4,5,6,7] (k:=N_rd (F1 (A1 (A1 (G_p [0,0,0] [0,4,5,6,7,49] (k:=?_)))))))))
         refine A0 (C9 kr (E3 (A6 (A6 (B5 (A0 (A1 (A1 ?_))))))))
         refine A3 (A4 (j:=5) [0,0,0,0,0] (k:=N1 [(70,false)] Tryz.func161 (fun hc=>is_ (((64 * (((64 * (((64 * ((B1 s 0) - 240))+(B1 s 1)) - 128))+(B1 s 2)) - 128))+(B1 s 3)) - 128) _ _) (A8 [0,5] [4,5,74] (k:=A0 (B0 (b:=(decide ((((64 * (((64 * (((64 * ((B1 s 0) - 240))+(B1 s 1)) - 128))+(B1 s 2)) - 128))+(B1 s 3)) - 128)<65536))||(!(isB (((64 * (((64 * (((64 * ((B1 s 0) - 240))+(B1 s 1)) - 128))+(B1 s 2)) - 128))+(B1 s 3)) - 128)))) kr (fun hc51=>?_) (fun hc51=>?_))))))
         ·
          simp only [Bool.or_eq_true,Bool.not_eq_true',decide_eq_true_eq,H5,isR] at hc51
          refine A1 (G_p [0,0] [2,3] (k:=A0 (B8 (A5 (B7 [.tmp 2,.tmp 3] [.int .i64 (-1),.int .i64 1] (k:=?_))))))
          exact ⟨by rw [Q7 (l:=s.data.toList) (Q9 (b0:=bt s 0) (b1:=bt s 1) (b2:=bt s 2) (b3:=bt s 3) (by rw [hl]; omega))]; rfl,rfl⟩
         ·
          simp only [Bool.or_eq_false_iff,Bool.not_eq_false',decide_eq_false_iff_not,isB_iff,isR] at hc51
          refine A9 (A0 (A1 (G_p [0,0,0,0] [2,3] (k:=A0 (B8 (B7 [.tmp 2,.tmp 3] [.int .i64 (((64 * (((64 * (((64 * ((B1 s 0) - 240))+(B1 s 1)) - 128))+(B1 s 2)) - 128))+(B1 s 3)) - 128),.int .i64 4] (k:=?_)))))))
          exact ⟨by rw [rdP_ok (l:=s.data.toList) (dec4 (b0:=bt s 0) (b1:=bt s 1) (b2:=bt s 2) (b3:=bt s 3) (by (try rw [hl]); omega)) (by omega)]; exact congrArg (fun x=>Value.tuple #[.int .i64 x,.int .i64 4]) (by omega),rfl⟩
    ·
     simp only [Bool.and_eq_false_iff,decide_eq_false_iff_not,ge_iff_le] at hc30
     refine A1 (G_p [0,0] [2,3] (k:=A0 (B8 (B3 (A5 (B7 [.tmp 2,.tmp 3] [.int .i64 (-1),.int .i64 1] (k:=?_)))))))
     exact ⟨by rw [Q7 (l:=s.data.toList) (Q9 (b0:=bt s 0) (b1:=bt s 1) (b2:=bt s 2) (b3:=bt s 3) (by rw [hl]; omega))]; rfl,rfl⟩
theorem one_ (p:Int) (hp:isR p) (W0:World) (H:List Grp):Tri Tryz.prog 122 #[.int .i64 p] W0 H (fun v H'=>∃ b,v=.slice (some ⟨b,0,none⟩) (Lib.encodeRune p).length (Lib.encodeRune p).length∧H'=[(b,.cells (u8s (Lib.encodeRune p)).toArray 5 (0,0))]::H):=by
 obtain ⟨hp0,hp1,hp2⟩:=hp
 refine D4 57 Tryz.func122 ?_
 refine A1 (B9 (E':=[⟨0,[],.int .i64 p⟩]) [0] [0] (k:=A0 (A1 (B2 (A1 (G_p [0,0,0] [0,3] (k:=A0 (B0 (b:=decide (p<128)) kr (fun hc1=>?_) (fun hc1=>?_)))))))))
 ·
  simp only [decide_eq_true_eq] at hc1
  refine A1 (A3 (A4 (j:=2) [0,0] (k:=F6 7 (x:=.int .u8 (IntKind.wrap .u8 p)) (y:=.int .u8 p) (by rw [w8i (x:=p) (by omega) (by omega)]) (L0 5 1 [.int .u8 p] (fun b2=>A8 [0] [2] (k:=A0 (B8 (B3 ?_))))))))
  refine A5 (B7 [.tmp 2] [.slice (some ⟨b2,0,none⟩) 1 1] (k:=?_))
  exact ⟨b2,by rw [show (Lib.encodeRune p).length=1 by unfold Lib.encodeRune; rw [Lib.encodeRuneZ_one (r:=p) (by omega) (by omega)]; rfl]; rfl,by rw [Y6,Lib.encodeRuneZ_one (r:=p) (by omega) (by omega)]; rfl⟩
 ·
  simp only [decide_eq_false_iff_not] at hc1
  refine A1 (G_p [0,0,0] [0,9] (k:=A0 (B0 (b:=decide (p<2048)) kr (fun hc3=>?_) (fun hc3=>?_))))
  ·
   simp only [decide_eq_true_eq] at hc3
   refine A1 (A3 (A4 (j:=2) [0,0] (k:=?_)))
   have hw4:IntKind.wrap .i64 (Int.tdiv p 64)=p / 64:=q64 (by omega) (by omega) (by decide)
   refine GL_w 13 hw4 kr (A4 (j:=3) [0] (k:=D0 14 (192+(p / 64)) (by omega) (by omega) kr (A4 (j:=4) [0] (k:=F6 15 (x:=.int .u8 (IntKind.wrap .u8 (192+(p / 64)))) (y:=.int .u8 (192+(p / 64))) (by rw [w8i (x:=(192+(p / 64))) (by omega) (by omega)]) (A4 (j:=6) [0,0] (k:=?_))))))
   have hw6:Int.tmod p 64=p % 64:=r64 (by omega)
   refine GL_w 17 hw6 kr (A4 (j:=7) [0] (k:=D0 18 (128+(p % 64)) (by omega) (by omega) kr (A4 (j:=8) [0] (k:=F6 19 (x:=.int .u8 (IntKind.wrap .u8 (128+(p % 64)))) (y:=.int .u8 (128+(p % 64))) (by rw [w8i (x:=(128+(p % 64))) (by omega) (by omega)]) (L0 5 2 [.int .u8 (192+(p / 64)),.int .u8 (128+(p % 64))] (fun b8=>A8 [0] [2] (k:=A0 (B8 ?_))))))))
   refine B3 (A5 (B7 [.tmp 2] [.slice (some ⟨b8,0,none⟩) 2 2] (k:=?_)))
   exact ⟨b8,by rw [show (Lib.encodeRune p).length=2 by unfold Lib.encodeRune; rw [Lib.encodeRuneZ_two (r:=p) (by omega) (by omega)]; rfl]; rfl,by rw [Y6,Lib.encodeRuneZ_two (r:=p) (by omega) (by omega)]; rfl⟩
  ·
   simp only [decide_eq_false_iff_not] at hc3
   refine A1 (G_p [0,0,0] [0,21] (k:=A0 (B0 (b:=decide (p<65536)) kr (fun hc9=>?_) (fun hc9=>?_))))
   ·
    simp only [decide_eq_true_eq] at hc9
    refine A1 (A3 (A4 (j:=2) [0,0] (k:=?_)))
    have hw10:IntKind.wrap .i64 (Int.tdiv p 4096)=p / 4096:=q64 (by omega) (by omega) (by decide)
    refine GL_w 25 hw10 kr (A4 (j:=3) [0] (k:=D0 26 (224+(p / 4096)) (by omega) (by omega) kr (A4 (j:=4) [0] (k:=F6 27 (x:=.int .u8 (IntKind.wrap .u8 (224+(p / 4096)))) (y:=.int .u8 (224+(p / 4096))) (by rw [w8i (x:=(224+(p / 4096))) (by omega) (by omega)]) (A4 (j:=6) [0,0] (k:=?_))))))
    have hw12:IntKind.wrap .i64 (Int.tdiv p 64)=p / 64:=q64 (by omega) (by omega) (by decide)
    refine GL_w 29 hw12 kr (A4 (j:=7) [0] (k:=?_))
    have hw13:Int.tmod (p / 64) 64=(p / 64) % 64:=r64 (by omega)
    refine GL_w 30 hw13 kr (A4 (j:=8) [0] (k:=D0 31 (128+((p / 64) % 64)) (by omega) (by omega) kr (A4 (j:=9) [0] (k:=F6 32 (x:=.int .u8 (IntKind.wrap .u8 (128+((p / 64) % 64)))) (y:=.int .u8 (128+((p / 64) % 64))) (by rw [w8i (x:=(128+((p / 64) % 64))) (by omega) (by omega)]) (A4 (j:=11) [0,0] (k:=?_))))))
    have hw15:Int.tmod p 64=p % 64:=r64 (by omega)
    refine GL_w 34 hw15 kr (A4 (j:=12) [0] (k:=D0 35 (128+(p % 64)) (by omega) (by omega) kr (A4 (j:=13) [0] (k:=F6 36 (x:=.int .u8 (IntKind.wrap .u8 (128+(p % 64)))) (y:=.int .u8 (128+(p % 64))) (by rw [w8i (x:=(128+(p % 64))) (by omega) (by omega)]) (L0 5 3 [.int .u8 (224+(p / 4096)),.int .u8 (128+((p / 64) % 64)),.int .u8 (128+(p % 64))] (fun b17=>A8 [0] [2] (k:=A0 (B8 ?_))))))))
    refine B3 (A5 (B7 [.tmp 2] [.slice (some ⟨b17,0,none⟩) 3 3] (k:=?_)))
    exact ⟨b17,by rw [show (Lib.encodeRune p).length=3 by unfold Lib.encodeRune; rw [Lib.encodeRuneZ_three (r:=p) (by omega)]; rfl]; rfl,by rw [Y6,Lib.encodeRuneZ_three (r:=p) (by omega)]; rfl⟩
   ·
    simp only [decide_eq_false_iff_not] at hc9
    refine A9 (B6 (A0 (A1 (A3 (A4 (j:=2) [0,0] (k:=?_))))))
    have hw18:IntKind.wrap .i64 (Int.tdiv p 262144)=p / 262144:=q64 (by omega) (by omega) (by decide)
    refine GL_w 39 hw18 kr (A4 (j:=3) [0] (k:=D0 40 (240+(p / 262144)) (by omega) (by omega) kr (A4 (j:=4) [0] (k:=F6 41 (x:=.int .u8 (IntKind.wrap .u8 (240+(p / 262144)))) (y:=.int .u8 (240+(p / 262144))) (by rw [w8i (x:=(240+(p / 262144))) (by omega) (by omega)]) (A4 (j:=6) [0,0] (k:=?_))))))
    have hw20:IntKind.wrap .i64 (Int.tdiv p 4096)=p / 4096:=q64 (by omega) (by omega) (by decide)
    refine GL_w 43 hw20 kr (A4 (j:=7) [0] (k:=?_))
    have hw21:Int.tmod (p / 4096) 64=(p / 4096) % 64:=r64 (by omega)
    refine GL_w 44 hw21 kr (A4 (j:=8) [0] (k:=D0 45 (128+((p / 4096) % 64)) (by omega) (by omega) kr (A4 (j:=9) [0] (k:=F6 46 (x:=.int .u8 (IntKind.wrap .u8 (128+((p / 4096) % 64)))) (y:=.int .u8 (128+((p / 4096) % 64))) (by rw [w8i (x:=(128+((p / 4096) % 64))) (by omega) (by omega)]) (A4 (j:=11) [0,0] (k:=?_))))))
    have hw23:IntKind.wrap .i64 (Int.tdiv p 64)=p / 64:=q64 (by omega) (by omega) (by decide)
    refine GL_w 48 hw23 kr (A4 (j:=12) [0] (k:=?_))
    have hw24:Int.tmod (p / 64) 64=(p / 64) % 64:=r64 (by omega)
    refine GL_w 49 hw24 kr (A4 (j:=13) [0] (k:=D0 50 (128+((p / 64) % 64)) (by omega) (by omega) kr (A4 (j:=14) [0] (k:=F6 51 (x:=.int .u8 (IntKind.wrap .u8 (128+((p / 64) % 64)))) (y:=.int .u8 (128+((p / 64) % 64))) (by rw [w8i (x:=(128+((p / 64) % 64))) (by omega) (by omega)]) (A4 (j:=16) [0,0] (k:=?_))))))
    have hw26:Int.tmod p 64=p % 64:=r64 (by omega)
    refine GL_w 53 hw26 kr (A4 (j:=17) [0] (k:=D0 54 (128+(p % 64)) (by omega) (by omega) kr (A4 (j:=18) [0] (k:=F6 55 (x:=.int .u8 (IntKind.wrap .u8 (128+(p % 64)))) (y:=.int .u8 (128+(p % 64))) (by rw [w8i (x:=(128+(p % 64))) (by omega) (by omega)]) (L0 5 4 [.int .u8 (240+(p / 262144)),.int .u8 (128+((p / 4096) % 64)),.int .u8 (128+((p / 64) % 64)),.int .u8 (128+(p % 64))] (fun b28=>A8 [0] [2] (k:=A0 (B8 ?_))))))))
    refine B7 [.tmp 2] [.slice (some ⟨b28,0,none⟩) 4 4] (k:=?_)
    exact ⟨b28,by rw [show (Lib.encodeRune p).length=4 by unfold Lib.encodeRune; rw [Lib.encodeRuneZ_four (r:=p) (by omega) (by omega)]; rfl]; rfl,by rw [Y6,Lib.encodeRuneZ_four (r:=p) (by omega) (by omega)]; rfl⟩
theorem points_ (s:ByteArray) (hs:s.size≤1000000000) (W0:World) (H:List Grp):Tri Tryz.prog 94 #[.string s] W0 H (fun v H'=>∃ a c g,v=.slice a (pts s.data.toList).length c∧Go.Sw.Own 3 1 (.slice a (pts s.data.toList).length c) g (pts s.data.toList).length (intV (pts s.data.toList))∧H'=g::H):=by
 refine D4 26 Tryz.func94 ?_
 refine A1 (B9 (E':=[⟨0,[],.string s⟩]) [0] [0] (k:=A0 (A1 (G_p [0] [0,3] (k:=A0 (A1 (A1 (G_p [0] [0,3,4] (k:=?_)))))))))
 refine A0 (B2 (V6 (H':=([]::H)) (fun w h=>h.flat (List.Perm.refl _)) (I3 (EI:=(fun ξ:Option Addr × Nat × Grp × List Int × Nat=>[⟨0,[],.string s⟩,⟨3,[],.slice ξ.1 ξ.2.2.2.1.length ξ.2.1⟩,⟨4,[],.int .i64 ((ξ.2.2.2.2:Nat):Int)⟩])) (HI:=(fun ξ:Option Addr × Nat × Grp × List Int × Nat=>(ξ.2.2.1::H))) (Φ:=(fun ξ:Option Addr × Nat × Grp × List Int × Nat=>(Go.Sw.Own 3 1 (.slice ξ.1 ξ.2.2.2.1.length ξ.2.1) ξ.2.2.1 ξ.2.2.2.1.length (intV ξ.2.2.2.1))∧(ξ.2.2.2.2≤s.size)∧(ξ.2.2.2.1++pts (s.data.toList.drop ξ.2.2.2.2)=pts s.data.toList))) (μ:=(fun ξ:Option Addr × Nat × Grp × List Int × Nat=>s.size - ξ.2.2.2.2)) (s0:=(none,0,[],[],0)) [0,3,4] kr rfl ⟨Go.Sw.Own.nil,(by (try dsimp only); omega),rfl⟩ ?_)))
 rintro ⟨ra,rc,rg,l1,i⟩ ⟨hO,hi,hT⟩
 dsimp only at hO hi hT
 have hll:l1.length≤s.size:=by
  have h1:=congrArg List.length hT
  have h2:=pts_len s.data.toList
  rw [List.length_append] at h1; rw [H4] at h2; omega
 refine A1 (A1 (G_p [0,0,0,0] [0,3,4,10] (k:=A0 (B0 (b:=decide (((i:Nat):Int)<(s.size:Int))) kr (fun hc1=>?_) (fun hc1=>?_)))))
 ·
  simp only [decide_eq_true_eq] at hc1
  have hlt:i<s.size:=by omega
  have hw:=rdP_w (s.data.toList.drop i) (dropR_ne (by omega))
  rw [← O9,H4,sz_dropR] at hw
  refine A9 (A0 (B2 (A1 (A3 (A4 (j:=2) [0,0] (k:=O2 s ((i:Nat):Int) (s.size:Int) (fun _=>by omega) (F8 Tryz.func139 (read_ (s.extract i s.size) (by first | omega | (rw [sz_dropR]; omega)) (by first | omega | (rw [sz_dropR]; omega)) _ _) (A8 [0,0,0,0,0] [0,3,4,5,6] (k:=?_)))))))))
  refine A0 (A1 (A3 (A4 (j:=2) [0,0] (k:=L0 3 1 [.int .i64 ((rdP (s.extract i s.size).data.toList).1)] (fun b2=>O4 (inf:=Tryz.t3) 1 0 1 rfl rfl hO (by omega) (by show (l1.length+1) * 8≤140737488355328; omega) (fun v3 g4 hO5=>?_))))))
  obtain ⟨a6,cap7,rfl,hcap8,hrd9⟩:=hO5.shape
  refine A8 [0] [0,3,4,6] (k:=A0 ?_)
  have hw10:IntKind.wrap .i64 (((i:Nat):Int)+((rdP (s.extract i s.size).data.toList).2:Int))=((i:Nat):Int)+((rdP (s.extract i s.size).data.toList).2:Int):=w64 (by omega) (by omega)
  refine A3 (A4 (j:=3) [0,0,0] (k:=F6 24 (x:=.int .i64 (IntKind.wrap .i64 (((i:Nat):Int)+((rdP (s.extract i s.size).data.toList).2:Int)))) (y:=.int .i64 (((i:Nat):Int)+((rdP (s.extract i s.size).data.toList).2:Int))) (by simp only [hw10]) (F6 24 (x:=.int .i64 (((i:Nat):Int)+((rdP (s.extract i s.size).data.toList).2:Int))) (y:=.int .i64 ((i+(rdP (s.extract i s.size).data.toList).2:Nat):Int)) (by rw [Int.natCast_add]) (A8 [0] [0,3,4] (k:=B6 ?_)))))
  have hln:(l1.length+1)=(l1++[((rdP (s.extract i s.size).data.toList).1)]).length:=by first | exact List.length_append.symm | (rw [List.length_append]; rfl)
  refine Q1 (E':=[⟨0,[],.string s⟩,⟨3,[],.slice a6 (l1.length+1) cap7⟩,⟨4,[],.int .i64 ((i+(rdP (s.extract i s.size).data.toList).2:Nat):Int)⟩]) kr (Q1 (E':=[⟨0,[],.string s⟩,⟨3,[],.slice a6 ((l1++[((rdP (s.extract i s.size).data.toList).1)]).length) cap7⟩,⟨4,[],.int .i64 ((i+(rdP (s.extract i s.size).data.toList).2:Nat):Int)⟩]) (by rw [hln]) (E9 1 [1] (D2 (s':=(a6,cap7,g4,(l1++[((rdP (s.extract i s.size).data.toList).1)]),i+(rdP (s.extract i s.size).data.toList).2)) [0,3,4] kr kr ⟨(own_castS hO5 hln (by dsimp only; first | exact (iv_app _ _).symm | (rw [iv_app]; rfl))),(by dsimp only; omega),(by dsimp only; rw [List.append_assoc,List.singleton_append,← pts_next hlt]; exact hT)⟩ (by dsimp only; omega))))
 ·
  simp only [decide_eq_false_iff_not] at hc1
  refine E3 (A6 (A6 (B5 (A0 (A1 (B9 (E':=[⟨2,[],.slice ra l1.length rc⟩]) [0,0] [2] (k:=A0 (B8 ?_))))))))
  refine B7 [.tmp 2] [.slice ra l1.length rc] (k:=?_)
  have he:l1=pts s.data.toList:=by rw [← hT,List.drop_eq_nil_of_le (by rw [H4]; omega)]; exact (List.append_nil _).symm
  rw [he] at hO ⊢
  exact ⟨_,_,_,rfl,hO,rfl⟩
end Go.Proofs.YtppgfiklmfoaeaaGreatDoor
namespace Go.Sw
open Go.RowKit
theorem GL_bytesB {d:Bool} {P:Program} {ops:Array Oper} {i:Nat} {Q:E5} {n:Fr} {E:Env} {W0:World} {H:List Grp} {o:Oper} {ch:List (Nat × Bool)} {src dst e:TypeId} {x:Operand} {a:Option Addr} {cap:Nat} {S:Nat→Obj→Prop} (b:ByteArray)
    (ho:ops[i]? = some o:=by exact rfl) (hop:o.op=.convert src dst x:=by exact rfl) (hx:evO E ch x=some (.slice a b.size cap):=by kernel_rfl) (hs:P.underlying src=some (.slice e):=by kernel_rfl) (he:P.underlying e=some (.int .u8):=by kernel_rfl) (hds:P.underlying dst=some .string:=by kernel_rfl)
    (hch:D5 ops E o.guard=some ch:=by kernel_rfl) (hd:F3 n ch o.dst=true:=by kernel_rfl) (hk:J4 E ch=true:=by kernel_rfl)
    (hrd:Rd S a (u8s b.data.toList)) (hS:∀ b o,S b o→At W0 H b o)
    (k:GL d P ops (i+1) Q n (Env.put E o.dst ch (.string b)) W0 H):GL d P ops i Q n E W0 H:=by
  cases a with
  | some a =>
    refine M3 (cap:=cap) b.data.toList ho hop ?_ hs he hds hch hd hk hrd hS ?_
    · rw [hx,show b.data.toList.length=b.size from Array.length_toList]
    · have:(⟨b.data.toList.toArray⟩:ByteArray)=b:=by cases b; simp
      rw [this]; exact k
  | none =>
    have h0:b=ByteArray.empty:=by
      rcases hrd with h | ⟨_,_,_,_,_,h,_⟩
      · have h1:=congrArg List.length h
        unfold u8s at h1
        rw [List.length_map] at h1
        cases b with | mk d =>
        have:d=#[]:=Array.eq_empty_of_size_eq_zero (by simpa using h1)
        rw [this]; rfl
      · cases h
    refine I5 ho hch hd hk (fun r hr _ w _=>?_) k
    unfold execOp
    simp only [hop]
    rw [hr _ _ hx,h0]
    have:=run_convert_bytes_string (P:=P) w src dst e none ByteArray.empty.size cap hs he hds
    simp only [Sem.run_bind,this]
    exact ⟨rfl,rfl⟩
end Go.Sw
namespace Go.Proofs.YtppgfiklmfoaeaaGreatDoor
open Go.Sw Go.Sha Go.Esc Go.RowKit
theorem text_ (a:Option Addr) (c:Nat) (ps:List Int) (S:Nat→Obj→Prop) (hrd:Rd S a (intV ps)) (hps:∀ p∈ps,isR p) (hl:ps.length≤1000000000) (W0:World) (H:List Grp) (hS:∀ y o,S y o→At W0 H y o):Tri Tryz.prog 76 #[.slice a ps.length c] W0 H (fun v H'=>v=.string ⟨(J3 ps).toArray⟩∧H'=H):=by
 refine D4 19 Tryz.func76 ?_
 refine A1 (B9 (E':=[⟨0,[],.slice a ps.length c⟩]) [0] [0] (k:=A0 (A1 (G_p [0] [0,3] (k:=A0 (A1 (A1 (G_p [0,0,0] [3,6,7,8] (k:=?_)))))))))
 refine A0 (B2 (V6 (H':=([]::H)) (fun w h=>h.flat (List.Perm.refl _)) (I3 (EI:=(fun ξ:Option Addr × Nat × Grp × List UInt8 × Nat=>[⟨3,[],.slice ξ.1 ξ.2.2.2.1.length ξ.2.1⟩,⟨6,[],.slice a ps.length c⟩,⟨7,[],.int .i64 ((ps.length:Nat):Int)⟩,⟨8,[],.int .i64 ((ξ.2.2.2.2:Nat):Int)⟩])) (HI:=(fun ξ:Option Addr × Nat × Grp × List UInt8 × Nat=>(ξ.2.2.1::H))) (Φ:=(fun ξ:Option Addr × Nat × Grp × List UInt8 × Nat=>(Go.Sw.Own 5 1 (.slice ξ.1 ξ.2.2.2.1.length ξ.2.1) ξ.2.2.1 ξ.2.2.2.1.length (u8s ξ.2.2.2.1))∧(ξ.2.2.2.2≤ps.length)∧(ξ.2.2.2.1=J3 (ps.take ξ.2.2.2.2)))) (μ:=(fun ξ:Option Addr × Nat × Grp × List UInt8 × Nat=>ps.length - ξ.2.2.2.2)) (s0:=(none,0,[],[],0)) [3,6,7,8] kr rfl ⟨Go.Sw.Own.nil,(by (try dsimp only); omega),rfl⟩ ?_)))
 rintro ⟨ra,rc,rg,l1,k⟩ ⟨hO,hk,hT⟩
 dsimp only at hO hk hT
 have hll:l1.length≤4 * ps.length:=by
  rw [hT]; have:=encL_len (ps.take k); rw [List.length_take] at this; omega
 refine A1 (G_p [0] [3,6,7,8,9] (k:=A0 (A1 (B0 (b:=decide (((k:Nat):Int)<((ps.length:Nat):Int))) kr (fun hc1=>?_) (fun hc1=>?_)))))
 ·
  simp only [decide_eq_true_eq] at hc1
  have hlt:k<ps.length:=by omega
  have hel:=enc_len (ps.getD k 0)
  refine A9 (A0 (A1 (B2 (A1 (A3 (E6 ps.length ((k:Nat):Int) 1 hrd (by exact ⟨by omega,by omega,iv_ne (by omega)⟩) (I0 (k * 1) (.int .i64 (ps.getD k 0)) hrd (fun y o h=>(At.cons (hS y o h))) (fun _=>(by rw [Nat.mul_one]; exact iv_at (ps:=ps) (k:=k) (by omega))) (A8 [0] [3,5,6,7,8] (k:=?_)))))))))
  refine A0 (A3 (A4 (j:=2) [0,0] (k:=E0 (vs:=[.int .i64 (ps.getD k 0)]) Tryz.func122 (one_ (ps.getD k 0) (hps _ (memI hlt)) _ _) ?_)))
  rintro _ _ ⟨ob2,rfl,rfl⟩
  refine GL_append (i:=3) (ch:=[]) (t:=22) (tx:=22) (e:=5) (inf:=Tryz.t5) (s:=.slice ra l1.length rc) (x:=.slice (some ⟨ob2,0,none⟩) ((Lib.encodeRune (ps.getD k 0)).length) ((Lib.encodeRune (ps.getD k 0)).length)) (n:=l1.length) (m:=(Lib.encodeRune (ps.getD k 0)).length) (j:=1) (cs:=(u8s l1)) (news:=(u8s (Lib.encodeRune (ps.getD k 0)))) (g:=rg) (S:=(inG [(ob2,.cells (u8s (Lib.encodeRune (ps.getD k 0))).toArray 5 (0,0))])) rfl rfl rfl rfl kr kr kr rfl rfl (.inl ⟨5,kr⟩) (fun ⟨_,h⟩=>by cases h) (fun _=>⟨5,kr⟩) kr kr kr rfl hO (SrcOf.slice _ _ _ _ Rd.lit (fun h=>by cases h)) (D9 0 rfl) (by rw [show (u8s (Lib.encodeRune _)).length=_ from List.length_map _]; exact (Nat.mul_one _).symm) Go.Sha.u8_one (by omega) (by show (l1.length+(Lib.encodeRune (ps.getD k 0)).length) * 1≤140737488355328; omega) (fun v3 g4 hO5=>?_)
  obtain ⟨a6,cap7,rfl,hcap8,hrd9⟩:=hO5.shape
  refine A8 [0] [3,6,7,8] (k:=B6 (A0 (A3 (A4 (j:=1) [0] (k:=D0 16 (((k:Nat):Int)+1) (by omega) (by omega) kr (A8 [0] [3,6,7,8] (k:=?_)))))))
  have hln:(l1.length+(Lib.encodeRune (ps.getD k 0)).length)=(l1++(Lib.encodeRune (ps.getD k 0))).length:=by first | exact List.length_append.symm | (rw [List.length_append]; rfl)
  refine Q1 (E':=[⟨3,[],.slice a6 (l1.length+(Lib.encodeRune (ps.getD k 0)).length) cap7⟩,⟨6,[],.slice a ps.length c⟩,⟨7,[],.int .i64 ((ps.length:Nat):Int)⟩,⟨8,[],.int .i64 (((k:Nat):Int)+1)⟩]) kr (Q1 (E':=[⟨3,[],.slice a6 ((l1++(Lib.encodeRune (ps.getD k 0))).length) cap7⟩,⟨6,[],.slice a ps.length c⟩,⟨7,[],.int .i64 ((ps.length:Nat):Int)⟩,⟨8,[],.int .i64 (((k:Nat):Int)+1)⟩]) (by rw [hln]) (E9 1 [1] (D2 (s':=(a6,cap7,g4,(l1++(Lib.encodeRune (ps.getD k 0))),k+1)) [3,6,7,8] kr kr ⟨(own_castS hO5 hln (by dsimp only; first | exact (Go.Sha.u8s_append _ _).symm | (rw [Go.Sha.u8s_append]; rfl))),(by (try dsimp only); omega),(by dsimp only; rw [takeI _ hlt,encL_app,← hT]; congr 1; exact (List.append_nil _).symm)⟩ (by (try dsimp only); omega))))
 ·
  simp only [decide_eq_false_iff_not] at hc1
  refine E3 (A6 (A6 (B5 (A0 (A1 (A3 (A4 (j:=1) [0] (k:=GL_bytesB (ch:=[]) (a:=ra) (cap:=rc) (e:=5) (S:=(inG rg)) (bk l1) (hrd:=H7 hO) (hS:=D9 0 rfl) (k:=?_)))))))))
  refine B4 (E':=[⟨2,[],.string (bk l1)⟩]) [0] [2] (k:=A0 (B8 (E9 1 [] (B7 [.tmp 2] [.string (bk l1)] (k:=?_)))))
  exact ⟨congrArg Value.string (by rw [hT,List.take_of_length_le (by omega)]),rfl⟩
theorem fixed_ (s:ByteArray) (hs:s.size≤1000000000) (W0:World) (H:List Grp):Tri Tryz.prog 75 #[.string s] W0 H (fun v H'=>∃ a c g,v=.slice a (J7 s.data.toList).length c∧Go.Sw.Own 3 1 (.slice a (J7 s.data.toList).length c) g (J7 s.data.toList).length (intV (J7 s.data.toList))∧H'=g::H):=by
 refine D4 21 Tryz.func75 ?_
 refine A1 (B9 (E':=[⟨0,[],.string s⟩]) [0] [0] (k:=A0 (A1 (G_p [0] [0,3] (k:=A0 (A1 (A1 (A3 ?_))))))))
 refine A4 (j:=1) [0] (k:=E0 Tryz.func94 (points_ s (by omega) _ _) ?_)
 rintro _ _ ⟨iap0,icp0,igp0,rfl,iOp0,rfl⟩
 refine A8 [0,0] [3,7,8,9] (k:=A0 (B2 (V6 (H':=([]::igp0::H)) (fun w h=>h.flat (List.Perm.refl _)) (I3 (EI:=(fun ξ:Option Addr × Nat × Grp × List Int × Nat=>[⟨3,[],.slice ξ.1 ξ.2.2.2.1.length ξ.2.1⟩,⟨7,[],.slice iap0 ((pts s.data.toList).length) icp0⟩,⟨8,[],.int .i64 (((pts s.data.toList).length:Nat):Int)⟩,⟨9,[],.int .i64 ((ξ.2.2.2.2:Nat):Int)⟩])) (HI:=(fun ξ:Option Addr × Nat × Grp × List Int × Nat=>(ξ.2.2.1::igp0::H))) (Φ:=(fun ξ:Option Addr × Nat × Grp × List Int × Nat=>(Go.Sw.Own 3 1 (.slice ξ.1 ξ.2.2.2.1.length ξ.2.1) ξ.2.2.1 ξ.2.2.2.1.length (intV ξ.2.2.2.1))∧(ξ.2.2.2.2≤(pts s.data.toList).length)∧(ξ.2.2.2.1=((pts s.data.toList).take ξ.2.2.2.2).map fixP))) (μ:=(fun ξ:Option Addr × Nat × Grp × List Int × Nat=>(pts s.data.toList).length - ξ.2.2.2.2)) (s0:=(none,0,[],[],0)) [3,7,8,9] kr rfl ⟨Go.Sw.Own.nil,(by (try dsimp only); omega),rfl⟩ ?_))))
 rintro ⟨ra,rc,rg,l1,k⟩ ⟨hO,hk,hT⟩
 dsimp only at hO hk hT
 have hpl:=pts_len s.data.toList
 rw [H4] at hpl
 have hll:l1.length≤s.size:=by
  rw [hT,List.length_map,List.length_take]; omega
 refine A1 (G_p [0] [3,7,8,9,10] (k:=A0 (A1 (B0 (b:=decide (((k:Nat):Int)<(((pts s.data.toList).length:Nat):Int))) kr (fun hc2=>?_) (fun hc2=>?_)))))
 ·
  simp only [decide_eq_true_eq] at hc2
  have hlt:k<(pts s.data.toList).length:=by omega
  refine A9 (A0 (A1 (B2 (A1 (A3 (E6 (a:=iap0) (S:=(inG igp0)) (cs:=(intV (pts s.data.toList))) ((pts s.data.toList).length) ((k:Nat):Int) 1 (H7 iOp0) (by exact ⟨by omega,by omega,iv_ne (by omega)⟩) (I0 (a:=iap0) (S:=(inG igp0)) (cs:=(intV (pts s.data.toList))) (k * 1) (.int .i64 ((pts s.data.toList).getD k 0)) (H7 iOp0) (D9 1 rfl) (fun _=>(by rw [Nat.mul_one]; exact iv_at (ps:=(pts s.data.toList)) (k:=k) (by omega))) (A8 [0] [3,5,7,8,9] (k:=?_)))))))))
  refine A0 (A1 (A1 (G_p [0,0] [3,5,7,8,9,14] (k:=A0 (B0 (b:=decide (((pts s.data.toList).getD k 0)<0)) kr (fun hc3=>?_) (fun hc3=>?_))))))
  ·
   simp only [decide_eq_true_eq] at hc3
   refine G_p [0] [3,5,7,8,9] (k:=A0 (A3 (A4 (j:=2) [0,0] (k:=L0 3 1 [.int .i64 65533] (fun b4=>O4 (inf:=Tryz.t3) 1 0 1 rfl rfl hO (by omega) (by show (l1.length+1) * 8≤140737488355328; omega) (fun v5 g6 hO7=>?_))))))
   obtain ⟨a8,cap9,rfl,hcap10,hrd11⟩:=hO7.shape
   refine A8 [0] [3,7,8,9] (k:=B6 (A0 (A3 (A4 (j:=1) [0] (k:=D0 19 (((k:Nat):Int)+1) (by omega) (by omega) kr (B4 (E':=[⟨3,[],.slice a8 (l1.length+1) cap9⟩,⟨7,[],.slice iap0 ((pts s.data.toList).length) icp0⟩,⟨8,[],.int .i64 (((pts s.data.toList).length:Nat):Int)⟩,⟨9,[],.int .i64 (((k:Nat):Int)+1)⟩]) [0] [3,7,8,9] (k:=?_)))))))
   have hln:(l1.length+1)=(l1++[65533]).length:=by first | exact List.length_append.symm | (rw [List.length_append]; rfl)
   refine Q1 (E':=[⟨3,[],.slice a8 ((l1++[65533]).length) cap9⟩,⟨7,[],.slice iap0 ((pts s.data.toList).length) icp0⟩,⟨8,[],.int .i64 (((pts s.data.toList).length:Nat):Int)⟩,⟨9,[],.int .i64 (((k:Nat):Int)+1)⟩]) (by rw [hln]) (E9 1 [1,1] (D2 (s':=(a8,cap9,g6,(l1++[65533]),k+1)) [3,7,8,9] kr kr ⟨(own_castS hO7 hln (by dsimp only; first | exact (iv_app _ _).symm | (rw [iv_app]; rfl))),(by (try dsimp only); omega),(by dsimp only; rw [takeI _ hlt,List.map_append,← hT]; unfold fixP; simp only [List.map_cons,List.map_nil]; first | rw [if_pos (by omega)] | rw [if_neg (by omega)])⟩ (by (try dsimp only); omega)))
  ·
   simp only [decide_eq_false_iff_not] at hc3
   refine A9 (A0 (A3 (A4 (j:=2) [0,0] (k:=L0 3 1 [.int .i64 ((pts s.data.toList).getD k 0)] (fun b13=>O4 (inf:=Tryz.t3) 1 0 1 rfl rfl hO (by omega) (by show (l1.length+1) * 8≤140737488355328; omega) (fun v14 g15 hO16=>?_))))))
   obtain ⟨a17,cap18,rfl,hcap19,hrd20⟩:=hO16.shape
   refine A8 [0] [3,7,8,9] (k:=B6 (A0 (A3 (A4 (j:=1) [0] (k:=D0 19 (((k:Nat):Int)+1) (by omega) (by omega) kr (A8 [0] [3,7,8,9] (k:=?_)))))))
   have hln:(l1.length+1)=(l1++[((pts s.data.toList).getD k 0)]).length:=by first | exact List.length_append.symm | (rw [List.length_append]; rfl)
   refine Q1 (E':=[⟨3,[],.slice a17 (l1.length+1) cap18⟩,⟨7,[],.slice iap0 ((pts s.data.toList).length) icp0⟩,⟨8,[],.int .i64 (((pts s.data.toList).length:Nat):Int)⟩,⟨9,[],.int .i64 (((k:Nat):Int)+1)⟩]) kr (Q1 (E':=[⟨3,[],.slice a17 ((l1++[((pts s.data.toList).getD k 0)]).length) cap18⟩,⟨7,[],.slice iap0 ((pts s.data.toList).length) icp0⟩,⟨8,[],.int .i64 (((pts s.data.toList).length:Nat):Int)⟩,⟨9,[],.int .i64 (((k:Nat):Int)+1)⟩]) (by rw [hln]) (E9 1 [1,1] (D2 (s':=(a17,cap18,g15,(l1++[((pts s.data.toList).getD k 0)]),k+1)) [3,7,8,9] kr kr ⟨(own_castS hO16 hln (by dsimp only; first | exact (iv_app _ _).symm | (rw [iv_app]; rfl))),(by (try dsimp only); omega),(by dsimp only; rw [takeI _ hlt,List.map_append,← hT]; unfold fixP; simp only [List.map_cons,List.map_nil]; first | rw [if_pos (by omega)] | rw [if_neg (by omega)])⟩ (by (try dsimp only); omega))))
 ·
  simp only [decide_eq_false_iff_not] at hc2
  refine E3 (A6 (A6 (B5 (A0 (A1 (B9 (E':=[⟨2,[],.slice ra l1.length rc⟩]) [0,0] [2] (k:=A0 (B8 ?_))))))))
  refine E9 1 [0] (B7 [.tmp 2] [.slice ra l1.length rc] (k:=?_))
  have he:l1=J7 s.data.toList:=by rw [hT,List.take_of_length_le (by omega),runes_pts]
  rw [he] at hO ⊢
  exact ⟨_,_,_,rfl,hO,rfl⟩
theorem valid_no {l:List UInt8} {k:Nat} (h:k<(pts l).length) (hn:(pts l).getD k 0<0):K8 l=false:=by
  unfold K8
  rw [List.all_eq_false]
  exact ⟨_,memI h,by rw [decide_eq_true_eq]; omega⟩
theorem rvalid_ (s:ByteArray) (hs:s.size≤1000000000) (W0:World) (H:List Grp):Tri Tryz.prog 55 #[.string s] W0 H (fun v H'=>v=.bool (K8 s.data.toList)∧H'=H):=by
 have hpl:=pts_len s.data.toList
 rw [H4] at hpl
 refine D4 15 Tryz.func55 ?_
 refine A1 (B9 (E':=[⟨0,[],.string s⟩]) [0] [0] (k:=A0 (A1 (A1 (A3 (A4 (j:=1) [0] (k:=E0 Tryz.func94 (points_ s (by omega) _ _) ?_)))))))
 rintro _ _ ⟨iap0,icp0,igp0,rfl,iOp0,rfl⟩
 refine A8 [0,0] [6,7,8] (k:=A0 (B2 (I3 (EI:=(fun ξ:Nat=>[⟨6,[],.slice iap0 ((pts s.data.toList).length) icp0⟩,⟨7,[],.int .i64 (((pts s.data.toList).length:Nat):Int)⟩,⟨8,[],.int .i64 ((ξ:Nat):Int)⟩])) (HI:=(fun ξ:Nat=>(igp0::H))) (Φ:=(fun ξ:Nat=>(ξ≤(pts s.data.toList).length)∧(((pts s.data.toList).take ξ).all (fun p=>decide (0≤p))=true))) (μ:=(fun ξ:Nat=>(pts s.data.toList).length - ξ)) (s0:=(0)) [6,7,8] kr rfl ⟨(by omega),rfl⟩ ?_)))
 rintro k ⟨hk,hT⟩
 refine A1 (G_p [0] [6,7,8,9] (k:=A0 (A1 (B0 (b:=decide (((k:Nat):Int)<(((pts s.data.toList).length:Nat):Int))) kr (fun hc2=>?_) (fun hc2=>?_)))))
 ·
  simp only [decide_eq_true_eq] at hc2
  have hlt:k<(pts s.data.toList).length:=by omega
  refine A9 (A0 (A1 (B2 (A1 (A3 (E6 (a:=iap0) (S:=(inG igp0)) (cs:=(intV (pts s.data.toList))) ((pts s.data.toList).length) ((k:Nat):Int) 1 (H7 iOp0) (by exact ⟨by omega,by omega,iv_ne (by omega)⟩) (I0 (a:=iap0) (S:=(inG igp0)) (cs:=(intV (pts s.data.toList))) (k * 1) (.int .i64 ((pts s.data.toList).getD k 0)) (H7 iOp0) (D9 0 rfl) (fun _=>(by rw [Nat.mul_one]; exact iv_at (ps:=(pts s.data.toList)) (k:=k) (by omega))) (A8 [0] [4,6,7,8] (k:=?_)))))))))
  refine A0 (A1 (G_p [0,0] [6,7,8,13] (k:=A0 (B0 (b:=decide (((pts s.data.toList).getD k 0)<0)) kr (fun hc3=>?_) (fun hc3=>?_)))))
  ·
   simp only [decide_eq_true_eq] at hc3
   refine A1 (B9 (E':=[⟨2,[],.bool false⟩]) [0] [2] (k:=A0 (B8 (B3 (A5 (A5 (B3 (A5 ?_))))))))
   refine E9 1 [] (B7 [.tmp 2] [.bool false] (k:=?_))
   exact ⟨congrArg Value.bool (valid_no hlt (by omega)).symm,rfl⟩
  ·
   simp only [decide_eq_false_iff_not] at hc3
   refine A9 (B6 (A0 (A3 (A4 (j:=1) [0] (k:=D0 14 (((k:Nat):Int)+1) (by omega) (by omega) kr (A8 [0] [6,7,8] (k:=D2 (s':=(k+1)) [6,7,8] kr rfl ⟨(by omega),(by rw [takeI _ hlt,List.all_append,hT]; simp only [List.all_cons,List.all_nil,Bool.true_and,Bool.and_true,decide_eq_true_eq]; omega)⟩ (by omega))))))))
 ·
  simp only [decide_eq_false_iff_not] at hc2
  refine E3 (A6 (A6 (B5 (A0 (A1 (B9 (E':=[⟨2,[],.bool true⟩]) [0] [2] (k:=A0 (B8 ?_))))))))
  refine E9 1 [] (B7 [.tmp 2] [.bool true] (k:=?_))
  exact ⟨congrArg Value.bool (by unfold K8; rw [List.take_of_length_le (by omega)] at hT; exact hT.symm),rfl⟩
theorem rplain_ (s:ByteArray) (hs:s.size≤1000000000) (W0:World) (H:List Grp):Tri Tryz.prog 45 #[.string s] W0 H (fun v H'=>v=.string ⟨(D6 s.data.toList).toArray⟩∧H'=H):=by
 refine D4 42 Tryz.func45 ?_
 refine A1 (B9 (E':=[⟨0,[],.string s⟩]) [0] [0] (k:=A0 (A1 (G_p [0] [0,3] (k:=A0 (A1 (A1 (A3 ?_))))))))
 refine A4 (j:=1) [0] (k:=E0 Tryz.func75 (fixed_ s (by omega) _ _) ?_)
 rintro _ _ ⟨iaf0,icf0,igf0,rfl,iOf0,rfl⟩
 refine A8 [0,0] [3,7,8,9] (k:=A0 (B2 (V6 (H':=([]::igf0::H)) (fun w h=>h.flat (List.Perm.refl _)) (I3 (EI:=(fun ξ:Option Addr × Nat × Grp × List Int × Nat=>[⟨3,[],.slice ξ.1 ξ.2.2.2.1.length ξ.2.1⟩,⟨7,[],.slice iaf0 ((J7 s.data.toList).length) icf0⟩,⟨8,[],.int .i64 (((J7 s.data.toList).length:Nat):Int)⟩,⟨9,[],.int .i64 ((ξ.2.2.2.2:Nat):Int)⟩])) (HI:=(fun ξ:Option Addr × Nat × Grp × List Int × Nat=>(ξ.2.2.1::igf0::H))) (Φ:=(fun ξ:Option Addr × Nat × Grp × List Int × Nat=>(Go.Sw.Own 3 1 (.slice ξ.1 ξ.2.2.2.1.length ξ.2.1) ξ.2.2.1 ξ.2.2.2.1.length (intV ξ.2.2.2.1))∧(ξ.2.2.2.2≤(J7 s.data.toList).length)∧(ξ.2.2.2.1=((J7 s.data.toList).take ξ.2.2.2.2).filter M4))) (μ:=(fun ξ:Option Addr × Nat × Grp × List Int × Nat=>(J7 s.data.toList).length - ξ.2.2.2.2)) (s0:=(none,0,[],[],0)) [3,7,8,9] kr rfl ⟨Go.Sw.Own.nil,(by (try dsimp only); omega),rfl⟩ ?_))))
 rintro ⟨ra,rc,rg,l1,k⟩ ⟨hO,hk,hT⟩
 dsimp only at hO hk hT
 have hpn:=runes_len s.data.toList
 rw [H4] at hpn
 have hll:l1.length≤s.size:=by
  have h1:=List.length_filter_le M4 ((J7 s.data.toList).take k)
  rw [← hT,List.length_take] at h1; omega
 refine A1 (G_p [0] [3,7,8,9,10] (k:=A0 (A1 (B0 (b:=decide (((k:Nat):Int)<(((J7 s.data.toList).length:Nat):Int))) kr (fun hc2=>?_) (fun hc2=>?_)))))
 ·
  simp only [decide_eq_true_eq] at hc2
  have hlt:k<(J7 s.data.toList).length:=by omega
  refine A9 (A0 (A1 (B2 (A1 (A3 (E6 (a:=iaf0) (S:=(inG igf0)) (cs:=(intV (J7 s.data.toList))) ((J7 s.data.toList).length) ((k:Nat):Int) 1 (H7 iOf0) (by exact ⟨by omega,by omega,iv_ne (by omega)⟩) (I0 (a:=iaf0) (S:=(inG igf0)) (cs:=(intV (J7 s.data.toList))) (k * 1) (.int .i64 ((J7 s.data.toList).getD k 0)) (H7 iOf0) (D9 1 rfl) (fun _=>(by rw [Nat.mul_one]; exact iv_at (ps:=(J7 s.data.toList)) (k:=k) (by omega))) (A8 [0] [3,5,7,8,9] (k:=?_)))))))))
  refine A0 (A1 (G_p [0,0,0,0,0,6,0,0,0,6,0,0,0,5,0,0,0,5,0,0,0,5] [3,5,7,8,9,34] (k:=A0 (B0 (b:=(((((decide (((J7 s.data.toList).getD k 0) ≥ 32))&&(((J7 s.data.toList).getD k 0) != 65534))&&(((J7 s.data.toList).getD k 0) != 65535))||(((J7 s.data.toList).getD k 0)==9))||(((J7 s.data.toList).getD k 0)==10))||(((J7 s.data.toList).getD k 0)==13)) kr (fun hc3=>?_) (fun hc3=>?_)))))
  ·
   have hpl:M4 ((J7 s.data.toList).getD k 0)=true:=hc3
   refine A3 (A4 (j:=2) [0,0] (k:=L0 3 1 [.int .i64 ((J7 s.data.toList).getD k 0)] (fun b4=>O4 (inf:=Tryz.t3) 1 0 1 rfl rfl hO (by omega) (by show (l1.length+1) * 8≤140737488355328; omega) (fun v5 g6 hO7=>?_))))
   obtain ⟨a8,cap9,rfl,hcap10,hrd11⟩:=hO7.shape
   refine A8 [0] [3,7,8,9] (k:=B6 (A0 (A3 (A4 (j:=1) [0] (k:=D0 39 (((k:Nat):Int)+1) (by omega) (by omega) kr (A8 [0] [3,7,8,9] (k:=?_)))))))
   have hln:(l1.length+1)=(l1++[((J7 s.data.toList).getD k 0)]).length:=by first | exact List.length_append.symm | (rw [List.length_append]; rfl)
   refine Q1 (E':=[⟨3,[],.slice a8 (l1.length+1) cap9⟩,⟨7,[],.slice iaf0 ((J7 s.data.toList).length) icf0⟩,⟨8,[],.int .i64 (((J7 s.data.toList).length:Nat):Int)⟩,⟨9,[],.int .i64 (((k:Nat):Int)+1)⟩]) kr (Q1 (E':=[⟨3,[],.slice a8 ((l1++[((J7 s.data.toList).getD k 0)]).length) cap9⟩,⟨7,[],.slice iaf0 ((J7 s.data.toList).length) icf0⟩,⟨8,[],.int .i64 (((J7 s.data.toList).length:Nat):Int)⟩,⟨9,[],.int .i64 (((k:Nat):Int)+1)⟩]) (by rw [hln]) (E9 1 [1,1] (D2 (s':=(a8,cap9,g6,(l1++[((J7 s.data.toList).getD k 0)]),k+1)) [3,7,8,9] kr kr ⟨(own_castS hO7 hln (by dsimp only; first | exact (iv_app _ _).symm | (rw [iv_app]; rfl))),(by (try dsimp only); omega),(by dsimp only; rw [takeI _ hlt,List.filter_append,← hT]; simp only [List.filter_cons,List.filter_nil,hpl,if_true])⟩ (by (try dsimp only); omega))))
  ·
   have hpl:M4 ((J7 s.data.toList).getD k 0)=false:=hc3
   refine A9 (B6 (A0 (A3 (A4 (j:=1) [0] (k:=D0 39 (((k:Nat):Int)+1) (by omega) (by omega) kr (A8 [0] [3,7,8,9] (k:=D2 (s':=(ra,rc,rg,l1,k+1)) [3,7,8,9] kr rfl ⟨hO,(by (try dsimp only); omega),(by dsimp only; rw [takeI _ hlt,List.filter_append,← hT]; simp only [List.filter_cons,List.filter_nil,hpl,Bool.false_eq_true,if_false,List.append_nil])⟩ (by (try dsimp only); omega))))))))
 ·
  simp only [decide_eq_false_iff_not] at hc2
  refine E3 (A6 (A6 (B5 (A0 (A1 (A3 (A4 (j:=1) [0] (k:=E0 Tryz.func76 (text_ ra rc l1 (inG rg) (H7 hO) (by rw [hT]; intro p hp; exact runes_isR s.data.toList p (List.mem_of_mem_take (List.mem_filter.1 hp).1)) (by omega) _ _ (D9 0 rfl)) ?_))))))))
  rintro _ _ ⟨rfl,rfl⟩
  refine B4 (E':=[⟨2,[],.string (bk (J3 l1))⟩]) [0] [2] (k:=A0 (B8 (E9 2 [] (B7 [.tmp 2] [.string (bk (J3 l1))] (k:=?_)))))
  exact ⟨congrArg Value.string (by rw [hT,List.take_of_length_le (by omega)]; rfl),rfl⟩
end Go.Proofs.YtppgfiklmfoaeaaGreatDoor
namespace Go.Proofs.YtppgfiklmfoaeaaGreatDoor
open Go.Sw Go.Sha Go.Esc Go.RowKit
theorem rhtml_ (s:ByteArray) (hs:s.size≤1000000) (W0:World) (H:List Grp):Tri Tryz.prog 73 #[.string s] W0 H (fun v H'=>v=.string ⟨(G0 s.data.toList).toArray⟩∧H'=H):=by
 have hpl:=plain_len s.data.toList
 rw [H4] at hpl
 have hbk:=C8 (D6 s.data.toList)
 have hpp:=pts_len (D6 s.data.toList)
 refine D4 42 Tryz.func73 ?_
 refine A1 (B9 (E':=[⟨0,[],.string s⟩]) [0] [0] (k:=A0 (A1 (G_p [0] [0,3] (k:=A0 (A1 (A1 (A3 ?_))))))))
 refine A4 (j:=1) [0] (k:=F8 Tryz.func45 (rplain_ s (by omega) _ _) (E0 Tryz.func94 (points_ (bk (D6 s.data.toList)) (by omega) _ _) ?_))
 rintro _ _ ⟨iap0,icp0,igp0,rfl,iOp0,rfl⟩
 refine A8 [0,0] [3,8,9,10] (k:=A0 (B2 (I3 (EI:=(fun ξ:Nat × ByteArray=>[⟨3,[],.string ξ.2⟩,⟨8,[],.slice iap0 ((pts (D6 s.data.toList)).length) icp0⟩,⟨9,[],.int .i64 (((pts (D6 s.data.toList)).length:Nat):Int)⟩,⟨10,[],.int .i64 ((ξ.1:Nat):Int)⟩])) (HI:=(fun ξ:Nat × ByteArray=>(igp0::H))) (Φ:=(fun ξ:Nat × ByteArray=>(ξ.1≤(pts (D6 s.data.toList)).length)∧(ξ.2.data.toList=((pts (D6 s.data.toList)).take ξ.1).flatMap O3))) (μ:=(fun ξ:Nat × ByteArray=>(pts (D6 s.data.toList)).length - ξ.1)) (s0:=(0,eB)) [3,8,9,10] kr rfl ⟨(by omega),rfl⟩ ?_)))
 rintro ⟨k,t⟩ ⟨hk,hT⟩
 dsimp only at hk hT
 have ht:t.size≤6 * (pts (D6 s.data.toList)).length:=by
  have h1:=flat_len htmlP_len ((pts (D6 s.data.toList)).take k)
  rw [← hT,H4,List.length_take] at h1; omega
 refine A1 (G_p [0] [3,8,9,10,11] (k:=A0 (A1 (B0 (b:=decide (((k:Nat):Int)<(((pts (D6 s.data.toList)).length:Nat):Int))) kr (fun hc2=>?_) (fun hc2=>?_)))))
 ·
  simp only [decide_eq_true_eq] at hc2
  have hlt:k<(pts (D6 s.data.toList)).length:=by omega
  have hel:=enc_len ((pts (D6 s.data.toList)).getD k 0)
  refine A9 (A0 (A1 (B2 (A1 (A3 (E6 (a:=iap0) (S:=(inG igp0)) (cs:=(intV (pts (D6 s.data.toList)))) ((pts (D6 s.data.toList)).length) ((k:Nat):Int) 1 (H7 iOp0) (by exact ⟨by omega,by omega,iv_ne (by omega)⟩) (I0 (a:=iap0) (S:=(inG igp0)) (cs:=(intV (pts (D6 s.data.toList)))) (k * 1) (.int .i64 ((pts (D6 s.data.toList)).getD k 0)) (H7 iOp0) (D9 0 rfl) (fun _=>(by rw [Nat.mul_one]; exact iv_at (ps:=(pts (D6 s.data.toList))) (k:=k) (by omega))) (A8 [0] [3,5,8,9,10] (k:=?_)))))))))
  refine A0 (A1 (G_p [0] [3,5,8,9,10,14] (k:=A0 (B2 (A1 (G_p [0,0] [3,5,8,9,10,14,20] (k:=A0 (B0 (b:=((pts (D6 s.data.toList)).getD k 0)==38) kr (fun hc3=>?_) (fun hc3=>?_)))))))))
  ·
   simp only [beq_iff_eq] at hc3
   have hj:O3 ((pts (D6 s.data.toList)).getD k 0)=[38,97,109,112,59]:=by unfold O3; rw [if_pos (by omega)]
   refine A3 (A4 (j:=1) [0] (k:=K5 t (mB #[38,97,109,112,59]) (by intro _; show t.size+5≤_; omega) (A8 [0] [3,8,9,10] (k:=B6 (B6 (A0 (A3 (A4 (j:=1) [0] (k:=?_)))))))))
   refine D0 40 (((k:Nat):Int)+1) (by omega) (by omega) kr (B4 (E':=[⟨3,[],.string (t++(mB #[38,97,109,112,59]))⟩,⟨8,[],.slice iap0 ((pts (D6 s.data.toList)).length) icp0⟩,⟨9,[],.int .i64 (((pts (D6 s.data.toList)).length:Nat):Int)⟩,⟨10,[],.int .i64 (((k:Nat):Int)+1)⟩]) [0] [3,8,9,10] (k:=D2 (s':=(k+1,t++(mB #[38,97,109,112,59]))) [3,8,9,10] kr rfl ⟨(by dsimp only; omega),(by dsimp only; rw [X6 hlt,← hT,hj]; first | exact F9 _ _ | (rw [F9]; congr 1; exact List.append_nil _))⟩ (by dsimp only; omega)))
  ·
   simp only [beq_eq_false_iff_ne,ne_eq] at hc3
   refine A1 (G_p [0,0] [3,5,8,9,10,14,24] (k:=A0 (B0 (b:=((pts (D6 s.data.toList)).getD k 0)==60) kr (fun hc5=>?_) (fun hc5=>?_))))
   ·
    simp only [beq_iff_eq] at hc5
    have hj:O3 ((pts (D6 s.data.toList)).getD k 0)=[38,108,116,59]:=by unfold O3; rw [if_neg (by omega),if_pos (by omega)]
    refine A3 (A4 (j:=1) [0] (k:=K5 t (mB #[38,108,116,59]) (by intro _; show t.size+4≤_; omega) (B4 (E':=[⟨3,[],.string (t++(mB #[38,108,116,59]))⟩,⟨8,[],.slice iap0 ((pts (D6 s.data.toList)).length) icp0⟩,⟨9,[],.int .i64 (((pts (D6 s.data.toList)).length:Nat):Int)⟩,⟨10,[],.int .i64 ((k:Nat):Int)⟩]) [0] [3,8,9,10] (k:=B6 (B6 (A0 (A3 (A4 (j:=1) [0] (k:=?_)))))))))
    refine D0 40 (((k:Nat):Int)+1) (by omega) (by omega) kr (A8 [0] [3,8,9,10] (k:=D2 (s':=(k+1,t++(mB #[38,108,116,59]))) [3,8,9,10] kr rfl ⟨(by dsimp only; omega),(by dsimp only; rw [X6 hlt,← hT,hj]; first | exact F9 _ _ | (rw [F9]; congr 1; exact List.append_nil _))⟩ (by dsimp only; omega)))
   ·
    simp only [beq_eq_false_iff_ne,ne_eq] at hc5
    refine A1 (B9 (E':=[⟨3,[],.string t⟩,⟨5,[],.int .i64 ((pts (D6 s.data.toList)).getD k 0)⟩,⟨8,[],.slice iap0 ((pts (D6 s.data.toList)).length) icp0⟩,⟨9,[],.int .i64 (((pts (D6 s.data.toList)).length:Nat):Int)⟩,⟨10,[],.int .i64 ((k:Nat):Int)⟩,⟨14,[],.int .i64 ((pts (D6 s.data.toList)).getD k 0)⟩,⟨28,[],.bool (((pts (D6 s.data.toList)).getD k 0)==62)⟩]) [0,0] [3,5,8,9,10,14,28] (k:=A0 (B0 (b:=((pts (D6 s.data.toList)).getD k 0)==62) kr (fun hc7=>?_) (fun hc7=>?_))))
    ·
     simp only [beq_iff_eq] at hc7
     have hj:O3 ((pts (D6 s.data.toList)).getD k 0)=[38,103,116,59]:=by unfold O3; rw [if_neg (by omega),if_neg (by omega),if_pos (by omega)]
     refine A3 (A4 (j:=1) [0] (k:=K5 t (mB #[38,103,116,59]) (by intro _; show t.size+4≤_; omega) (A8 [0] [3,8,9,10] (k:=B6 (B6 (A0 (A3 (A4 (j:=1) [0] (k:=?_)))))))))
     refine D0 40 (((k:Nat):Int)+1) (by omega) (by omega) kr (A8 [0] [3,8,9,10] (k:=D2 (s':=(k+1,t++(mB #[38,103,116,59]))) [3,8,9,10] kr rfl ⟨(by dsimp only; omega),(by dsimp only; rw [X6 hlt,← hT,hj]; first | exact F9 _ _ | (rw [F9]; congr 1; exact List.append_nil _))⟩ (by dsimp only; omega)))
    ·
     simp only [beq_eq_false_iff_ne,ne_eq] at hc7
     refine A1 (G_p [0,0] [3,5,8,9,10,14,32] (k:=A0 (B0 (b:=((pts (D6 s.data.toList)).getD k 0)==34) kr (fun hc9=>?_) (fun hc9=>?_))))
     ·
      simp only [beq_iff_eq] at hc9
      have hj:O3 ((pts (D6 s.data.toList)).getD k 0)=[38,113,117,111,116,59]:=by unfold O3; rw [if_neg (by omega),if_neg (by omega),if_neg (by omega),if_pos (by omega)]
      refine A3 (A4 (j:=1) [0] (k:=K5 t (mB #[38,113,117,111,116,59]) (by intro _; show t.size+6≤_; omega) (A8 [0] [3,8,9,10] (k:=B6 (B6 (A0 (A3 (A4 (j:=1) [0] (k:=?_)))))))))
      refine D0 40 (((k:Nat):Int)+1) (by omega) (by omega) kr (A8 [0] [3,8,9,10] (k:=D2 (s':=(k+1,t++(mB #[38,113,117,111,116,59]))) [3,8,9,10] kr rfl ⟨(by dsimp only; omega),(by dsimp only; rw [X6 hlt,← hT,hj]; first | exact F9 _ _ | (rw [F9]; congr 1; exact List.append_nil _))⟩ (by dsimp only; omega)))
     ·
      simp only [beq_eq_false_iff_ne,ne_eq] at hc9
      refine A1 (G_p [0,0] [3,5,8,9,10,36] (k:=A0 (B0 (b:=((pts (D6 s.data.toList)).getD k 0)==39) kr (fun hc11=>?_) (fun hc11=>?_))))
      ·
       simp only [beq_iff_eq] at hc11
       have hj:O3 ((pts (D6 s.data.toList)).getD k 0)=[38,35,51,57,59]:=by unfold O3; rw [if_neg (by omega),if_neg (by omega),if_neg (by omega),if_neg (by omega),if_pos (by omega)]
       refine A3 (A4 (j:=1) [0] (k:=K5 t (mB #[38,35,51,57,59]) (by intro _; show t.size+5≤_; omega) (A8 [0] [3,8,9,10] (k:=B6 (B6 (A0 (A3 (A4 (j:=1) [0] (k:=?_)))))))))
       refine D0 40 (((k:Nat):Int)+1) (by omega) (by omega) kr (A8 [0] [3,8,9,10] (k:=D2 (s':=(k+1,t++(mB #[38,35,51,57,59]))) [3,8,9,10] kr rfl ⟨(by dsimp only; omega),(by dsimp only; rw [X6 hlt,← hT,hj]; first | exact F9 _ _ | (rw [F9]; congr 1; exact List.append_nil _))⟩ (by dsimp only; omega)))
      ·
       simp only [beq_eq_false_iff_ne,ne_eq] at hc11
       have hj:O3 ((pts (D6 s.data.toList)).getD k 0)=Lib.encodeRune ((pts (D6 s.data.toList)).getD k 0):=by unfold O3; rw [if_neg (by omega),if_neg (by omega),if_neg (by omega),if_neg (by omega),if_neg (by omega)]
       refine A3 (A4 (j:=2) [0,0] (k:=L0 3 1 [.int .i64 ((pts (D6 s.data.toList)).getD k 0)] (fun b13=>E0 (vs:=[.slice (some ⟨b13,0,none⟩) 1 1]) Tryz.func76 (text_ (some ⟨b13,0,none⟩) 1 ([((pts (D6 s.data.toList)).getD k 0)]) (inG [(b13,.cells #[.int .i64 ((pts (D6 s.data.toList)).getD k 0)] 3 (0,0))]) Rd.lit (fun p hp=>List.mem_singleton.1 hp ▸ pplain_isR s.data.toList _ (memI hlt)) (Nat.le_of_ble_eq_true rfl) _ _ (D9 0 rfl)) ?_)))
       rintro _ _ ⟨rfl,rfl⟩
       refine K5 t (bk (J3 ([((pts (D6 s.data.toList)).getD k 0)]))) (by intro _; rw [C8]; show t.size+(Lib.encodeRune _++[]).length≤_; rw [List.append_nil]; omega) (A8 [0] [3,8,9,10] (k:=B6 (B6 (A0 (A3 (A4 (j:=1) [0] (k:=D0 40 (((k:Nat):Int)+1) (by omega) (by omega) kr (A8 [0] [3,8,9,10] (k:=?_)))))))))
       refine E9 1 [1] (D2 (s':=(k+1,t++(bk (J3 ([((pts (D6 s.data.toList)).getD k 0)]))))) [3,8,9,10] kr kr ⟨(by dsimp only; omega),(by dsimp only; rw [X6 hlt,← hT,hj]; first | exact F9 _ _ | (rw [F9]; congr 1; exact List.append_nil _))⟩ (by dsimp only; omega))
 ·
  simp only [decide_eq_false_iff_not] at hc2
  refine E3 (A6 (A6 (B5 (A0 (A1 (B9 (E':=[⟨2,[],.string t⟩]) [0,0] [2] (k:=A0 (B8 ?_))))))))
  refine E9 1 [] (B7 [.tmp 2] [.string t] (k:=?_))
  exact ⟨congrArg Value.string (ba_eq (by rw [hT,List.take_of_length_le (by omega),html_doc])),rfl⟩
end Go.Proofs.YtppgfiklmfoaeaaGreatDoor
namespace Go.Xml
open Go.Esc Go.Json
theorem drop_getD {l:List UInt8} {i:Nat} (h:i<l.length):l.drop i=l.getD i 0::l.drop (i+1):=by
  rw [List.drop_eq_getElem_cons h]; congr 1; simp [List.getD,h]
theorem take_dropS {l:List UInt8} {last i:Nat} (hl:last≤i) (h:i<l.length):(l.drop last).take (i+1 - last)=(l.drop last).take (i - last)++[l.getD i 0]:=by
  have h1:i - last<(l.drop last).length:=by rw [List.length_drop]; omega
  rw [show i+1 - last=i - last+1 by omega,List.take_succ_eq_append_getElem h1]
  congr 2
  rw [List.getElem_drop]; simp [List.getD,h,show last+(i - last)=i by omega]
theorem lin_step {l out:List UInt8} {last i:Nat} (h:C1 l=out++((l.drop last).take (i - last)++C1 (l.drop i))) (hl:last≤i) (hi:i<l.length) (hb:l.getD i 0≠13):C1 l=out++((l.drop last).take (i+1 - last)++C1 (l.drop (i+1))):=by
  rw [h,drop_getD hi,lines_no hb,take_dropS hl hi,List.append_assoc]; rfl
theorem lin_one {l out:List UInt8} {last i:Nat} (h:C1 l=out++((l.drop last).take (i - last)++C1 (l.drop i))) (hi:i<l.length) (hb:l.getD i 0=13) (hn:¬ (i+1<l.length∧l.getD (i+1) 0=10)):C1 l=((out++(l.drop last).take (i - last))++[10])++((l.drop (i+1)).take (i+1 - (i+1))++C1 (l.drop (i+1))):=by
  have h1:C1 (l.drop i)=10::C1 (l.drop (i+1)):=by
    rw [drop_getD hi,hb,lines_13]
    intro u hu
    have h2:i+1<l.length:=by
      have:=congrArg List.length hu
      rw [List.length_drop,List.length_cons] at this; omega
    refine hn ⟨h2,?_⟩
    rw [drop_getD h2] at hu
    injection hu
  rw [h,h1,Nat.sub_self,List.take_zero,List.nil_append]
  simp only [List.append_assoc]; rfl
theorem lin_two {l out:List UInt8} {last i:Nat} (h:C1 l=out++((l.drop last).take (i - last)++C1 (l.drop i))) (hi:i+1<l.length) (hb:l.getD i 0=13) (hn:l.getD (i+1) 0=10):C1 l=((out++(l.drop last).take (i - last))++[10])++((l.drop (i+2)).take (i+2 - (i+2))++C1 (l.drop (i+2))):=by
  have h1:C1 (l.drop i)=10::C1 (l.drop (i+2)):=by
    rw [drop_getD (by omega),hb,drop_getD hi,hn,lines_cr]
  rw [h,h1,Nat.sub_self,List.take_zero,List.nil_append]
  simp only [List.append_assoc]; rfl
theorem lin_at {l out:List UInt8} {last i:Nat} (h:C1 l=out++((l.drop last).take (i - last)++C1 (l.drop i))) (hl:last≤i) (hi:i=l.length):C1 l=out++((l.drop last).take (i+1 - last)++C1 (l.drop (i+1))):=by
  have e1:(l.drop last).take (i+1 - last)=l.drop last:=List.take_of_length_le (by rw [List.length_drop]; omega)
  have e2:(l.drop last).take (i - last)=l.drop last:=List.take_of_length_le (by rw [List.length_drop]; omega)
  rw [h,e1,e2,List.drop_eq_nil_of_le (show l.length≤i by omega),List.drop_eq_nil_of_le (show l.length≤i+1 by omega)]
theorem lin_fin {l out:List UInt8} {last i:Nat} (h:C1 l=out++((l.drop last).take (i - last)++C1 (l.drop i))) (hi:l.length≤i):C1 l=out++l.drop last:=by
  have e1:(l.drop last).take (i - last)=l.drop last:=List.take_of_length_le (by rw [List.length_drop]; omega)
  rw [h,e1,List.drop_eq_nil_of_le hi,show C1 []=[] from rfl,List.append_nil]
end Go.Xml
namespace Go.Esc
def D8 (b:UInt8):Option (List UInt8):=if b=10 then some [38,35,49,48,59] else if b=9 then some [38,35,57,59] else none
theorem quoR_count (l:List UInt8):((C5 D8 l).length:Int)=l.length+(l.count 9:Int) * 3+(l.count 10:Int) * 4:=by
  rw [outR_len]
  induction l with
  | nil=>rfl
  | cons b l ih =>
    simp only [List.map_cons,List.sum_cons,List.length_cons,List.count_cons]
    have hg:gainR D8 b=(if (b==9)=true then 3 else 0)+(if (b==10)=true then 4 else 0):=by
      unfold gainR D8
      by_cases h1:b=10
      · subst h1; rfl
      by_cases h2:b=9
      · subst h2; rfl
      simp [h1,h2]
    rw [hg]
    split <;> split <;> omega
theorem quoR_same (l:List UInt8) (h1:l.count 9=0) (h2:l.count 10=0):C5 D8 l=l:=by
  refine X0 _ _ fun b hb=>?_
  unfold D8
  rw [List.count_eq_zero] at h1 h2
  have n1:b≠9:=by rintro rfl; exact h1 hb
  have n2:b≠10:=by rintro rfl; exact h2 hb
  rw [if_neg n2,if_neg n1]
end Go.Esc
namespace Go.Proofs.YtppgfiklmfoaeaaGreatDoor
open Go.Sw Go.Esc
theorem tabQ_case (t a10 a9 c10 c9:_) (x:UInt8) :
    (∃ A L C u,(A,L,C,u)∈[(a10,5,c10,[38,35,49,48,59]),(a9,4,c9,[38,35,57,59])]∧D8 x=some u∧L=u.length ∧
      (bsr [(9,.slice (some ⟨a9,0,none⟩) 4 c9),(10,.slice (some ⟨a10,0,none⟩) 5 c10)] t)[x.toNat]? = some (.slice (some ⟨A,0,none⟩) L C)) ∨
    (D8 x=none∧(bsr [(9,.slice (some ⟨a9,0,none⟩) 4 c9),(10,.slice (some ⟨a10,0,none⟩) 5 c10)] t)[x.toNat]? = some (.slice none 0 0)):=by
  have hx:=x.toNat_lt
  unfold bsr
  rw [List.getElem?_toArray,List.getElem?_append_left (by simpa using hx),List.getElem?_map,List.getElem?_range hx]
  simp only [Option.map_some]
  by_cases h1:x=10
  · subst h1; exact .inl ⟨a10,5,c10,_,by simp,rfl,rfl,rfl⟩
  by_cases h2:x=9
  · subst h2; exact .inl ⟨a9,4,c9,_,by simp,rfl,rfl,rfl⟩
  refine .inr ⟨by simp [D8,h1,h2],?_⟩
  have n1:x.toNat≠10:=fun h=>h1 (UInt8.toNat_inj.1 h)
  have n2:x.toNat≠9:=fun h=>h2 (UInt8.toNat_inj.1 h)
  have e:∀ (k m:Nat),m≠k→(m==k)=false:=fun k m h=>beq_eq_false_iff_ne.2 h
  simp only [List.lookup,e _ _ n1,e _ _ n2,Option.getD_none]
end Go.Proofs.YtppgfiklmfoaeaaGreatDoor
namespace Go.Xml
open Go.Esc Go.Json Go.Sw
def plX (s:List UInt8):Bool:=K8 s&&(D6 s==s)&&!(idxL [13] s).isSome
def nmOk (n:List UInt8):Bool:=!(n==[])&&(nmX n==n.length)
def sameN (x y:XA):Bool:=x.name==y.name
def atF (a:XA):Bool:=!(!(a.space==[])||a.name==[]||!(nmX a.name==a.name.length)||a.name==T1||!plX a.value||!plX a.name)
def O7:List XA→List XA→Bool
  | _,[]=>true
  | seen,a::r=>atF a&&!(seen.any (sameN a))&&O7 (seen++[a]) r
def kidF (f:XN→Bool) (last:Bool) (y:XN):Bool:=!((y.name==[]&&(last||y.text==[]||!plX y.text||!(y.space==[])||decide (0<y.attrs.length+y.kids.length)))||(!(y.name==[])&&!f y))
def Q8 (f:XN→Bool):Bool→List XN→Bool
  | _,[]=>true
  | last,y::l=>kidF f last y&&Q8 f (y.name==[]) l
def rtX:Nat→XN→Bool
  | 0,_=>false
  | m+1,x=>nmOk x.name&&x.text==[]&&plX x.space&&plX x.name&&O7 [] x.attrs&&Q8 (rtX m) false x.kids
theorem rtX_0 (x:XN):rtX 0 x=false:=by unfold rtX; rfl
theorem rtX_s (m:Nat) (x:XN):rtX (m+1) x=(nmOk x.name&&x.text==[]&&plX x.space&&plX x.name&&O7 [] x.attrs&&Q8 (rtX m) false x.kids):=by rw [rtX]
theorem I4 {l:List XA} {k:Nat} (h:k<l.length):O7 (l.take k) (l.drop k)=(atF l[k]&&!((l.take k).any (sameN l[k]))&&O7 (l.take (k+1)) (l.drop (k+1))):=by
  rw [M1 h,O7,List.take_succ_eq_append_getElem h]
theorem L9 {f:XN→Bool} {b:Bool} {l:List XN} {k:Nat} (h:k<l.length):Q8 f b (l.drop k)=(kidF f b l[k]&&Q8 f (l[k].name==[]) (l.drop (k+1))):=by
  rw [M1 h,Q8]
theorem bkN (a:List UInt8):((bk a).toList==eB.toList)=(a==[]):=bkB a []
def quoX (s:List UInt8):List UInt8:=34::(C5 D8 (G0 s)++[34])
def attP (a:XA):List UInt8:=32::(a.name++61::quoX a.value)
def N0:List XA→List UInt8
  | []=>[]
  | a::r=>attP a++N0 r
def spcP (s sp:List UInt8):List UInt8:=if s=sp then [] else [32,120,109,108,110,115,61]++quoX s
theorem spcP_ne {s sp:List UInt8} (h:s≠sp):spcP s sp=[32,120,109,108,110,115,61]++quoX s:=if_neg h
theorem spcP_eq {s sp:List UInt8} (h:s=sp):spcP s sp=[]:=if_pos h
mutual
def prX (sp:List UInt8):XN→List UInt8
  | .mk s n ats l t=>if n=[] then G0 t else 60::n++spcP s sp++N0 ats++(if l.length=0 then [47,62] else 62::(prL s l++([60,47]++n++[62])))
def prL (sp:List UInt8):List XN→List UInt8
  | []=>[]
  | v::l=>prX sp v++prL sp l
end
theorem prL_nil (sp:List UInt8):prL sp []=[]:=by simp only [prL]
theorem prL_cons (sp:List UInt8) (v:XN) (l:List XN):prL sp (v::l)=prX sp v++prL sp l:=by simp only [prL]
theorem prL_app (sp:List UInt8):∀ (l m:List XN),prL sp (l++m)=prL sp l++prL sp m
  | [],m=>by rw [prL_nil]; rfl
  | v::l,m=>by rw [List.cons_append,prL_cons,prL_cons,prL_app sp l m,List.append_assoc]
theorem prL_take {sp:List UInt8} {l:List XN} {k:Nat} (h:k<l.length):prL sp (l.take (k+1))=prL sp (l.take k)++prX sp l[k]:=by
  rw [List.take_succ_eq_append_getElem h,prL_app,prL_cons,prL_nil,List.append_nil]
theorem X8:∀ (l m:List XA),N0 (l++m)=N0 l++N0 m
  | [],m=>rfl
  | v::l,m=>by rw [List.cons_append,N0,N0,X8 l m,List.append_assoc]
theorem attsP_take {l:List XA} {k:Nat} (h:k<l.length):N0 (l.take (k+1))=N0 (l.take k)++attP l[k]:=by
  rw [List.take_succ_eq_append_getElem h,X8]; show _++(attP l[k]++[])=_; rw [List.append_nil]
theorem prX_text {sp:List UInt8} {x:XN} (h:x.name=[]):prX sp x=G0 x.text:=by
  cases x with
  | mk s n ats l t=>cases h; simp only [prX]; rfl
def prH (sp:List UInt8) (x:XN):List UInt8:=60::x.name++spcP x.space sp
theorem prX_none {sp:List UInt8} {x:XN} (h:x.name≠[]) (hk:x.kids.length=0):prX sp x=prH sp x++N0 x.attrs++[47,62]:=by
  cases x with
  | mk s n ats l t=>simp only [prX]; exact (if_neg h).trans (by rw [if_pos (show l.length=0 from hk)]; rfl)
theorem prX_kids {sp:List UInt8} {x:XN} (h:x.name≠[]) (hk:¬ x.kids.length=0):prX sp x=prH sp x++N0 x.attrs++62::(prL x.space x.kids++([60,47]++x.name++[62])):=by
  cases x with
  | mk s n ats l t=>simp only [prX]; exact (if_neg h).trans (by rw [if_neg (show ¬ l.length=0 from hk)]; rfl)
theorem quoR_len6 (l:List UInt8):(C5 D8 l).length≤6 * l.length:=by
  induction l with
  | nil=>exact Nat.le_refl _
  | cons b l ih =>
    rw [X1,List.length_append,List.length_cons]
    have:((D8 b).getD [b]).length≤6:=by
      unfold D8
      split
      · show 5≤6; decide
      · split
        · show 4≤6; decide
        · show 1≤6; decide
    omega
theorem quoX_len (s:List UInt8):(quoX s).length≤144 * s.length+2:=by
  have h1:=html_len s
  have h2:=quoR_len6 (G0 s)
  unfold quoX
  rw [List.length_cons,List.length_append,List.length_cons,List.length_nil]; omega
theorem attP_len (a:XA):(attP a).length≤a.name.length+144 * a.value.length+4:=by
  have h:=quoX_len a.value
  unfold attP
  rw [List.length_cons,List.length_append,List.length_cons]; omega
theorem attsP_len:∀ l:List XA,(N0 l).length≤150 * wtA l
  | []=>Nat.le_refl _
  | a::r=>by
    have h1:=attP_len a
    have h2:=attsP_len r
    show (attP a++N0 r).length≤150 * (a.space.length+a.name.length+a.value.length+1+wtA r)
    rw [List.length_append]; omega
theorem spcP_len (s sp:List UInt8):(spcP s sp).length≤144 * s.length+9:=by
  have h:=quoX_len s
  unfold spcP
  split
  · exact Nat.zero_le _
  · rw [List.length_append]; simp only [List.length_cons,List.length_nil]; omega
mutual
theorem prX_len:∀ (sp:List UInt8) (x:XN),(prX sp x).length≤150 * wtX x
  | sp,.mk s n ats l t=>by
    have h1:=html_len t
    have h2:=spcP_len s sp
    have h3:=attsP_len ats
    have h4:=prL_len s l
    rw [wtX_eq]
    simp only [prX]
    split
    · omega
    · split <;> (simp only [List.length_append,List.length_cons,List.length_nil]; omega)
theorem prL_len:∀ (sp:List UInt8) (l:List XN),(prL sp l).length≤150 * wtXL l
  | sp,[]=>by rw [prL_nil]; exact Nat.zero_le _
  | sp,v::l=>by
    have h1:=prX_len sp v
    have h2:=prL_len sp l
    rw [prL_cons,N9,List.length_append]; omega
end
theorem wtA_take:∀ (l:List XA) (i:Nat),wtA (l.take i)≤wtA l
  | [],i=>by rw [List.take_nil]; exact Nat.le_refl _
  | v::l,0=>by rw [List.take_zero]; exact Nat.zero_le _
  | v::l,i+1=>by
    rw [List.take_succ_cons]
    have:=wtA_take l i
    show v.space.length+v.name.length+v.value.length+1+wtA (l.take i)≤v.space.length+v.name.length+v.value.length+1+wtA l
    omega
end Go.Xml
namespace Go.Xml
open Go.Esc Go.Json Go.Lib
theorem fst_ne {c:UInt8} (h:fstX c=true):c≠47∧c≠62∧c≠33∧c≠63∧c≠60∧c≠91:=by
  refine ⟨?_,?_,?_,?_,?_,?_⟩ <;> (rintro rfl; revert h; decide)
end Go.Xml
namespace Go.Xml
open Go.Esc Go.Json Go.Lib
theorem idx1_none {c:UInt8}:∀ {l:List UInt8},idxL [c] l=none→∀ b∈l,b≠c
  | [],_=>fun _ h=>absurd h List.not_mem_nil
  | b::l,h=>by
    unfold idxL at h
    split at h
    · cases h
    · rename_i hp
      cases hq:idxL [c] l with
      | some j=>rw [hq] at h; cases h
      | none =>
        intro x hx
        rcases List.mem_cons.1 hx with rfl | hx
        · rintro rfl; exact hp (by simp)
        · exact idx1_none hq x hx
theorem idx1_at {c:UInt8}:∀ {p u:List UInt8},(∀ b∈p,b≠c)→idxL [c] (p++c::u)=some p.length
  | [],u,_=>by simp [idxL,List.isPrefixOf]
  | b::p,u,h=>by
    have hb:b≠c:=h b List.mem_cons_self
    rw [List.cons_append,idxL,idx1_at (fun x hx=>h x (List.mem_cons_of_mem _ hx)),if_neg (by simpa [List.isPrefixOf] using fun e=>hb e.symm)]
    rfl
def Wr (l:List UInt8) (ps:List Int):Prop:=l=J3 ps∧∀ p∈ps,isR p∧M4 p=true∧p≠13
theorem plX_wr {l:List UInt8} (h:plX l=true):∃ ps,Wr l ps:=by
  unfold plX at h
  rw [Bool.and_eq_true,Bool.and_eq_true,Bool.not_eq_true',beq_iff_eq] at h
  obtain ⟨⟨h1,h2⟩,h3⟩:=h
  obtain ⟨ps,hp,e⟩:=pl_of h1 h2
  have h13:=idx1_none (c:=13) (l:=l) (by cases hq:idxL [13] l with | none=>rfl | some i=>rw [hq] at h3; cases h3)
  refine ⟨ps,e,fun p hq=>⟨(hp p hq).1,(hp p hq).2,?_⟩⟩
  rintro rfl
  refine h13 13 ?_ rfl
  rw [e]
  unfold J3
  rw [List.mem_flatMap]
  exact ⟨13,hq,by rw [show encodeRune 13=[13] from by decide +kernel]; exact List.mem_singleton.2 rfl⟩
theorem Wr.pl {l:List UInt8} {ps:List Int} (h:Wr l ps):Pl l:=⟨ps,fun p hp=>⟨(h.2 p hp).1,(h.2 p hp).2.1⟩,h.1⟩
theorem wr_html {l:List UInt8} {ps:List Int} (h:Wr l ps):G0 l=ps.flatMap O3:=by
  rw [htmlL_eq]
  unfold keepL
  rw [h.1,runes_enc0 (fun p hp=>(h.2 p hp).1),List.filter_eq_self.2 (fun p hp=>(h.2 p hp).2.1)]
def quoP (p:Int):List UInt8:=if p=10 then [38,35,49,48,59] else if p=9 then [38,35,57,59] else O3 p
theorem quo_one {p:Int} (h:isR p):C5 D8 (O3 p)=quoP p:=by
  unfold quoP
  by_cases h1:p=10
  · subst h1; decide +kernel
  by_cases h2:p=9
  · subst h2; decide +kernel
  rw [if_neg h1,if_neg h2]
  unfold O3
  (repeat' split) <;> first | decide +kernel | skip
  refine X0 _ _ fun b hb=>?_
  have n1:b≠10:=enc_no h (c:=10) (by decide) h1 b hb
  have n2:b≠9:=enc_no h (c:=9) (by decide) h2 b hb
  unfold D8
  rw [if_neg n1,if_neg n2]
theorem quo_flat:∀ {ps:List Int},(∀ p∈ps,isR p)→C5 D8 (ps.flatMap O3)=ps.flatMap quoP
  | [],_=>rfl
  | p::ps,h=>by rw [List.flatMap_cons,L5,quo_one (h p List.mem_cons_self),quo_flat (fun q hq=>h q (List.mem_cons_of_mem _ hq)),List.flatMap_cons]
theorem wr_quo {l:List UInt8} {ps:List Int} (h:Wr l ps):C5 D8 (G0 l)=ps.flatMap quoP:=by
  rw [wr_html h,quo_flat (fun p hp=>(h.2 p hp).1)]
theorem rfs_lit {p t:List UInt8} {q:Int} (hr:Y5 p=q) (hq:0≤q) (hp:M4 q=true) (h:∀ b∈p,b≠59):rfs (38::(p++59::t))=(rfs t).map (encodeRune q++·):=by
  rw [rfs_cons,if_neg (by simp),ref_at h]
  dsimp only
  rw [hr,if_neg (by rintro (h | h); omega; rw [hp] at h; cases h),show (p++59::t).drop (p.length+1)=t from by rw [show p++59::t=(p++[59])++t by simp,List.drop_left' (by simp)]]
theorem rfs_html {p:Int} (h:isR p) (t:List UInt8):rfs (O3 p++t)=(rfs t).map (encodeRune p++·):=by
  unfold O3
  by_cases e1:p=38
  · subst e1; exact rfs_lit (p:=[97,109,112]) (by decide +kernel) (by decide) (by decide) (by decide)
  rw [if_neg e1]
  by_cases e2:p=60
  · subst e2; exact rfs_lit (p:=[108,116]) (by decide +kernel) (by decide) (by decide) (by decide)
  rw [if_neg e2]
  by_cases e3:p=62
  · subst e3; exact rfs_lit (p:=[103,116]) (by decide +kernel) (by decide) (by decide) (by decide)
  rw [if_neg e3]
  by_cases e4:p=34
  · subst e4; exact rfs_lit (p:=[113,117,111,116]) (by decide +kernel) (by decide) (by decide) (by decide)
  rw [if_neg e4]
  by_cases e5:p=39
  · subst e5; exact rfs_lit (p:=[35,51,57]) (by decide +kernel) (by decide) (by decide) (by decide)
  rw [if_neg e5]
  exact rfs_keep _ _ (enc_no h (c:=38) (by decide) e1)
theorem rfs_quo {p:Int} (h:isR p) (t:List UInt8):rfs (quoP p++t)=(rfs t).map (encodeRune p++·):=by
  unfold quoP
  by_cases e1:p=10
  · subst e1; exact rfs_lit (p:=[35,49,48]) (by decide +kernel) (by decide) (by decide) (by decide)
  rw [if_neg e1]
  by_cases e2:p=9
  · subst e2; exact rfs_lit (p:=[35,57]) (by decide +kernel) (by decide) (by decide) (by decide)
  rw [if_neg e2]
  exact rfs_html h t
theorem rfs_flat (f:Int→List UInt8) (hf:∀ p,isR p→∀ t,rfs (f p++t)=(rfs t).map (encodeRune p++·)):∀ {ps:List Int},(∀ p∈ps,isR p)→rfs (ps.flatMap f)=some (J3 ps)
  | [],_=>rfl
  | p::ps,h=>by rw [List.flatMap_cons,hf p (h p List.mem_cons_self),rfs_flat f hf (fun q hq=>h q (List.mem_cons_of_mem _ hq)),I8]; rfl
theorem html_no13 {p:Int} (h:isR p) (h13:p≠13):∀ b∈O3 p,b≠13:=by
  unfold O3
  (repeat' split) <;> first | decide | exact enc_no h (c:=13) (by decide) h13
theorem quo_no13 {p:Int} (h:isR p) (h13:p≠13):∀ b∈quoP p,b≠13:=by
  unfold quoP
  split
  · decide
  · split
    · decide
    · exact html_no13 h h13
theorem lines_flat {f:Int→List UInt8} {ps:List Int} (hf:∀ p∈ps,∀ b∈f p,b≠13):C1 (ps.flatMap f)=ps.flatMap f:=by
  have h:=lines_keep (ps.flatMap f) [] (fun b hb=>by obtain ⟨p,hp,hb⟩:=List.mem_flatMap.1 hb; exact hf p hp b hb)
  rwa [List.append_nil,show C1 []=[] from by rw [C1],List.append_nil] at h
theorem refs_html {l:List UInt8} (h:plX l=true):refsE (G0 l)=some l:=by
  obtain ⟨ps,hw⟩:=plX_wr h
  unfold refsE
  rw [wr_html hw,lines_flat (fun p hp=>html_no13 (hw.2 p hp).1 (hw.2 p hp).2.2),rfs_flat O3 (fun p hp t=>rfs_html hp t) (fun p hp=>(hw.2 p hp).1),← hw.1]
theorem refs_quo {l:List UInt8} (h:plX l=true):refsE (C5 D8 (G0 l))=some l:=by
  obtain ⟨ps,hw⟩:=plX_wr h
  unfold refsE
  rw [wr_quo hw,lines_flat (fun p hp=>quo_no13 (hw.2 p hp).1 (hw.2 p hp).2.2),rfs_flat quoP (fun p hp t=>rfs_quo hp t) (fun p hp=>(hw.2 p hp).1),← hw.1]
theorem quo_bytes (l:List UInt8):∀ b∈C5 D8 (G0 l),b≠60∧b≠34:=by
  intro b hb
  unfold C5 at hb
  obtain ⟨c,hc,hb⟩:=List.mem_flatMap.1 hb
  have h:=html_bytes l c hc
  unfold D8 at hb
  split at hb
  · exact dec_all (M:=fun b=>b≠60∧b≠34) (l:=[38,35,49,48,59]) (by decide) hb
  · split at hb
    · exact dec_all (M:=fun b=>b≠60∧b≠34) (l:=[38,35,57,59]) (by decide) hb
    · rcases List.mem_singleton.1 hb with rfl; exact ⟨h.1,h.2.2.1⟩
def quoQ (p:Int):List Int:=if p=10 then [38,35,49,48,59] else if p=9 then [38,35,57,59] else htmlQ p
theorem quoQ_enc (p:Int):J3 (quoQ p)=quoP p:=by
  unfold quoQ quoP
  split
  · decide +kernel
  · split
    · decide +kernel
    · exact htmlQ_enc p
theorem pl_html {l:List UInt8} (h:plX l=true):Pl (G0 l):=by
  obtain ⟨ps,hw⟩:=plX_wr h
  refine ⟨ps.flatMap htmlQ,fun q hq=>?_,?_⟩
  · obtain ⟨p,hp,hq⟩:=List.mem_flatMap.1 hq
    exact htmlQ_ok (hw.2 p hp).1 (hw.2 p hp).2.1 q hq
  · rw [wr_html hw,encL_flat]; congr 1; funext p; exact (htmlQ_enc p).symm
theorem pl_quo {l:List UInt8} (h:plX l=true):Pl (C5 D8 (G0 l)):=by
  obtain ⟨ps,hw⟩:=plX_wr h
  refine ⟨ps.flatMap quoQ,fun q hq=>?_,?_⟩
  · obtain ⟨p,hp,hq⟩:=List.mem_flatMap.1 hq
    unfold quoQ at hq
    split at hq
    · simp only [List.mem_cons,List.not_mem_nil,or_false] at hq
      rcases hq with rfl | rfl | rfl | rfl | rfl <;> exact ⟨by unfold isR; omega,by decide⟩
    · split at hq
      · simp only [List.mem_cons,List.not_mem_nil,or_false] at hq
        rcases hq with rfl | rfl | rfl | rfl <;> exact ⟨by unfold isR; omega,by decide⟩
      · exact htmlQ_ok (hw.2 p hp).1 (hw.2 p hp).2.1 q hq
  · rw [wr_quo hw,encL_flat]; congr 1; funext p; exact (quoQ_enc p).symm
theorem pl_lit {l:List UInt8} (h1:K8 l=true) (h2:D6 l=l):Pl l:=pl_of h1 h2
theorem plX_pl {l:List UInt8} (h:plX l=true):Pl l:=by obtain ⟨ps,hw⟩:=plX_wr h; exact hw.pl
theorem tw_all {p:UInt8→Bool}:∀ {l:List UInt8},(l.takeWhile p).length=l.length→∀ b∈l,p b=true
  | [],_=>fun _ h=>absurd h List.not_mem_nil
  | b::l,h=>by
    rw [List.takeWhile_cons] at h
    split at h
    · rename_i hb
      intro x hx
      rcases List.mem_cons.1 hx with rfl | hx
      · exact hb
      · exact tw_all (by simpa using h) x hx
    · simp at h
theorem tw_stop {p:UInt8→Bool} {c:UInt8} (hc:p c=false):∀ {l r:List UInt8},(∀ b∈l,p b=true)→(l++c::r).takeWhile p=l
  | [],r,_=>by rw [List.nil_append,List.takeWhile_cons,hc]; rfl
  | b::l,r,h=>by rw [List.cons_append,List.takeWhile_cons,h b List.mem_cons_self]; simp only [if_true]; rw [tw_stop hc (fun x hx=>h x (List.mem_cons_of_mem _ hx))]
theorem nmOk_eq {n:List UInt8} (h:nmOk n=true):n≠[]∧nmX n=n.length:=by
  unfold nmOk at h
  rw [Bool.and_eq_true,Bool.not_eq_true',beq_iff_eq] at h
  exact ⟨beq_eq_false_iff_ne.1 h.1,h.2⟩
theorem nm_upto {n r:List UInt8} {c:UInt8} (h:nmOk n=true) (hc:nxtX c=false):nmX (n++c::r)=n.length:=by
  obtain ⟨h1,h2⟩:=nmOk_eq h
  cases n with
  | nil=>exact absurd rfl h1
  | cons b n =>
    rw [nm_cons] at h2
    rw [List.cons_append,nm_cons]
    split at h2
    · rename_i hb
      rw [if_pos hb,tw_stop hc (tw_all (by rw [List.length_cons] at h2; omega)),List.length_cons]; omega
    · rw [List.length_cons] at h2; omega
theorem name_upto {n r:List UInt8} {c:UInt8} (h:nmOk n=true) (hc:nxtX c=false):nameE (n++c::r)=some (n,c::r):=by
  unfold nameE
  rw [nm_upto h hc,if_neg (by intro h0; exact (nmOk_eq h).1 (List.eq_nil_of_length_eq_zero h0)),List.take_left,List.drop_left]
theorem qual_upto {n r:List UInt8} {c:UInt8} (h:nmOk n=true) (hc:nxtX c=false) (h58:c≠58):qualE (n++c::r)=some (⟨[],n,false⟩,c::r):=by
  unfold qualE
  rw [name_upto h hc]
  dsimp only
  rw [if_neg (by simpa [List.isPrefixOf] using fun e=>h58 e.symm)]
theorem T4 {c:UInt8} {r:List UInt8} (h:wsB c=false):blk (c::r)=c::r:=by
  show (c::r).dropWhile wsB=_
  rw [List.dropWhile_cons,h]; rfl
def toAT (a:XA):AT:=⟨⟨[],a.name,false⟩,a.value⟩
theorem attr_pr {a:XA} (hn:nmOk a.name=true) (hv:plX a.value=true) (t:List UInt8):attrE (a.name++61::(quoX a.value++t))=some (toAT a,t):=by
  have hu:R3 [34] (C5 D8 (G0 a.value)++34::t)=some (C5 D8 (G0 a.value),t):=by
    unfold R3
    rw [idx1_at (fun b hb=>(quo_bytes _ b hb).2)]
    show some (List.take _ _,List.drop _ _)=_
    rw [List.take_left,show C5 D8 (G0 a.value)++34::t=(C5 D8 (G0 a.value)++[34])++t by simp,List.drop_left' (by simp)]
  unfold attrE
  rw [qual_upto hn (by decide) (by decide)]
  dsimp only
  rw [T4 (by decide),show mustE [61] (61::(quoX a.value++t))=some (quoX a.value++t) from rfl]
  dsimp only
  rw [show quoX a.value++t=34::(C5 D8 (G0 a.value)++34::t) from by unfold quoX; simp,T4 (by decide)]
  unfold quoteE
  rw [if_pos (by simp)]
  show (match R3 [34] (C5 D8 (G0 a.value)++34::t) with | none=>none | some (v,r2)=>_)=_
  rw [hu]
  dsimp only
  rw [if_neg (fun h=>(quo_bytes _ _ h).1 rfl),refs_quo hv]
  rfl
theorem nm_head {n:List UInt8} (h:nmOk n=true):∃ c u,n=c::u∧fstX c=true:=by
  obtain ⟨h1,h2⟩:=nmOk_eq h
  cases n with
  | nil=>exact absurd rfl h1
  | cons c u =>
    refine ⟨c,u,rfl,?_⟩
    rw [nm_cons] at h2
    cases hc:fstX c with
    | true=>rfl
    | false=>rw [hc] at h2; simp at h2
theorem fst_ws {c:UInt8} (h:fstX c=true):wsB c=false:=by
  cases hw:wsB c with
  | false=>rfl
  | true =>
    unfold wsB at hw
    simp only [Bool.or_eq_true,beq_iff_eq] at hw
    rcases hw with ((rfl | rfl) | rfl) | rfl <;> (revert h; decide)
def endT (c:Bool):List UInt8:=if c then [47,62] else [62]
theorem tag_pr (c:Bool) (t:List UInt8):∀ (ats:List XA) (acc:List AT) (n:Nat),ats.length<n→(∀ a∈ats,nmOk a.name=true∧plX a.value=true)→tagE n acc (N0 ats++(endT c++t))=some (acc++ats.map toAT,c,t)
  | _,_,0,h,_=>absurd h (by omega)
  | [],acc,n+1,_,_=>by
    rw [tagE]
    cases c with
    | true =>
      show (if [47,62].isPrefixOf (blk (47::62::t)) then _ else _)=_
      rw [T4 (by decide),if_pos (by simp)]
      show some (acc,true,blk (47::62::t) |>.drop 2)=_
      rw [T4 (by decide)]; simp
    | false =>
      show (if [47,62].isPrefixOf (blk (62::t)) then _ else if [62].isPrefixOf (blk (62::t)) then _ else _)=_
      rw [T4 (by decide),if_neg (by simp),if_pos (by simp)]
      show some (acc,false,blk (62::t) |>.drop 1)=_
      rw [T4 (by decide)]; simp
  | a::ats,acc,n+1,hn,ha=>by
    obtain ⟨h1,h2⟩:=ha a List.mem_cons_self
    obtain ⟨b,u,hb,hf⟩:=nm_head h1
    obtain ⟨f1,f2,_⟩:=fst_ne hf
    have e:N0 (a::ats)++(endT c++t)=32::(a.name++61::(quoX a.value++(N0 ats++(endT c++t)))):=by
      rw [N0]; unfold attP; simp
    rw [tagE,e]
    have hbl:blk (32::(a.name++61::(quoX a.value++(N0 ats++(endT c++t)))))=a.name++61::(quoX a.value++(N0 ats++(endT c++t))):=by
      show (32::_).dropWhile wsB=_
      rw [List.dropWhile_cons,if_pos (by decide),hb,List.cons_append]
      exact T4 (fst_ws hf)
    rw [hbl,if_neg (by rw [hb]; intro h9; simp at h9; exact f1 h9.1.symm),if_neg (by rw [hb]; intro h9; simp at h9; exact f2 h9.symm),if_pos (by rw [List.length_cons]; omega),attr_pr h1 h2]
    dsimp only
    rw [tag_pr c t ats (acc++[toAT a]) n (by rw [List.length_cons] at hn; omega) (fun x hx=>ha x (List.mem_cons_of_mem _ hx)),List.map_cons,List.append_assoc]; rfl
end Go.Xml
namespace Go.Xml
open Go.Esc Go.Json Go.Lib
def arE (l:List UInt8):Option (List UInt8):=N5 (l.length+1) l
theorem aside_lt' {l r:List UInt8} (h:Q4 l=some (some r)):r.length<l.length:=by
  have h1:=aside_ok (l:=l)
  rw [h] at h1
  have h2:=aside_lt (q:=(l,0)) (by rw [h1])
  rw [h1] at h2; exact h2
theorem around_fuel:∀ (n m:Nat) (l:List UInt8),l.length<n→l.length<m→N5 n l=N5 m l
  | 0,_,_,h,_=>absurd h (by omega)
  | _,0,_,_,h=>absurd h (by omega)
  | n+1,m+1,l,hn,hm=>by
    rw [N5,N5]
    cases ha:Q4 (blk l) with
    | none=>rfl
    | some o =>
      cases o with
      | none=>rfl
      | some r =>
        have h1:=aside_lt' ha
        have h2:=X7 l
        exact around_fuel n m r (by omega) (by omega)
theorem arE_step (l:List UInt8):arE l=match Q4 (blk l) with | none=>none | some (some r)=>arE r | some none=>some (blk l):=by
  unfold arE
  rw [N5]
  cases ha:Q4 (blk l) with
  | none=>rfl
  | some o =>
    cases o with
    | none=>rfl
    | some r =>
      have h1:=aside_lt' ha
      have h2:=X7 l
      exact around_fuel _ _ r (by omega) (by omega)
def Amb (s:List UInt8):Prop:=(∀ l,arE (s++l)=arE l)∧Pl s
theorem Amb.nil:Amb []:=⟨fun _=>rfl,Pl.nil⟩
theorem Amb.app {a b:List UInt8} (ha:Amb a) (hb:Amb b):Amb (a++b):=⟨fun l=>by rw [List.append_assoc,ha.1,hb.1],ha.2.app hb.2⟩
theorem bom_ne {c:UInt8} {u:List UInt8} (h:c≠239):F4 (c::u)=c::u:=by
  unfold F4
  rw [if_neg (by intro h9; simp at h9; exact h h9.1.symm)]
theorem par_mk {l:List UInt8} (hl:l.length≤65536) (hp:Pl (F4 l)) {c:UInt8} {u r2:List UInt8} {x:XN} (h1:arE (F4 l)=some (60::c::u)) (h2:elE 24 I6 (c::u)=.ok (x,r2)):parE l=match arE r2 with | none=>(V8,70) | some r3=>if r3=[] then (x,0) else (V8,70):=by
  unfold parE
  rw [if_neg (by omega),if_neg (by rintro (h | h); rw [pl_valid hp] at h; cases h; exact h (pl_plain hp))]
  change (match arE (F4 l) with | none=>_ | some r=>_)=_
  rw [h1]
  dsimp only
  rw [show mustE [60] (60::c::u)=some (c::u) from rfl]
  dsimp only
  rw [h2]; rfl
end Go.Xml
namespace Go.Xml
open Go.Esc Go.Json Go.Lib
theorem atF_yes {a:XA} (h:atF a=true):a.space=[]∧nmOk a.name=true∧a.name≠T1∧plX a.value=true∧plX a.name=true:=by
  unfold atF at h
  simp only [Bool.not_eq_true',Bool.or_eq_false_iff,Bool.not_eq_false',beq_iff_eq,beq_eq_false_iff_ne,ne_eq] at h
  obtain ⟨⟨⟨⟨⟨h1,h2⟩,h3⟩,h4⟩,h5⟩,h6⟩:=h
  exact ⟨h1,by unfold nmOk; rw [beq_eq_false_iff_ne.2 h2,h3]; simp,h4,h5,h6⟩
theorem X9:∀ {seen l:List XA},O7 seen l=true→∀ a∈l,atF a=true
  | _,[],_=>fun _ h=>absurd h List.not_mem_nil
  | seen,a::r,h=>by
    rw [O7,Bool.and_eq_true,Bool.and_eq_true] at h
    intro x hx
    rcases List.mem_cons.1 hx with rfl | hx
    · exact h.1.1
    · exact X9 h.2 x hx
def xmA (s sp:List UInt8):List XA:=if s=sp then [] else [⟨[],T1,s⟩]
def xmS (s sp:List UInt8) (spm:SPX):SPX:=if s=sp then spm else ([],s)::spm
theorem spc_xm (s sp:List UInt8):spcP s sp=N0 (xmA s sp):=by
  unfold spcP xmA
  split
  · rfl
  · show _=attP ⟨[],T1,s⟩++[]
    rw [List.append_nil]; rfl
theorem decl_no {a:XA} (h:a.name≠T1):P7 (toAT a)=none:=by
  unfold P7 toAT
  dsimp only
  rw [if_neg (fun h2=>h h2.2),if_neg (fun h2=>by cases h2.1)]
theorem decl_yes (s:List UInt8):P7 (toAT ⟨[],T1,s⟩)=some []:=by
  unfold P7 toAT
  dsimp only
  rw [if_pos ⟨rfl,rfl⟩]
theorem sp_pr:∀ (ats:List XA) (seen:List (List UInt8)) (sp:SPX),(∀ a∈ats,a.name≠T1)→spE (ats.map toAT) seen sp=some sp
  | [],_,_,_=>rfl
  | a::ats,seen,sp,h=>by
    rw [List.map_cons,spE,decl_no (h a List.mem_cons_self)]
    exact sp_pr ats seen sp (fun x hx=>h x (List.mem_cons_of_mem _ hx))
theorem sp_xm {s sp:List UInt8} {spm:SPX} {ats:List XA} (h:∀ a∈ats,a.name≠T1):spE ((xmA s sp++ats).map toAT) [] spm=some (xmS s sp spm):=by
  unfold xmA xmS
  split
  · exact sp_pr ats [] spm h
  · rw [List.cons_append,List.nil_append,List.map_cons,spE,decl_yes]
    dsimp only
    rw [if_neg (by rintro (h | h); exact absurd h List.not_mem_nil; exact absurd h.1 (fun h9=>by cases h9))]
    exact sp_pr ats _ _ h
theorem marks_pr (spm:SPX):∀ (ats out:List XA),(∀ y∈out,y.space=[])→O7 out ats=true→marksE (ats.map toAT) out spm=some (out++ats)
  | [],out,_,_=>by rw [List.append_nil]; rfl
  | a::ats,out,ho,h=>by
    have ha:=atF_yes (X9 h a List.mem_cons_self)
    rw [O7,Bool.and_eq_true,Bool.and_eq_true,Bool.not_eq_true'] at h
    rw [List.map_cons,marksE,decl_no ha.2.2.1]
    simp only [Option.isSome_none,Bool.false_eq_true,if_false]
    have hq:(toAT a).q.has=false:=rfl
    rw [hq]
    simp only [Bool.false_eq_true,if_false]
    have hn:¬ (out.any fun y=>y.space==[]&&y.name==(toAT a).q.name)=true:=by
      intro h9
      rw [List.any_eq_true] at h9
      obtain ⟨y,hy,h9⟩:=h9
      rw [Bool.and_eq_true,beq_iff_eq,beq_iff_eq] at h9
      have h8:=List.any_eq_false.1 h.1.2 y hy
      apply h8
      unfold sameN
      rw [h9.2]; simp [toAT]
    rw [if_neg hn]
    have e:(⟨[],(toAT a).q.name,(toAT a).value⟩:XA)=a:=by
      cases a with
      | mk s n v=>cases (show s=[] from ha.1); rfl
    rw [e,marks_pr spm ats (out++[a]) (fun y hy=>by rcases List.mem_append.1 hy with h | h; exact ho y h; rw [List.mem_singleton.1 h]; exact ha.1) h.2,List.append_assoc]; rfl
theorem marks_xm {s sp:List UInt8} {spm:SPX} {ats:List XA} (h:O7 [] ats=true):marksE ((xmA s sp++ats).map toAT) [] spm=some ats:=by
  have h1:=marks_pr spm ats [] (fun _ h=>absurd h List.not_mem_nil) h
  rw [List.nil_append] at h1
  unfold xmA
  split
  · exact h1
  · rw [List.cons_append,List.nil_append,List.map_cons,marksE,decl_yes]
    simp only [Option.isSome_some,if_true]
    exact h1
theorem look_xm {s sp:List UInt8} {spm:SPX} (h:lookX spm []=some sp):lookX (xmS s sp spm) []=some s:=by
  unfold xmS
  split
  · rename_i e; rw [h,e]
  · unfold lookX; simp
theorem attsP_head (l:List XA) (c:Bool) (t:List UInt8):∃ d r,N0 l++(endT c++t)=d::r∧nxtX d=false∧d≠58:=by
  cases l with
  | nil =>
    cases c with
    | true=>exact ⟨47,62::t,rfl,by decide,by decide⟩
    | false=>exact ⟨62,t,rfl,by decide,by decide⟩
  | cons a l=>exact ⟨32,_,rfl,by decide,by decide⟩
theorem attsP_cnt:∀ l:List XA,l.length≤(N0 l).length
  | []=>Nat.le_refl _
  | a::l=>by
    have:=attsP_cnt l
    rw [N0,List.length_append,List.length_cons]
    have:1≤(attP a).length:=by unfold attP; rw [List.length_cons]; omega
    omega
theorem nm_xmlns:nmOk T1=true:=by decide +kernel
theorem head_pr {s n sp:List UInt8} {spm:SPX} {ats:List XA} (c:Bool) (t:List UInt8) (hs:plX s=true) (hn:nmOk n=true) (ha:O7 [] ats=true) (hl:lookX spm []=some sp) :
    headE spm (n++(N0 (xmA s sp++ats)++(endT c++t)))=some (⟨[],n,false⟩,s,ats,xmS s sp spm,c,t):=by
  obtain ⟨d,r,e,h1,h2⟩:=attsP_head (xmA s sp++ats) c t
  have hall:∀ a∈xmA s sp++ats,nmOk a.name=true∧plX a.value=true:=by
    intro a h
    rcases List.mem_append.1 h with h | h
    · unfold xmA at h
      split at h
      · exact absurd h List.not_mem_nil
      · rw [List.mem_singleton.1 h]; exact ⟨nm_xmlns,hs⟩
    · have:=atF_yes (X9 ha a h); exact ⟨this.2.1,this.2.2.2.1⟩
  have ht:=tag_pr c t (xmA s sp++ats) [] ((N0 (xmA s sp++ats)++(endT c++t)).length+1) (by have h9:=attsP_cnt (xmA s sp++ats); have h8:(N0 (xmA s sp++ats)++(endT c++t)).length=(N0 (xmA s sp++ats)).length+(endT c++t).length:=List.length_append; omega) hall
  unfold headE
  rw [e,qual_upto hn h1 h2]
  dsimp only
  rw [← e,ht,List.nil_append]
  dsimp only
  rw [sp_xm (fun a h=>(atF_yes (X9 ha a h)).2.2.1)]
  dsimp only
  have hsp:spaceE [] false (xmS s sp spm)=some s:=by
    unfold spaceE
    rw [if_neg (fun h=>by cases h.1),look_xm hl]; rfl
  rw [hsp]
  dsimp only
  rw [marks_xm ha]
theorem add_newW {ks:List XN} {s:List UInt8} (hs:s≠[]) (h:∀ x,ks.getLast? = some x→x.name≠[]):addX ks s=ks++[.mk [] [] [] [] s]:=by
  unfold addX
  rw [if_neg hs]
  split
  · rename_i sp at_ kk t hq
    exact absurd rfl (h _ hq)
  · rfl
theorem idx3_none {l:List UInt8} (h:∀ b∈l,b≠62):idxL [93,93,62] l=none:=by
  cases hq:idxL [93,93,62] l with
  | none=>rfl
  | some i =>
    exfalso
    have hp:=idx_pre hq
    have h1:=pre_eq hp
    have hm:(62:UInt8)∈l.drop i:=by rw [h1]; simp
    exact h 62 (List.mem_of_mem_drop hm) rfl
theorem html_ne {l:List UInt8} (h:plX l=true) (hn:l≠[]):G0 l≠[]:=by
  intro h0
  have h1:=refs_html h
  rw [h0] at h1
  have h2:refsE []=some []:=by unfold refsE; rw [show C1 []=[] from by rw [C1]]; rfl
  rw [h2] at h1
  injection h1 with h1; exact hn h1.symm
theorem text_pr {l r:List UInt8} (h:plX l=true):textE (G0 l++60::r)=some (l,60::r):=by
  unfold textE
  rw [idx1_at (fun b hb=>(html_bytes l b hb).1)]
  dsimp only
  rw [List.take_left,List.drop_left,idx3_none (fun b hb=>(html_bytes l b hb).2.1),refs_html h]
  rfl
theorem pr_head {sp:List UInt8} {x:XN} (h:nmOk x.name=true):∃ c u,prX sp x=60::c::u∧fstX c=true:=by
  obtain ⟨c,u,e,hf⟩:=nm_head h
  have hn:=(nmOk_eq h).1
  by_cases hk:x.kids.length=0
  · rw [prX_none hn hk]; unfold prH; rw [e]; exact ⟨c,_,rfl,hf⟩
  · rw [prX_kids hn hk]; unfold prH; rw [e]; exact ⟨c,_,rfl,hf⟩
theorem rt_nm {m:Nat} {x:XN} (h:rtX m x=true):nmOk x.name=true:=by
  cases m with
  | zero=>rw [rtX_0] at h; cases h
  | succ m=>rw [rtX_s] at h; simp only [Bool.and_eq_true] at h; exact h.1.1.1.1.1
theorem kid_cases {m:Nat} {last:Bool} {y:XN} (h:kidF (rtX m) last y=true):(y.name=[]∧last=false∧y.text≠[]∧plX y.text=true∧y=.mk [] [] [] [] y.text)∨(y.name≠[]∧rtX m y=true):=by
  unfold kidF at h
  rw [Bool.not_eq_true',Bool.or_eq_false_iff] at h
  obtain ⟨h1,h2⟩:=h
  by_cases hn:y.name=[]
  · refine .inl ⟨hn,?_⟩
    rw [hn] at h1
    simp only [beq_self_eq_true,Bool.true_and,Bool.or_eq_false_iff,Bool.not_eq_false',beq_eq_false_iff_ne,beq_iff_eq,decide_eq_false_iff_not] at h1
    obtain ⟨⟨⟨⟨a1,a2⟩,a3⟩,a4⟩,a5⟩:=h1
    refine ⟨a1,a2,a3,?_⟩
    cases y with
    | mk s n ats l t =>
      have b1:s=[]:=a4
      have b2:n=[]:=hn
      have b3:ats=[]:=List.eq_nil_of_length_eq_zero (by have a5:¬ 0<ats.length+l.length:=a5; omega)
      have b4:l=[]:=List.eq_nil_of_length_eq_zero (by have a5:¬ 0<ats.length+l.length:=a5; omega)
      subst b1; subst b2; subst b3; subst b4; rfl
  · refine .inr ⟨hn,?_⟩
    rw [show (y.name==[])=false from beq_eq_false_iff_ne.2 hn] at h2
    simpa using h2
theorem kids_head {m:Nat} {l:List XN} (h:Q8 (rtX m) true l=true) (s t:List UInt8):∃ r,prL s l++(60::47::t)=60::r:=by
  cases l with
  | nil=>rw [prL_nil]; exact ⟨_,rfl⟩
  | cons y l =>
    rw [Q8,Bool.and_eq_true] at h
    rcases kid_cases h.1 with ⟨_,h1,_⟩ | ⟨_,h1⟩
    · cases h1
    · obtain ⟨c,u,e,_⟩:=pr_head (sp:=s) (rt_nm h1)
      rw [prL_cons,e]; exact ⟨_,rfl⟩
theorem cont_pr {m:Nat} {s:List UInt8} {spm:SPX} (hel:∀ (y:XN) (t:List UInt8),rtX m y=true→elE m spm ((prX s y).drop 1++t)=.ok (y,t)) (t:List UInt8) :
    ∀ (l ks:List XN) (last:Bool) (n:Nat),l.length<n→Q8 (rtX m) last l=true→(last=false→∀ x,ks.getLast? = some x→x.name≠[])→contE (elE m spm) n ks (prL s l++(60::47::t))=.ok (ks++l,t)
  | _,_,_,0,h,_,_=>absurd h (by omega)
  | [],ks,_,n+1,_,_,_=>by
    rw [prL_nil,List.nil_append,contE,if_pos (by simp),List.append_nil]; rfl
  | y::l,ks,last,n+1,hn,h,hk=>by
    rw [Q8,Bool.and_eq_true] at h
    rw [prL_cons,List.append_assoc,contE]
    rcases kid_cases h.1 with ⟨h1,h2,h3,h4,h5⟩ | ⟨h1,h2⟩
    · rw [h1] at h
      obtain ⟨r,hr⟩:=kids_head (m:=m) (l:=l) h.2 s t
      rw [prX_text h1,hr]
      cases hh:G0 y.text with
      | nil=>exact absurd hh (html_ne h4 h3)
      | cons b u =>
        have hb:b≠60:=(html_bytes y.text b (by rw [hh]; exact List.mem_cons_self)).1
        have np:∀ w v,¬ (60::w).isPrefixOf (b::v)=true:=by intro w v h9; simp at h9; exact hb h9.1.symm
        have hp:pieceE (elE m spm) ks (b::u++60::r)=.ok (ks++[y],60::r):=by
          unfold pieceE
          rw [List.cons_append,if_neg (np _ _)]
          have ha:Q4 (b::(u++60::r))=some none:=by
            unfold Q4
            rw [if_neg (np _ _),if_neg (np _ _)]
          rw [ha]
          dsimp only
          rw [if_neg (np _ _),← List.cons_append,← hh,text_pr h4]
          dsimp only
          rw [add_newW h3 (hk h2),← h5]
        rw [if_neg (show ¬ [60,47].isPrefixOf (b::u++60::r)=true from np _ _),hp]
        dsimp only
        rw [← hr,cont_pr hel t l (ks++[y]) true n (by rw [List.length_cons] at hn; omega) (by simpa using h.2) (fun h=>by cases h),List.append_assoc]; rfl
    · have hnm:=rt_nm h2
      obtain ⟨c,u,e,hf⟩:=pr_head (sp:=s) hnm
      obtain ⟨f1,f2,f3,f4,f5,f6⟩:=fst_ne hf
      have he:=hel y (prL s l++(60::47::t)) h2
      rw [e] at he ⊢
      rw [List.drop_succ_cons,List.drop_zero] at he
      have hp:pieceE (elE m spm) ks (60::c::u++(prL s l++(60::47::t)))=.ok (ks++[y],prL s l++(60::47::t)):=by
        unfold pieceE
        rw [if_neg (by intro h9; simp at h9; exact f3 h9.1.symm)]
        have ha:Q4 (60::c::u++(prL s l++(60::47::t)))=some none:=by
          unfold Q4
          rw [if_neg (by intro h9; simp at h9; exact f3 h9.1.symm),if_neg (by intro h9; simp at h9; exact f4 h9.symm)]
        rw [ha]
        dsimp only
        rw [if_pos (by simp)]
        have h1d:(60::c::u++(prL s l++(60::47::t))).drop 1=c::u++(prL s l++(60::47::t)):=rfl
        rw [h1d,he]
      rw [if_neg (by intro h9; simp at h9; exact f1 h9.symm),hp]
      dsimp only
      have hne:(y.name==[])=false:=beq_eq_false_iff_ne.2 h1
      rw [hne] at h
      rw [cont_pr hel t l (ks++[y]) false n (by rw [List.length_cons] at hn; omega) h.2 (fun _ x hx=>by rw [List.getLast?_concat] at hx; injection hx with hx; rw [← hx]; exact h1),List.append_assoc]; rfl
theorem prL_cnt {m:Nat} (s:List UInt8):∀ {l:List XN} {last:Bool},Q8 (rtX m) last l=true→l.length≤(prL s l).length
  | [],_,_=>Nat.zero_le _
  | y::l,last,h=>by
    rw [Q8,Bool.and_eq_true] at h
    have ih:=prL_cnt s h.2
    rw [prL_cons,List.length_append,List.length_cons]
    have:1≤(prX s y).length:=by
      rcases kid_cases h.1 with ⟨h1,_,h3,h4,_⟩ | ⟨_,h2⟩
      · rw [prX_text h1]; exact List.length_pos_iff.2 (html_ne h4 h3)
      · obtain ⟨c,u,e,_⟩:=pr_head (sp:=s) (rt_nm h2)
        rw [e,List.length_cons]; omega
    omega
theorem rt_parts {m:Nat} {x:XN} (h:rtX (m+1) x=true):nmOk x.name=true∧x.text=[]∧plX x.space=true∧plX x.name=true∧O7 [] x.attrs=true∧Q8 (rtX m) false x.kids=true:=by
  rw [rtX_s] at h
  simp only [Bool.and_eq_true,beq_iff_eq] at h
  exact ⟨h.1.1.1.1.1,h.1.1.1.1.2,h.1.1.1.2,h.1.1.2,h.1.2,h.2⟩
theorem el_pr:∀ (m:Nat) (x:XN) (sp:List UInt8) (spm:SPX) (t:List UInt8),rtX m x=true→lookX spm []=some sp→elE m spm ((prX sp x).drop 1++t)=.ok (x,t)
  | 0,x,_,_,_,h,_=>by rw [rtX_0] at h; cases h
  | m+1,x,sp,spm,t,h,hl=>by
    obtain ⟨h1,h2,h3,h4,h5,h6⟩:=rt_parts h
    have hn:=(nmOk_eq h1).1
    have hx:x=.mk x.space x.name x.attrs x.kids []:=by rw [← h2]; cases x; rfl
    by_cases hk:x.kids.length=0
    · have hk0:x.kids=[]:=List.eq_nil_of_length_eq_zero hk
      have e:(prX sp x).drop 1++t=x.name++(N0 (xmA x.space sp++x.attrs)++(endT true++t)):=by
        rw [prX_none hn hk]; unfold prH; rw [X8,← spc_xm]; simp [endT]
      rw [e,elE,head_pr true t h3 h1 h5 hl]
      dsimp only
      rw [if_pos rfl,← hk0,← hx]
    · have e:(prX sp x).drop 1++t=x.name++(N0 (xmA x.space sp++x.attrs)++(endT false++(prL x.space x.kids++(60::47::(x.name++62::t))))):=by
        rw [prX_kids hn hk]; unfold prH; rw [X8,← spc_xm]; simp [endT]
      rw [e,elE,head_pr false _ h3 h1 h5 hl]
      dsimp only
      rw [if_neg (by decide)]
      have hc:=cont_pr (m:=m) (s:=x.space) (spm:=xmS x.space sp spm) (fun y t hy=>el_pr m y x.space _ t hy (look_xm hl)) (x.name++62::t) x.kids [] false ((prL x.space x.kids++(60::47::(x.name++62::t))).length+1) (by have:=prL_cnt x.space h6; rw [List.length_append]; omega) h6 (fun _ y hy=>by cases hy)
      rw [hc]
      dsimp only
      have he:endE ⟨[],x.name,false⟩ (x.name++62::t)=some t:=by
        unfold endE
        rw [qual_upto h1 (by decide) (by decide)]
        dsimp only
        rw [if_neg (by simp),T4 (by decide)]; rfl
      rw [he]
      dsimp only
      rw [List.nil_append,← hx]
theorem pl_atts:∀ {l:List XA},(∀ a∈l,plX a.name=true∧plX a.value=true)→Pl (N0 l)
  | [],_=>Pl.nil
  | a::l,h=>by
    have h1:=h a List.mem_cons_self
    have e:attP a=[32]++(a.name++([61,34]++(C5 D8 (G0 a.value)++[34]))):=by unfold attP quoX; simp
    rw [N0,e]
    exact ((pl_lit (by kernel_rfl) (by kernel_rfl)).app ((plX_pl h1.1).app ((pl_lit (by kernel_rfl) (by kernel_rfl)).app ((pl_quo h1.2).app (pl_lit (by kernel_rfl) (by kernel_rfl)))))).app (pl_atts (fun x hx=>h x (List.mem_cons_of_mem _ hx)))
theorem pl_xmlns:plX T1=true:=by kernel_rfl
theorem pl_kids {m:Nat} {s:List UInt8} (hel:∀ y,rtX m y=true→Pl (prX s y)):∀ {l:List XN} {last:Bool},Q8 (rtX m) last l=true→Pl (prL s l)
  | [],_,_=>by rw [prL_nil]; exact Pl.nil
  | y::l,last,h=>by
    rw [Q8,Bool.and_eq_true] at h
    rw [prL_cons]
    refine Pl.app ?_ (pl_kids hel h.2)
    rcases kid_cases h.1 with ⟨h1,_,h3,h4,_⟩ | ⟨_,h2⟩
    · rw [prX_text h1]; exact pl_html h4
    · exact hel y h2
theorem pl_pr:∀ (m:Nat) (x:XN) (sp:List UInt8),rtX m x=true→Pl (prX sp x)
  | 0,x,_,h=>by rw [rtX_0] at h; cases h
  | m+1,x,sp,h=>by
    obtain ⟨h1,h2,h3,h4,h5,h6⟩:=rt_parts h
    have hn:=(nmOk_eq h1).1
    have hall:∀ a∈xmA x.space sp++x.attrs,plX a.name=true∧plX a.value=true:=by
      intro a h
      rcases List.mem_append.1 h with h | h
      · unfold xmA at h
        split at h
        · exact absurd h List.not_mem_nil
        · rw [List.mem_singleton.1 h]; exact ⟨pl_xmlns,h3⟩
      · have:=atF_yes (X9 h5 a h); exact ⟨this.2.2.2.2,this.2.2.2.1⟩
    have hh:Pl ([60]++(x.name++N0 (xmA x.space sp++x.attrs))):=(pl_lit (by kernel_rfl) (by kernel_rfl)).app ((plX_pl h4).app (pl_atts hall))
    by_cases hk:x.kids.length=0
    · have e:prX sp x=([60]++(x.name++N0 (xmA x.space sp++x.attrs)))++[47,62]:=by
        rw [prX_none hn hk]; unfold prH; rw [X8,← spc_xm]; simp
      rw [e]; exact hh.app (pl_lit (by kernel_rfl) (by kernel_rfl))
    · have e:prX sp x=([60]++(x.name++N0 (xmA x.space sp++x.attrs)))++([62]++(prL x.space x.kids++([60,47]++(x.name++[62])))):=by
        rw [prX_kids hn hk]; unfold prH; rw [X8,← spc_xm]; simp
      rw [e]
      exact hh.app ((pl_lit (by kernel_rfl) (by kernel_rfl)).app ((pl_kids (fun y hy=>pl_pr m y x.space hy) h6).app ((pl_lit (by kernel_rfl) (by kernel_rfl)).app ((plX_pl h4).app (pl_lit (by kernel_rfl) (by kernel_rfl))))))
theorem par_pr {x:XN} (h:rtX 24 x=true) (hl:(prX [] x).length≤65536):parX (prX [] x)=(x,0):=by
  obtain ⟨c,u,e,hf⟩:=pr_head (sp:=[]) (rt_nm h)
  obtain ⟨f1,f2,f3,f4,f5,f6⟩:=fst_ne hf
  have hB:F4 (prX [] x)=prX [] x:=by rw [e]; exact bom_ne (by decide)
  have hA:arE (F4 (prX [] x))=some (60::c::u):=by
    rw [hB,arE_step,e,T4 (by decide)]
    have ha:Q4 (60::c::u)=some none:=by
      unfold Q4
      rw [if_neg (by intro h9; simp at h9; exact f3 h9.1.symm),if_neg (by intro h9; simp at h9; exact f4 h9.symm)]
    rw [ha]
  have hE:elE 24 I6 (c::u)=.ok (x,[]):=by
    have:=el_pr 24 x [] I6 [] h (by decide +kernel)
    rw [e,List.append_nil] at this
    exact this
  rw [par_ok,par_mk hl (by rw [hB]; exact pl_pr 24 x [] h) hA hE,show arE []=some [] from by kernel_rfl]
  rfl
end Go.Xml
namespace Go.Xml
open Go.Esc Go.Json Go.Lib
theorem idx1_no {c:UInt8}:∀ {l:List UInt8},(∀ b∈l,b≠c)→idxL [c] l=none
  | [],_=>by simp [idxL]
  | b::l,h=>by
    have hb:b≠c:=h b List.mem_cons_self
    rw [idxL,idx1_no (fun x hx=>h x (List.mem_cons_of_mem _ hx)),if_neg (by simpa [List.isPrefixOf] using fun e=>hb e.symm)]
    rfl
theorem htmlP_len (p:Int):(O3 p).length≤6:=by
  unfold O3
  (repeat' split) <;> first | decide | exact Nat.le_trans (enc_len p).2 (by decide)
end Go.Xml
namespace Go.Xml
open Go.Esc Go.Json Go.Lib
def ltX (f:Bool) (b:UInt8):Bool:=if f then fstX b else nxtX b
theorem lt_yes {f:Bool} {b:UInt8} (h:fstX b=true):ltX f b=true:=by
  unfold ltX; cases f
  · exact (nxt_iff b).2 (.inl h)
  · exact h
theorem lt_no {f:Bool} {b:UInt8} (h:fstX b=false):ltX f b=((!f)&&(((decide ((b.toNat:Int) ≥ 48)&&decide ((b.toNat:Int)≤57))||((b.toNat:Int)==45))||((b.toNat:Int)==46))):=by
  unfold ltX
  cases f
  · rw [Bool.not_false,Bool.true_and,if_neg Bool.false_ne_true,Bool.eq_iff_iff,nxt_iff,h]
    simp only [Bool.or_eq_true,Bool.and_eq_true,decide_eq_true_eq,beq_iff_eq,Bool.false_eq_true,false_or]
    omega
  · rw [if_pos rfl,h]; rfl
theorem lt_stop {l:List UInt8} {i:Nat} {b:UInt8} (hN:NmAt l i) (hi:i<l.length) (hb:b=l.getD i 0) (h:ltX (((i:Nat):Int)==0) b=false):nmX l=i:=by
  subst hb
  unfold ltX at h
  by_cases h0:i=0
  · subst h0; exact nm_stop hN hi h (.inl rfl)
  · rw [if_neg (by simp; omega)] at h
    refine nm_stop hN hi ?_ (.inr h)
    cases hf:fstX (l.getD i 0) with
    | false=>rfl
    | true=>rw [(nxt_iff _).2 (.inl hf)] at h; cases h
theorem lt_step {l:List UInt8} {i:Nat} {b:UInt8} (hN:NmAt l i) (hi:i<l.length) (hb:b=l.getD i 0) (h:ltX (((i:Nat):Int)==0) b=true):NmAt l (i+1):=by
  subst hb
  unfold ltX at h
  by_cases h0:i=0
  · subst h0; exact nm_step hN hi (.inl h)
  · rw [if_neg (by simp; omega)] at h
    exact nm_step hN hi (.inr ⟨h0,h⟩)
theorem nmOk_no {l:List UInt8} {i:Nat} (h:nmX l=i) (hi:i<l.length):nmOk l=false:=by
  unfold nmOk
  rw [show (nmX l==l.length)=false from beq_eq_false_iff_ne.2 (by omega),Bool.and_false]
theorem nmOk_all {l:List UInt8} (h:nmX l=l.length):nmOk l=!(l==[]):=by
  unfold nmOk; rw [h,beq_self_eq_true,Bool.and_true]
theorem idx1_some {c:UInt8} {l:List UInt8} (h:c∈l):(idxL [c] l).isSome=true:=by
  cases hi:idxL [c] l with
  | some i=>rfl
  | none=>exact absurd rfl (idx1_none hi c h)
theorem plX_no {l:List UInt8} (h:(13:UInt8)∈l):plX l=false:=by
  unfold plX; rw [idx1_some h]; simp
theorem plX_all {l:List UInt8} (h:∀ b∈l,b≠13):plX l=(K8 l&&(D6 l==l)):=by
  unfold plX; rw [idx1_no h]; simp
theorem take_snoc {P:UInt8→Prop} {l:List UInt8} {i:Nat} {b:UInt8} (h:∀ x∈l.take i,P x) (hi:i<l.length) (hb:b=l.getD i 0) (hp:P b):∀ x∈l.take (i+1),P x:=by
  intro x hx
  rw [List.take_succ_eq_append_getElem hi] at hx
  rcases List.mem_append.1 hx with hx | hx
  · exact h x hx
  · rw [List.mem_singleton.1 hx]
    rw [List.getD_eq_getElem?_getD,List.getElem?_eq_getElem hi] at hb
    rw [← show b=l[i] from hb]; exact hp
def quG (p:Int):List UInt8:=if p=10 then [38,35,49,48,59] else if p=9 then [38,35,57,59] else encodeRune p
theorem quG_html (q:Int):(htmlQ q).flatMap quG=quoP q:=by
  unfold htmlQ quoP O3
  (repeat' split) <;> first | (subst_vars; decide +kernel) | (exfalso; omega) | (simp only [List.flatMap_cons,List.flatMap_nil,List.append_nil,quG]; simp [*])
theorem pts_htmlL {l:List UInt8} (h:plX l=true):(∀ p∈pts (G0 l),isR p)∧(pts (G0 l)).flatMap quG=C5 D8 (G0 l):=by
  obtain ⟨qs,hw⟩:=plX_wr h
  have e:G0 l=J3 (qs.flatMap htmlQ):=by
    rw [wr_html hw,encL_flat]; congr 1; funext p; exact (htmlQ_enc p).symm
  have hR:∀ p∈qs.flatMap htmlQ,isR p:=by
    intro p hp
    obtain ⟨q,hq,hp⟩:=List.mem_flatMap.1 hp
    exact (htmlQ_ok (hw.2 q hq).1 (hw.2 q hq).2.1 p hp).1
  have hp:pts (G0 l)=qs.flatMap htmlQ:=by rw [e,pts_enc0 hR]
  refine ⟨by rw [hp]; exact hR,?_⟩
  rw [hp,List.flatMap_assoc,wr_quo hw]
  congr 1; funext q; exact quG_html q
theorem quG_len (p:Int):(quG p).length≤5:=by
  unfold quG
  split
  · decide
  · split
    · decide
    · exact Nat.le_trans (enc_len p).2 (by decide)
theorem quG_take {ps:List Int} {k:Nat} {p:Int} (h:k<ps.length) (hp:p=ps.getD k 0):(ps.take (k+1)).flatMap quG=(ps.take k).flatMap quG++quG p:=by
  rw [List.take_succ_eq_append_getElem h,List.flatMap_append,hp,List.getD_eq_getElem?_getD,List.getElem?_eq_getElem h]; simp
theorem flatQ_len (ps:List Int):(ps.flatMap quG).length≤5 * ps.length:=by
  induction ps with
  | nil=>exact Nat.le_refl _
  | cons p ps ih=>have:=quG_len p; rw [List.flatMap_cons,List.length_append,List.length_cons]; omega
end Go.Xml
namespace Go.Proofs.YtppgfiklmfoaeaaGreatDoor
open Go.Sw Go.Sha Go.Esc Go.RowKit Go.Json Go.Xml
theorem rletter_ (b:UInt8) (f:Bool) (W0:World) (H:List Grp):Tri Tryz.prog 121 #[.int .u8 (b.toNat:Int),.bool f] W0 H (fun v H'=>v=.bool (ltX f b)∧H'=H):=by
 refine D4 45 Tryz.func121 ?_
 refine A1 (G_p [0] [0,1] (k:=A0 (A1 (A1 (G_p [0,0,0,0,0,6,0,0,0,0,0,0,6,5,0,0,0,5,0,0,0,5] [0,1,26] (k:=A0 (B0 (b:=((((decide ((b.toNat:Int) ≥ 97))&&(decide ((b.toNat:Int)≤122)))||((decide ((b.toNat:Int) ≥ 65))&&(decide ((b.toNat:Int)≤90))))||((b.toNat:Int)==95))||(decide ((b.toNat:Int) ≥ 128))) kr (fun hc1=>?_) (fun hc1=>?_))))))))
 ·
  have hf:fstX b=true:=by
   have h9:=hc1
   rw [fst_iff]
   simp only [Bool.or_eq_true,Bool.and_eq_true,decide_eq_true_eq,beq_iff_eq] at h9
   omega
  refine A1 (B9 (E':=[⟨4,[],.bool true⟩]) [0] [4] (k:=A0 (B8 (A5 (B7 [.tmp 4] [.bool true] (k:=?_))))))
  exact ⟨congrArg Value.bool (lt_yes hf).symm,rfl⟩
 ·
  have hf:fstX b=false:=by
   have h9:=hc1
   rw [← Bool.not_eq_true,fst_iff]
   simp only [Bool.or_eq_false_iff,Bool.and_eq_false_iff,decide_eq_false_iff_not,beq_eq_false_iff_ne,ne_eq] at h9
   omega
  refine A9 (A0 (A1 (G_p [0,0,0,0,0,0,0,0,6,0,0,0,5,0,0,0,5,6,0] [4] (k:=A0 (B8 (B7 [.tmp 4] [.bool ((!f)&&((((decide ((b.toNat:Int) ≥ 48))&&(decide ((b.toNat:Int)≤57)))||((b.toNat:Int)==45))||((b.toNat:Int)==46)))] (k:=?_)))))))
  exact ⟨congrArg Value.bool (lt_no hf).symm,rfl⟩
theorem rname_ (s:ByteArray) (hs:s.size≤100000000) (W0:World) (H:List Grp):Tri Tryz.prog 71 #[.string s] W0 H (fun v H'=>v=.bool (nmOk s.data.toList)∧H'=H):=by
 refine D4 19 Tryz.func71 ?_
 refine A1 (B9 (E':=[⟨0,[],.string s⟩]) [0] [0] (k:=A0 (A1 (A1 (G_p [0] [0,3] (k:=A0 (B2 (I3 (EI:=(fun ξ:Nat=>[⟨0,[],.string s⟩,⟨3,[],.int .i64 ((ξ:Nat):Int)⟩])) (HI:=(fun ξ:Nat=>H)) (Φ:=(fun ξ:Nat=>(ξ≤s.size)∧(NmAt s.data.toList ξ))) (μ:=(fun ξ:Nat=>s.size - ξ)) (s0:=(0)) [0,3] kr rfl ⟨(Nat.zero_le _),(.inl rfl)⟩ ?_))))))))
 rintro i ⟨hi,hN⟩
 try dsimp only at hi hN
 obtain ⟨b,hb⟩:∃ b:UInt8,b=s.data.toList.getD i 0:=⟨_,rfl⟩
 have hbyte:B1 s (i:Int)=(b.toNat:Int):=by rw [L3,hb]
 refine A1 (A1 (G_p [0,0,0,0] [0,3,7] (k:=A0 (B0 (b:=decide (((i:Nat):Int)<(s.size:Int))) kr (fun hc1=>?_) (fun hc1=>?_)))))
 ·
  simp only [decide_eq_true_eq] at hc1
  have hll:i<s.data.toList.length:=by rw [H4]; omega
  refine A9 (A0 (A1 (B2 (A1 (A3 (A4 (j:=2) [0,0] (k:=I9 s ((i:Nat):Int) (fun _=>by omega) ?_)))))))
  have hb2:=G6 s ((i:Nat):Int)
  refine F6 12 (x:=.int .u8 (B1 s ((i:Nat):Int))) (y:=.int .u8 (b.toNat:Int)) (by rw [hbyte]) (A4 (j:=5) [0,0] (k:=F8 Tryz.func121 (rletter_ b (((i:Nat):Int)==0) _ _) (A8 [0] [0,3,16] (k:=A0 (B0 (b:=!(ltX (((i:Nat):Int)==0) b)) kr (fun hc3=>?_) (fun hc3=>?_))))))
  ·
   have hst:nmX s.data.toList=i:=lt_stop hN hll hb (by simpa using hc3)
   refine A1 (B9 (E':=[⟨2,[],.bool false⟩]) [0] [2] (k:=A0 (B8 (B3 (A5 (A5 (B3 (A5 ?_))))))))
   refine B7 [.tmp 2] [.bool false] (k:=?_)
   exact ⟨congrArg Value.bool (nmOk_no hst hll).symm,rfl⟩
  ·
   have hlt2:ltX (((i:Nat):Int)==0) b=true:=by simpa using hc3
   refine A9 (B6 (A0 (A3 (A4 (j:=2) [0,0] (k:=D0 9 (((i:Nat):Int)+1) (by omega) (by omega) kr (A8 [0] [0,3] (k:=D2 (s':=(i+1)) [0,3] kr rfl ⟨(by omega),(lt_step hN hll hb hlt2)⟩ (by omega))))))))
 ·
  simp only [decide_eq_false_iff_not] at hc1
  have hst:nmX s.data.toList=s.data.toList.length:=nm_end hN (by rw [H4]; omega) (by rw [H4]; omega)
  refine E3 (A6 (A6 (B5 (A0 (A1 (G_p [0,0,0] [2] (k:=A0 (B8 ?_))))))))
  refine B7 [.tmp 2] [.bool (!(s.toList==eB.toList))] (k:=?_)
  exact ⟨congrArg Value.bool (by rw [nmOk_all hst]; exact congrArg (!·) (bkB s.data.toList [])),rfl⟩
theorem rxplain_ (s:ByteArray) (hs:s.size≤100000000) (W0:World) (H:List Grp):Tri Tryz.prog 32 #[.string s] W0 H (fun v H'=>v=.bool (K8 s.data.toList&&(D6 s.data.toList==s.data.toList))∧H'=H):=by
 refine D4 11 Tryz.func32 ?_
 refine A1 (B9 (E':=[⟨0,[],.string s⟩]) [0] [0] (k:=A0 (A1 (A3 (A4 (j:=1) [0] (k:=F8 Tryz.func55 (rvalid_ s (by omega) _ _) (A4 (j:=4) [0,0] (k:=N1 [(5,true)] Tryz.func45 (fun hc=>rplain_ s (by omega) _ _) ?_))))))))
 refine A8 [0,0,6,0] [2] (k:=A0 (B8 (B7 [.tmp 2] [.bool ((K8 s.data.toList)&&((bk (D6 s.data.toList)).toList==s.toList))] (k:=?_))))
 exact ⟨congrArg Value.bool (congrArg (K8 s.data.toList&&·) (bkB (D6 s.data.toList) s.data.toList)),rfl⟩
theorem ropen_ (s:ByteArray) (hs:s.size≤100000000) (W0:World) (H:List Grp):Tri Tryz.prog 72 #[.string s] W0 H (fun v H'=>v=.bool (plX s.data.toList)∧H'=H):=by
 refine D4 16 Tryz.func72 ?_
 refine A1 (B9 (E':=[⟨0,[],.string s⟩]) [0] [0] (k:=A0 (A1 (A1 (G_p [0] [0,3] (k:=A0 (B2 (I3 (EI:=(fun ξ:Nat=>[⟨0,[],.string s⟩,⟨3,[],.int .i64 ((ξ:Nat):Int)⟩])) (HI:=(fun ξ:Nat=>H)) (Φ:=(fun ξ:Nat=>(ξ≤s.size)∧(∀ x∈s.data.toList.take ξ,x≠13))) (μ:=(fun ξ:Nat=>s.size - ξ)) (s0:=(0)) [0,3] kr rfl ⟨(Nat.zero_le _),(fun x hx=>by simp at hx)⟩ ?_))))))))
 rintro i ⟨hi,hN⟩
 try dsimp only at hi hN
 obtain ⟨b,hb⟩:∃ b:UInt8,b=s.data.toList.getD i 0:=⟨_,rfl⟩
 have hbyte:B1 s (i:Int)=(b.toNat:Int):=by rw [L3,hb]
 refine A1 (A1 (G_p [0,0,0,0] [0,3,7] (k:=A0 (B0 (b:=decide (((i:Nat):Int)<(s.size:Int))) kr (fun hc1=>?_) (fun hc1=>?_)))))
 ·
  simp only [decide_eq_true_eq] at hc1
  have hll:i<s.data.toList.length:=by rw [H4]; omega
  refine A9 (A0 (A1 (B2 (A1 (A3 (A4 (j:=2) [0,0] (k:=I9 s ((i:Nat):Int) (fun _=>by omega) ?_)))))))
  have hb2:=G6 s ((i:Nat):Int)
  refine F6 12 (x:=.int .u8 (B1 s ((i:Nat):Int))) (y:=.int .u8 (b.toNat:Int)) (by rw [hbyte]) (A8 [0] [0,3,13] (k:=A0 (B0 (b:=(b.toNat:Int)==13) kr (fun hc3=>?_) (fun hc3=>?_))))
  ·
   simp only [beq_iff_eq] at hc3
   have hb13:b=13:=UInt8.toNat_inj.1 (by show b.toNat=13; have:=hc3; omega)
   refine A1 (B9 (E':=[⟨2,[],.bool false⟩]) [0] [2] (k:=A0 (B8 (B3 (A5 (A5 (B3 (A5 ?_))))))))
   refine B7 [.tmp 2] [.bool false] (k:=?_)
   exact ⟨congrArg Value.bool (plX_no (by rw [← hb13,hb,List.getD_eq_getElem?_getD,List.getElem?_eq_getElem hll]; exact List.getElem_mem hll)).symm,rfl⟩
  ·
   simp only [beq_eq_false_iff_ne,ne_eq] at hc3
   have hb13:b≠13:=by rintro rfl; exact absurd rfl hc3
   refine A9 (B6 (A0 (A3 (A4 (j:=2) [0,0] (k:=D0 9 (((i:Nat):Int)+1) (by omega) (by omega) kr (A8 [0] [0,3] (k:=D2 (s':=(i+1)) [0,3] kr rfl ⟨(by omega),(take_snoc hN hll hb hb13)⟩ (by omega))))))))
 ·
  simp only [decide_eq_false_iff_not] at hc1
  have hal:s.data.toList.take i=s.data.toList:=List.take_of_length_le (by rw [H4]; omega)
  rw [hal] at hN
  refine E3 (A6 (A6 (B5 (A0 (A1 (A3 (A4 (j:=1) [0] (k:=F8 Tryz.func32 (rxplain_ s (by omega) _ _) ?_))))))))
  refine A8 [0] [2] (k:=A0 (B8 (B7 [.tmp 2] [.bool (K8 s.data.toList&&(D6 s.data.toList==s.data.toList))] (k:=?_))))
  exact ⟨congrArg Value.bool (plX_all hN).symm,rfl⟩
theorem rquo_ (l:List UInt8) (hl:l.length≤80000) (hx:plX l=true) (W0:World) (H:List Grp):Tri Tryz.prog 74 #[.string (bk l)] W0 H (fun v H'=>v=.string (bk (quoX l))∧H'=H):=by
 have hbz:=C8 l
 have hhl:=html_len l
 have hpl:=pts_len (G0 l)
 have hhz:=C8 (G0 l)
 obtain ⟨hpR,hpG⟩:=pts_htmlL hx
 refine D4 32 Tryz.func74 ?_
 refine A1 (B9 (E':=[⟨0,[],.string (bk l)⟩]) [0] [0] (k:=A0 (A1 (G_p [0] [0,3] (k:=A0 (A1 (A1 (A3 ?_))))))))
 refine A4 (j:=1) [0] (k:=F8 Tryz.func73 (rhtml_ (bk l) (by first | (rw [C8]; omega) | omega) _ _) (E0 Tryz.func94 (points_ (bk (G0 l)) (by rw [C8]; omega) _ _) ?_))
 rintro _ _ ⟨iap0,icp0,igp0,rfl,iOp0,rfl⟩
 refine A8 [0,0] [3,8,9,10] (k:=A0 (B2 (I3 (EI:=(fun ξ:Nat × ByteArray=>[⟨3,[],.string ξ.2⟩,⟨8,[],.slice iap0 ((pts (G0 l)).length) icp0⟩,⟨9,[],.int .i64 (((pts (G0 l)).length:Nat):Int)⟩,⟨10,[],.int .i64 ((ξ.1:Nat):Int)⟩])) (HI:=(fun ξ:Nat × ByteArray=>(igp0::H))) (Φ:=(fun ξ:Nat × ByteArray=>(ξ.1≤(pts (G0 l)).length)∧(ξ.2.data.toList=((pts (G0 l)).take ξ.1).flatMap quG))) (μ:=(fun ξ:Nat × ByteArray=>(pts (G0 l)).length - ξ.1)) (s0:=(0,eB)) [3,8,9,10] kr rfl ⟨(Nat.zero_le _),rfl⟩ ?_)))
 rintro ⟨k,t⟩ ⟨hk,hT⟩
 dsimp only at hk hT
 have ht:t.size≤5 * (pts (G0 l)).length:=by
  have h1:=flatQ_len ((pts (G0 l)).take k)
  rw [← hT,H4,List.length_take] at h1; omega
 obtain ⟨p,hp⟩:∃ p,p=(pts (G0 l)).getD k 0:=⟨_,rfl⟩
 refine A1 (G_p [0] [3,8,9,10,11] (k:=A0 (A1 (B0 (b:=decide (((k:Nat):Int)<(((pts (G0 l)).length:Nat):Int))) kr (fun hc2=>?_) (fun hc2=>?_)))))
 ·
  simp only [decide_eq_true_eq] at hc2
  have hlt:k<(pts (G0 l)).length:=by omega
  have hel:=enc_len p
  refine A9 (A0 (A1 (B2 (A1 (A3 (E6 (a:=iap0) (S:=(inG igp0)) (cs:=(intV (pts (G0 l)))) ((pts (G0 l)).length) ((k:Nat):Int) 1 (H7 iOp0) (by exact ⟨by omega,by omega,iv_ne (by omega)⟩) (I0 (a:=iap0) (S:=(inG igp0)) (cs:=(intV (pts (G0 l)))) (k * 1) (.int .i64 ((pts (G0 l)).getD k 0)) (H7 iOp0) (D9 0 rfl) (fun _=>(by rw [Nat.mul_one]; exact iv_at (ps:=(pts (G0 l))) (k:=k) (by omega))) (F6 13 (x:=.int .i64 ((pts (G0 l)).getD k 0)) (y:=.int .i64 p) (by rw [hp]) ?_))))))))
  refine A8 [0] [3,5,8,9,10] (k:=A0 (A1 (G_p [0] [3,5,8,9,10,14] (k:=A0 (B2 (A1 (G_p [0,0] [3,5,8,9,10,14,20] (k:=A0 ?_))))))))
  refine B0 (b:=p==10) kr (fun hc3=>?_) (fun hc3=>?_)
  ·
   simp only [beq_iff_eq] at hc3
   have hj:quG p=[38,35,49,48,59]:=by unfold quG; rw [if_pos (by omega)]
   refine A3 (A4 (j:=1) [0] (k:=K5 t (mB #[38,35,49,48,59]) (by intro _; show t.size+5≤_; omega) (A8 [0] [3,8,9,10] (k:=B6 (B6 (A0 (A3 (A4 (j:=1) [0] (k:=?_)))))))))
   refine D0 28 (((k:Nat):Int)+1) (by omega) (by omega) kr (B4 (E':=[⟨3,[],.string (t++(mB #[38,35,49,48,59]))⟩,⟨8,[],.slice iap0 ((pts (G0 l)).length) icp0⟩,⟨9,[],.int .i64 (((pts (G0 l)).length:Nat):Int)⟩,⟨10,[],.int .i64 (((k:Nat):Int)+1)⟩]) [0] [3,8,9,10] (k:=D2 (s':=(k+1,t++(mB #[38,35,49,48,59]))) [3,8,9,10] kr rfl ⟨(by dsimp only; omega),(by dsimp only; rw [quG_take hlt hp,← hT,hj]; first | exact F9 _ _ | (rw [F9]; congr 1; exact List.append_nil _))⟩ (by dsimp only; omega)))
  ·
   simp only [beq_eq_false_iff_ne,ne_eq] at hc3
   refine A1 (G_p [0,0] [3,5,8,9,10,24] (k:=A0 (B0 (b:=p==9) kr (fun hc5=>?_) (fun hc5=>?_))))
   ·
    simp only [beq_iff_eq] at hc5
    have hj:quG p=[38,35,57,59]:=by unfold quG; rw [if_neg (by omega),if_pos (by omega)]
    refine A3 (A4 (j:=1) [0] (k:=K5 t (mB #[38,35,57,59]) (by intro _; show t.size+4≤_; omega) (B4 (E':=[⟨3,[],.string (t++(mB #[38,35,57,59]))⟩,⟨8,[],.slice iap0 ((pts (G0 l)).length) icp0⟩,⟨9,[],.int .i64 (((pts (G0 l)).length:Nat):Int)⟩,⟨10,[],.int .i64 ((k:Nat):Int)⟩]) [0] [3,8,9,10] (k:=B6 (B6 (A0 (A3 (A4 (j:=1) [0] (k:=?_)))))))))
    refine D0 28 (((k:Nat):Int)+1) (by omega) (by omega) kr (A8 [0] [3,8,9,10] (k:=D2 (s':=(k+1,t++(mB #[38,35,57,59]))) [3,8,9,10] kr rfl ⟨(by dsimp only; omega),(by dsimp only; rw [quG_take hlt hp,← hT,hj]; first | exact F9 _ _ | (rw [F9]; congr 1; exact List.append_nil _))⟩ (by dsimp only; omega)))
   ·
    simp only [beq_eq_false_iff_ne,ne_eq] at hc5
    have hj:quG p=Lib.encodeRune p:=by unfold quG; rw [if_neg (by omega),if_neg (by omega)]
    refine A3 (A4 (j:=2) [0,0] (k:=L0 3 1 [.int .i64 p] (fun b7=>E0 (vs:=[.slice (some ⟨b7,0,none⟩) 1 1]) Tryz.func76 (text_ (some ⟨b7,0,none⟩) 1 ([p]) (inG [(b7,.cells #[.int .i64 p] 3 (0,0))]) Rd.lit (fun x hx2=>List.mem_singleton.1 hx2 ▸ hp ▸ hpR _ (memI hlt)) (Nat.le_of_ble_eq_true rfl) _ _ (D9 0 rfl)) ?_)))
    rintro _ _ ⟨rfl,rfl⟩
    refine K5 t (bk (J3 ([p]))) (by intro _; rw [C8]; show t.size+(Lib.encodeRune _++[]).length≤_; rw [List.append_nil]; omega) (B4 (E':=[⟨3,[],.string (t++(bk (J3 ([p]))))⟩,⟨8,[],.slice iap0 ((pts (G0 l)).length) icp0⟩,⟨9,[],.int .i64 (((pts (G0 l)).length:Nat):Int)⟩,⟨10,[],.int .i64 ((k:Nat):Int)⟩]) [0] [3,8,9,10] (k:=B6 (B6 (A0 (A3 (A4 (j:=1) [0] (k:=D0 28 (((k:Nat):Int)+1) (by omega) (by omega) kr (A8 [0] [3,8,9,10] (k:=?_)))))))))
    refine E9 1 [1] (D2 (s':=(k+1,t++(bk (J3 ([p]))))) [3,8,9,10] kr kr ⟨(by dsimp only; omega),(by dsimp only; rw [quG_take hlt hp,← hT,hj]; first | exact F9 _ _ | (rw [F9]; congr 1; exact List.append_nil _))⟩ (by dsimp only; omega))
 ·
  simp only [decide_eq_false_iff_not] at hc2
  have hT2:t.data.toList=C5 D8 (G0 l):=by rw [hT,List.take_of_length_le (by omega),hpG]
  refine E3 (A6 (A6 (B5 (A0 (A1 (A3 (A4 (j:=1) [0] (k:=K5 (mB #[34]) t (by intro _; (try rw [H9]); first | (show 1+t.size≤_; omega) | (show _+1+1≤_; omega) | (show 1+t.size+1≤_; omega)) ?_))))))))
  refine K5 ((mB #[34])++t) (mB #[34]) (by intro _; (try rw [H9]); first | (show 1+t.size≤_; omega) | (show _+1+1≤_; omega) | (show 1+t.size+1≤_; omega)) (A8 [0] [2] (k:=A0 (B8 (E9 1 [] (B7 [.tmp 2] [.string (((mB #[34])++t)++(mB #[34]))] (k:=?_))))))
  exact ⟨congrArg Value.string (ba_eq (by rw [F9,F9,hT2]; rfl)),rfl⟩
end Go.Proofs.YtppgfiklmfoaeaaGreatDoor
namespace Go.Proofs.YtppgfiklmfoaeaaGreatDoor
open Go.Sw Go.Esc
def quoT:List Value:=[.string (mB #[10]),.string (mB #[38,35,49,48,59]),.string (mB #[9]),.string (mB #[38,35,57,59])]
theorem newRepQ_ (v:Nat) (W0:World) (H:List Grp):Tri Tryz.prog 148 #[.slice (some ⟨v,0,none⟩) 4 4] W0 ([(v,.cells #[.string (mB #[10]),.string (mB #[38,35,49,48,59]),.string (mB #[9]),.string (mB #[38,35,57,59])] 9 (0,0))]::H) (fun x H'=>∃ b a cap g,x=pt b∧Go.Sw.Own 9 1 (.slice a 4 cap) g 4 quoT∧H'=repG b 0 0 .nilIface (.slice a 4 cap)::g::[(v,.cells #[.string (mB #[10]),.string (mB #[38,35,49,48,59]),.string (mB #[9]),.string (mB #[38,35,57,59])] 9 (0,0))]::H):=by
 refine D4 12 Tryz.func148 ?_
 refine A1 (G_p [0] [0] (k:=A0 (A1 (A1 (A3 (A4 (j:=3) [0,0,0] (k:=?_)))))))
 have hw1:Int.tmod 4 2=4 % 2:=r64 (by omega)
 refine GL_w 5 hw1 kr (A8 [0] [0,6] (k:=A0 (B0 (b:=(4 % 2)==1) kr (fun hc2=>?_) (fun hc2=>?_))))
 ·
  exact absurd hc2 (by decide)
 ·
  skip
  refine A9 (A0 (A1 (A3 (A4 (j:=1) [0] (k:=GL_heap rfl (H':=([]::[(v,.cells #[.string (mB #[10]),.string (mB #[38,35,49,48,59]),.string (mB #[9]),.string (mB #[38,35,57,59])] 9 (0,0))]::H)) (fun w h=>h.flat (List.Perm.refl _)) (O4 (inf:=Tryz.t9) (e:=9) (s:=.slice none 0 0) 4 1 0 rfl rfl Go.Sw.Own.nil (by omega) (by show (0+4) * 16≤140737488355328; omega) (fun v3 g4 hO5=>?_)))))))
  replace hO5:=own_nilE hO5
  obtain ⟨a6,cap7,rfl,hcap8,hrd9⟩:=hO5.shape
  refine A4 (j:=3) [0] (k:=N4 (.agg #[.int .u32 0,.int .i32 0,.int .u32 0,.nilIface,.slice a6 4 cap7]) (fun b10=>B4 (E':=[⟨2,[],pt b10⟩]) [0] [2] (k:=A0 (B8 (B7 [.tmp 2] [pt b10] (k:=?_))))))
  exact ⟨_,_,_,_,rfl,hO5,rfl⟩
def quoOlds:List Value:=[.string (mB #[9]),.string (mB #[10])]
def buildRQ (b:Nat) (a:Option Addr) (cap:Nat) (g:Grp) (H:List Grp) (x:Value) (H':List Grp):Prop:=∃ c aT cT gT a10 c10 g10 a9 c9 g9,x=.iface 249 (pt c)∧Go.Sw.Own 9 1 (.slice aT 2 cT) gT 2 quoOlds∧(Rd (inG g10) (some ⟨a10,0,none⟩) (u8s (mB #[38,35,49,48,59]).data.toList)∧Rd (inG g9) (some ⟨a9,0,none⟩) (u8s (mB #[38,35,57,59]).data.toList))∧H'=[(c,.cells (bsr [(9,.slice (some ⟨a9,0,none⟩) 4 c9),(10,.slice (some ⟨a10,0,none⟩) 5 c10)] (.slice aT 2 cT)) 248 (0,0))]::gT::g10::g9::([(b,.cells #[.int .u32 0,.int .i32 1,.int .u32 0,.nilIface,.slice a 4 cap] 213 (0,0))]::g::H)
theorem buildQ_ (b:Nat) (a:Option Addr) (cap:Nat) (g:Grp) (hr:Rd (inG g) a quoT) (W0:World) (H:List Grp):Tri Tryz.prog 190 #[pt b] W0 ([(b,.cells #[.int .u32 0,.int .i32 1,.int .u32 0,.nilIface,.slice a 4 cap] 213 (0,0))]::g::H) (buildRQ b a cap g H):=by
  refine D4 132 Tryz.func190 ?_
  refine A1 (B9 (E':=[⟨0,[],pt b⟩]) [0] [0] (k:=A0 (A1 (A3 (A4 (j:=3) [0,0,0] (k:=C4 0 4 rfl rfl (B4 (E':=[⟨3,[],.slice a 4 cap⟩]) [0] [3] (k:=A0 ?_))))))))
  refine A1 (A1 (G_p [0,0,0,0,1,1,1,1,1,3] [3,28] (k:=A0 (C9 kr (A9 (A0 (A1 (G_p [0] [3,4] (k:=?_)))))))))
  refine A0 (A1 (A1 (G_p [0] [3,4,5] (k:=A0 (B2 (N7 3 (F1 (A1 ?_))))))))
  refine A1 (G_p [0,0,0,0] [3,4,5,40] (k:=A0 (C7 kr (A9 (A0 (A1 (B2 (A1 ?_))))))))
  refine A1 (A3 (A4 (j:=2) [0,0] (k:=E6 4 0 1 hr (by exact ⟨by decide,by decide,by intro h; cases h⟩) (I0 (0 * 1) (.string (mB #[10])) hr (D9 1 rfl) (fun _=>rfl) (A8 [0,0] [3,4,5,48] (k:=A0 (C9 kr (A9 ?_))))))))
  refine A0 (A1 (A3 (A4 (j:=3) [0,0,0] (k:=E6 4 1 1 hr (by exact ⟨by decide,by decide,by intro h; cases h⟩) (I0 (1 * 1) (.string (mB #[38,35,49,48,59])) hr (D9 1 rfl) (fun _=>rfl) (B4 (E':=[⟨3,[],.slice a 4 cap⟩,⟨4,[],.bool true⟩,⟨5,[],.int .i64 0⟩,⟨58,[],.bool true⟩]) [0,0] [3,4,5,58] (k:=A0 (C7 kr ?_))))))))
  refine G_p [0] [3,4,5] (k:=B6 (A0 (G_p [0,0,0] [3,4,5] (k:=N_rd (F1 (A1 (A1 (G_p [0,0,0,0] [3,4,5,40] (k:=?_)))))))))
  refine A0 (C7 kr (A9 (A0 (A1 (B2 (A1 (A1 (A3 ?_))))))))
  refine A4 (j:=2) [0,0] (k:=E6 4 2 1 hr (by exact ⟨by decide,by decide,by intro h; cases h⟩) (I0 (2 * 1) (.string (mB #[9])) hr (D9 1 rfl) (fun _=>rfl) (A8 [0,0] [3,4,5,48] (k:=A0 (C9 kr (A9 (A0 (A1 ?_))))))))
  refine A3 (A4 (j:=3) [0,0,0] (k:=E6 4 3 1 hr (by exact ⟨by decide,by decide,by intro h; cases h⟩) (I0 (3 * 1) (.string (mB #[38,35,57,59])) hr (D9 1 rfl) (fun _=>rfl) (A8 [0,0] [3,4,5,58] (k:=A0 (C7 kr (B9 (E':=[⟨3,[],.slice a 4 cap⟩,⟨4,[],.bool false⟩,⟨5,[],.int .i64 2⟩]) [0] [3,4,5] (k:=B6 ?_))))))))
  refine A0 (G_p [0,0,0] [3,4,5] (k:=N_rd (F1 (A1 (A1 (G_p [0,0,0,0] [3,4,5,40] (k:=A0 (C9 kr ?_))))))))
  refine E3 (A6 (A6 (B5 (A0 (A1 (A1 (G_p [0] [3,59] (k:=A0 ?_))))))))
  refine C9 kr (A9 (A0 (A1 (A3 (A4 (j:=3) [0,0,0] (k:=GL_makeLC (i:=3) (ch:=[]) (t:=25) (e:=9) (inf:=Tryz.t9) (l:=0) (m:=2) (c:=[.string eB,.string eB]) rfl rfl kr kr kr kr rfl (by decide) (by decide) (by decide) (by decide) kr kr kr kr (fun b1=>A4 (j:=5) [0] (k:=J5 (.agg (bsr [] (.slice none 0 0))) (fun b2=>?_)))))))))
  refine Y1 0 0 (.agg (bsr [] (.slice (some ⟨b1,0,none⟩) 0 2))) (bsr [] (.slice (some ⟨b1,0,none⟩) 0 2)) rfl (A8 [] [3,11] (k:=A0 (A1 (A1 (G_p [0,0,0,0] [3,11,12] (k:=A0 (B2 (N7 3 ?_))))))))
  refine F1 (A1 (A1 (B9 (E':=[⟨3,[],.slice a 4 cap⟩,⟨11,[],pt b2⟩,⟨12,[],.int .i64 2⟩,⟨100,[],.bool true⟩]) [0,0] [3,11,12,100] (k:=A0 (C7 kr (A9 (A0 (A1 ?_))))))))
  refine B2 (A1 (A3 (A4 (j:=2) [0,0] (k:=E6 4 2 1 hr (by exact ⟨by decide,by decide,by intro h; cases h⟩) (I0 (2 * 1) (.string (mB #[9])) hr (D9 3 rfl) (fun _=>rfl) (I9 (mB #[9]) 0 (fun _=>by decide) (A8 [0] [3,11,12,13] (k:=A0 ?_))))))))
  refine A1 (A3 (A4 (j:=3) [0,0,0] (k:=E6 4 3 1 hr (by exact ⟨by decide,by decide,by intro h; cases h⟩) (I0 (3 * 1) (.string (mB #[38,35,57,59])) hr (D9 3 rfl) (fun _=>rfl) (A8 [0] [3,11,12,13,14] (k:=A0 (A1 (A1 ?_))))))))
  refine A3 (A4 (j:=2) [0,0] (k:=E2 (ch:=[]) (b:=b2) (off:=0) (len:=256) (sz:=1) (e:=22) (kd:=.u8) (j:=9) (hb:=(fun _=>⟨by decide,by decide⟩)) (k:=C4 (v:=.slice none 0 0) 0 9 rfl kr (A8 [0] [3,11,12,13,14,117] (k:=A0 (C7 kr (A3 (A4 (j:=1) [0] (k:=?_)))))))))
  refine C4 (v:=.slice (some ⟨b1,0,none⟩) 0 2) 0 256 rfl kr (A4 (j:=3) [0] (k:=L0 5 1 [.int .u8 9] (fun b3=>M3 (ch:=[]) (a:=⟨b3,0,none⟩) (cap:=1) (e:=5) (S:=(inG [(b3,.cells #[.int .u8 9] 5 (0,0))])) ([9]) (hrd:=Rd.lit (c:=[.int .u8 9])) (hS:=D9 0 rfl) (k:=L0 9 1 [.string (mB #[9])] (fun b4=>O4 (inf:=Tryz.t9) (e:=9) (s:=.slice (some ⟨b1,0,none⟩) 0 2) 1 0 3 rfl rfl (own_cut0 (c:=[.string eB,.string eB]) rfl) (by omega) (by show (0+1) * 16≤140737488355328; omega) (fun v5 g6 hO7=>?_))))))
  obtain ⟨a8,cap9,rfl,hcap10,hrd11⟩:=hO7.shape
  refine A4 (j:=8) [0] (k:=Y1 2 256 (.slice a8 (0+1) cap9) (bsr [] (.slice a8 (0+1) cap9)) rfl (A8 [] [3,11,12,13,14] (k:=A0 (A3 (A4 (j:=2) [0,0] (k:=L4 (ch:=[]) (src:=9) (dst:=22) (e:=5) (s:=(mB #[38,35,57,59])) (k:=(fun b12 cap13 g14 hcap15 hrd16=>?_))))))))
  refine A4 (j:=4) [0] (k:=E2 (ch:=[]) (b:=b2) (off:=0) (len:=256) (sz:=1) (e:=22) (kd:=.u8) (j:=9) (hb:=(fun _=>⟨by decide,by decide⟩)) (k:=Y1 3 9 (.slice (some ⟨b12,0,none⟩) ((mB #[38,35,57,59]).size) cap13) (bsr [(9,.slice (some ⟨b12,0,none⟩) ((mB #[38,35,57,59]).size) cap13)] (.slice a8 (0+1) cap9)) rfl (A8 [] [3,11,12] (k:=B6 (A0 (B9 (E':=[⟨3,[],.slice a 4 cap⟩,⟨11,[],pt b2⟩,⟨12,[],.int .i64 0⟩]) [0,0,0] [3,11,12] (k:=N_rd (F1 ?_))))))))
  refine A1 (A1 (G_p [0,0] [3,11,12,100] (k:=A0 (C7 kr (A9 (A0 (A1 (B2 ?_))))))))
  refine A1 (A3 (A4 (j:=2) [0,0] (k:=E6 4 0 1 hr (by exact ⟨by decide,by decide,by intro h; cases h⟩) (I0 (0 * 1) (.string (mB #[10])) hr (D9 6 rfl) (fun _=>rfl) (I9 (mB #[10]) 0 (fun _=>by decide) (A8 [0] [3,11,12,13] (k:=A0 (A1 ?_))))))))
  refine A3 (A4 (j:=3) [0,0,0] (k:=E6 4 1 1 hr (by exact ⟨by decide,by decide,by intro h; cases h⟩) (I0 (1 * 1) (.string (mB #[38,35,49,48,59])) hr (D9 6 rfl) (fun _=>rfl) (A8 [0] [3,11,12,13,14] (k:=A0 (A1 (A1 (A3 ?_))))))))
  refine A4 (j:=2) [0,0] (k:=E2 (ch:=[]) (b:=b2) (off:=0) (len:=256) (sz:=1) (e:=22) (kd:=.u8) (j:=10) (hb:=(fun _=>⟨by decide,by decide⟩)) (k:=C4 (v:=.slice none 0 0) 3 10 rfl kr (A8 [0] [3,11,12,13,14,117] (k:=A0 (C7 kr (A3 (A4 (j:=1) [0] (k:=C4 (v:=.slice a8 (0+1) cap9) 3 256 rfl kr ?_))))))))
  refine A4 (j:=3) [0] (k:=L0 5 1 [.int .u8 10] (fun b17=>M3 (ch:=[]) (a:=⟨b17,0,none⟩) (cap:=1) (e:=5) (S:=(inG [(b17,.cells #[.int .u8 10] 5 (0,0))])) ([10]) (hrd:=Rd.lit (c:=[.int .u8 10])) (hS:=D9 0 rfl) (k:=L0 9 1 [.string (mB #[10])] (fun b18=>O4 (inf:=Tryz.t9) 1 0 6 rfl rfl hO7 (by omega) (by show ((0+1)+1) * 16≤140737488355328; omega) (fun v19 g20 hO21=>?_)))))
  obtain ⟨a22,cap23,rfl,hcap24,hrd25⟩:=hO21.shape
  refine A4 (j:=8) [0] (k:=GL_st (ch:=[]) (b:=b2) (off:=256) (v:=.slice a22 ((0+1)+1) cap23) (j:=5) ([(b18,.cells #[.string (mB #[10])] 9 (0,0))]::[(b17,.cells #[.int .u8 10] 5 (0,0))]::g14::[(b4,.cells #[.string (mB #[9])] 9 (0,0))]::[(b3,.cells #[.int .u8 9] 5 (0,0))]::[(b2,.cells (bsr [(9,.slice (some ⟨b12,0,none⟩) ((mB #[38,35,57,59]).size) cap13)] (.slice a22 ((0+1)+1) cap23)) 248 (0,0))]::g20::[(b,.cells #[.int .u32 0,.int .i32 1,.int .u32 0,.nilIface,.slice a 4 cap] 213 (0,0))]::g::H) (h1:=kr) (hoff:=Nat.le_of_ble_eq_true kr) (hfz:=(fun _ _=>thaw0)) (k:=A8 [] [3,11,12,13,14] (k:=A0 (A3 (A4 (j:=2) [0,0] (k:=L4 (ch:=[]) (src:=9) (dst:=22) (e:=5) (s:=(mB #[38,35,49,48,59])) (k:=(fun b26 cap27 g28 hcap29 hrd30=>?_))))))))
  refine A4 (j:=4) [0] (k:=E2 (ch:=[]) (b:=b2) (off:=0) (len:=256) (sz:=1) (e:=22) (kd:=.u8) (j:=10) (hb:=(fun _=>⟨by decide,by decide⟩)) (k:=Y1 6 10 (.slice (some ⟨b26,0,none⟩) ((mB #[38,35,49,48,59]).size) cap27) (bsr [(9,.slice (some ⟨b12,0,none⟩) ((mB #[38,35,57,59]).size) cap13),(10,.slice (some ⟨b26,0,none⟩) ((mB #[38,35,49,48,59]).size) cap27)] (.slice a22 ((0+1)+1) cap23)) rfl (B4 (E':=[⟨3,[],.slice a 4 cap⟩,⟨11,[],pt b2⟩,⟨12,[],.int .i64 0⟩]) [] [3,11,12] (k:=B6 (A0 (G_p [0,0,0] [3,11,12] (k:=N_rd (F1 ?_))))))))
  refine A1 (A1 (G_p [0,0] [3,11,12,100] (k:=A0 (C9 kr (E3 (A6 (A6 (B5 ?_))))))))
  refine A0 (A1 (B9 (E':=[⟨2,[],.iface 249 (pt b2)⟩]) [0,0] [2] (k:=A0 (B8 (I1 (H':=(g28::[(b18,.cells #[.string (mB #[10])] 9 (0,0))]::[(b17,.cells #[.int .u8 10] 5 (0,0))]::g14::[(b4,.cells #[.string (mB #[9])] 9 (0,0))]::[(b2,.cells (bsr [(9,.slice (some ⟨b12,0,none⟩) ((mB #[38,35,57,59]).size) cap13),(10,.slice (some ⟨b26,0,none⟩) ((mB #[38,35,49,48,59]).size) cap27)] (.slice a22 ((0+1)+1) cap23)) 248 (0,0))]::g20::[(b,.cells #[.int .u32 0,.int .i32 1,.int .u32 0,.nilIface,.slice a 4 cap] 213 (0,0))]::g::H)) (fun w h=>h.erase 5) (I1 (H':=(g28::[(b18,.cells #[.string (mB #[10])] 9 (0,0))]::[(b17,.cells #[.int .u8 10] 5 (0,0))]::g14::[(b2,.cells (bsr [(9,.slice (some ⟨b12,0,none⟩) ((mB #[38,35,57,59]).size) cap13),(10,.slice (some ⟨b26,0,none⟩) ((mB #[38,35,49,48,59]).size) cap27)] (.slice a22 ((0+1)+1) cap23)) 248 (0,0))]::g20::[(b,.cells #[.int .u32 0,.int .i32 1,.int .u32 0,.nilIface,.slice a 4 cap] 213 (0,0))]::g::H)) (fun w h=>h.erase 4) (I1 (H':=(g28::[(b18,.cells #[.string (mB #[10])] 9 (0,0))]::g14::[(b2,.cells (bsr [(9,.slice (some ⟨b12,0,none⟩) ((mB #[38,35,57,59]).size) cap13),(10,.slice (some ⟨b26,0,none⟩) ((mB #[38,35,49,48,59]).size) cap27)] (.slice a22 ((0+1)+1) cap23)) 248 (0,0))]::g20::[(b,.cells #[.int .u32 0,.int .i32 1,.int .u32 0,.nilIface,.slice a 4 cap] 213 (0,0))]::g::H)) (fun w h=>h.erase 2) (I1 (H':=(g28::g14::[(b2,.cells (bsr [(9,.slice (some ⟨b12,0,none⟩) ((mB #[38,35,57,59]).size) cap13),(10,.slice (some ⟨b26,0,none⟩) ((mB #[38,35,49,48,59]).size) cap27)] (.slice a22 ((0+1)+1) cap23)) 248 (0,0))]::g20::[(b,.cells #[.int .u32 0,.int .i32 1,.int .u32 0,.nilIface,.slice a 4 cap] 213 (0,0))]::g::H)) (fun w h=>h.erase 1) ?_))))))))
  refine E9 0 [2,2,0,0,0,0] (B7 [.tmp 2] [.iface 249 (pt b2)] (k:=?_))
  refine ⟨b2,a22,cap23,g20,b26,cap27,g28,b12,cap13,g14,rfl,?_,⟨hrd30,hrd16⟩,?_⟩
  · exact hO21
  · kernel_rfl
def quoRep (g:Grp) (x:Value) (K:List Grp):Prop:=∃ c aT cT gT a10 c10 g10 a9 c9 g9,x=.iface 249 (pt c)∧Go.Sw.Own 9 1 (.slice aT 2 cT) gT 2 quoOlds∧(Rd (inG g10) (some ⟨a10,0,none⟩) (u8s (mB #[38,35,49,48,59]).data.toList)∧Rd (inG g9) (some ⟨a9,0,none⟩) (u8s (mB #[38,35,57,59]).data.toList))∧K=[[(c,.cells (bsr [(9,.slice (some ⟨a9,0,none⟩) 4 c9),(10,.slice (some ⟨a10,0,none⟩) 5 c10)] (.slice aT 2 cT)) 248 (0,0))],gT,g10,g9,g]
theorem buildOnceQ_ (b:Nat) (a:Option Addr) (cap:Nat) (g:Grp) (hr:Rd (inG g) a quoT) (W0:World) (H:List Grp):Tri Tryz.prog 172 #[pt b] W0 ([(b,.cells #[.int .u32 0,.int .i32 1,.int .u32 0,.nilIface,.slice a 4 cap] 213 (0,0))]::g::H) (fun _ H'=>∃ r2 K2,quoRep g r2 K2∧H'=repG b 0 1 r2 (.slice none 0 0)::(K2++H)):=by
 refine D4 10 Tryz.func172 ?_
 refine A1 (A3 (A4 (j:=2) [0,0] (k:=E0 Tryz.func190 (buildQ_ b a cap g hr _ _) ?_)))
 rintro _ _ ⟨c,aT,cT,gT,a10,c10,g10,a9,c9,g9,rfl,hT,hR,rfl⟩
 refine A4 (j:=5) [0,0] (k:=E4 4 3 (.iface 249 (pt c)) rfl (B4 (E':=[⟨0,[],pt b⟩]) [] [0] (k:=A0 (A3 (A4 (j:=3) [0,0,0] (k:=E4 4 4 (.slice none 0 0) rfl (B4 (E':=[]) [] [] (k:=E9 0 [4,0,0,0,0,0] ?_))))))))
 refine B7 [] [] (k:=?_)
 exact ⟨_,_,⟨c,aT,cT,gT,a10,c10,g10,a9,c9,g9,rfl,hT,hR,rfl⟩,rfl⟩
theorem quoOnce (b:Nat) (a:Option Addr) (cap:Nat) (g:Grp) (hr:Rd (inG g) a quoT) (W0:World) (H:List Grp):Tri Tryz.prog 171 #[pt b,.func (.func 172) #[pt b] #[]] W0 (repG b 0 0 .nilIface (.slice a 4 cap)::([g]++H)) (fun _ H'=>∃ r2 K2,quoRep g r2 K2∧H'=repG b 1 0 r2 (.slice none 0 0)::(K2++H)) :=
  onceDo_ b .nilIface (.slice a 4 cap) (.slice none 0 0) [g] (quoRep g) (fun W0 H=>buildOnceQ_ b a cap g hr W0 H) W0 H
theorem repReplaceQ_ (b:Nat) (a:Option Addr) (cap:Nat) (g:Grp) (hr:Rd (inG g) a quoT) (x y:ByteArray) (hrep:∀ c aT cT gT a10 c10 g10 a9 c9 g9 W0 H,Go.Sw.Own 9 1 (.slice aT 2 cT) gT 2 quoOlds→(Rd (inG g10) (some ⟨a10,0,none⟩) (u8s (mB #[38,35,49,48,59]).data.toList)∧Rd (inG g9) (some ⟨a9,0,none⟩) (u8s (mB #[38,35,57,59]).data.toList))→Tri Tryz.prog 284 #[pt c,.string x] W0 ([(c,.cells (bsr [(9,.slice (some ⟨a9,0,none⟩) 4 c9),(10,.slice (some ⟨a10,0,none⟩) 5 c10)] (.slice aT 2 cT)) 248 (0,0))]::gT::g10::g9::H) (fun v H'=>v=.string y∧H'=[(c,.cells (bsr [(9,.slice (some ⟨a9,0,none⟩) 4 c9),(10,.slice (some ⟨a10,0,none⟩) 5 c10)] (.slice aT 2 cT)) 248 (0,0))]::gT::g10::g9::H)) (W0:World) (H:List Grp):Tri Tryz.prog 149 #[pt b,.string x] W0 ([(b,.cells #[.int .u32 0,.int .i32 0,.int .u32 0,.nilIface,.slice a 4 cap] 213 (0,0))]::g::H) (fun v H'=>v=.string y∧H'=H):=by
 refine D4 17 Tryz.func149 ?_
 refine A1 (B9 (E':=[⟨0,[],pt b⟩,⟨1,[],.string x⟩]) [0] [0,1] (k:=A0 (A1 (A3 (A4 (j:=5) [0,0,0,0,0] (k:=E0 Tryz.func171 (quoOnce b a cap g hr _ _) ?_))))))
 rintro _ _ ⟨_,_,⟨c,aT,cT,gT,a10,c10,g10,a9,c9,g9,rfl,hT,hR,rfl⟩,rfl⟩
 refine B4 (E':=[⟨0,[],pt b⟩,⟨1,[],.string x⟩]) [] [0,1] (k:=A0 (A1 (A3 (A4 (j:=3) [0,0,0] (k:=C4 0 3 rfl rfl (A4 (j:=5) [0] (k:=O0 0 [1,1,1,1] (S1 (t:=249) (rv:=pt c) (f:=284) (vs:=[.string x]) (av:=#[pt c,.string x]) (hm:=(fun _=>by kernel_rfl)) (hc:=hrep c aT cT gT a10 c10 g10 a9 c9 g9 _ _ hT hR) (k:=?_)))))))))
 rintro _ _ ⟨rfl,rfl⟩
 refine B4 (E':=[⟨4,[],.string y⟩]) [0] [4] (k:=A0 (B8 (I1 (H':=([(c,.cells (bsr [(9,.slice (some ⟨a9,0,none⟩) 4 c9),(10,.slice (some ⟨a10,0,none⟩) 5 c10)] (.slice aT 2 cT)) 248 (0,0))]::gT::g10::g9::[(b,.cells #[.int .u32 1,.int .i32 0,.int .u32 0,.iface 249 (pt c),.slice none 0 0] 213 (0,0))]::H)) (fun w h=>h.erase 5) (I1 (H':=([(c,.cells (bsr [(9,.slice (some ⟨a9,0,none⟩) 4 c9),(10,.slice (some ⟨a10,0,none⟩) 5 c10)] (.slice aT 2 cT)) 248 (0,0))]::gT::g10::g9::H)) (fun w h=>h.erase 4) (I1 (H':=([(c,.cells (bsr [(9,.slice (some ⟨a9,0,none⟩) 4 c9),(10,.slice (some ⟨a10,0,none⟩) 5 c10)] (.slice aT 2 cT)) 248 (0,0))]::gT::g10::H)) (fun w h=>h.erase 3) (I1 (H':=([(c,.cells (bsr [(9,.slice (some ⟨a9,0,none⟩) 4 c9),(10,.slice (some ⟨a10,0,none⟩) 5 c10)] (.slice aT 2 cT)) 248 (0,0))]::gT::H)) (fun w h=>h.erase 2) (I1 (H':=([(c,.cells (bsr [(9,.slice (some ⟨a9,0,none⟩) 4 c9),(10,.slice (some ⟨a10,0,none⟩) 5 c10)] (.slice aT 2 cT)) 248 (0,0))]::H)) (fun w h=>h.erase 1) (I1 (H':=H) (fun w h=>h.erase 0) ?_))))))))
 refine B7 [.tmp 4] [.string y] (k:=?_)
 exact ⟨rfl,rfl⟩
end Go.Proofs.YtppgfiklmfoaeaaGreatDoor
