/- The content of an element; what an element within is, is a premise. Conditions: sizes, what lies in memory, what the library's variables hold. (and what it stands on) -/
import Derived.Test.YtppgfiklmfoaeaaGreatDoorZ3
namespace Go.Proofs.YtppgfiklmfoaeaaGreatDoor
open Go.Sw Go.Esc
theorem tab_rowQ {a10 c10 a9 c9:Nat} {g10 g9:Grp} (h:Rd (inG g10) (some ⟨a10,0,none⟩) (u8s (mB #[38,35,49,48,59]).data.toList)∧Rd (inG g9) (some ⟨a9,0,none⟩) (u8s (mB #[38,35,57,59]).data.toList)) {A L C:Nat} {u:List UInt8} (hm:(A,L,C,u)∈[(a10,5,c10,([38,35,49,48,59]:List UInt8)),(a9,4,c9,[38,35,57,59])]) (W0:World) (X Y Z:Grp) (H:List Grp) :
    ∃ Q,Rd Q (some ⟨A,0,none⟩) (u8s u)∧∀ y o,Q y o→At W0 (X::Y::Z::([g10,g9]++H)) y o:=by
  obtain ⟨h1,h2⟩:=h
  have at5:∀ g,g∈[g10,g9]→∀ y o,inG g y o→At W0 (X::Y::Z::([g10,g9]++H)) y o:=fun g hg y o h=>At.mem (List.mem_cons_of_mem _ (List.mem_cons_of_mem _ (List.mem_cons_of_mem _ (List.mem_append_left H hg)))) h
  simp only [List.mem_cons,List.not_mem_nil,or_false,Prod.mk.injEq] at hm
  rcases hm with ⟨rfl,rfl,rfl,rfl⟩ | ⟨rfl,rfl,rfl,rfl⟩
  · exact ⟨_,h1,at5 _ (by simp)⟩
  · exact ⟨_,h2,at5 _ (by simp)⟩
def anyRQ (l:List UInt8):Bool:=l.any fun b=>(D8 b).isSome
theorem anyR_snocQ (l:List UInt8) (b:UInt8):anyRQ (l++[b])=(anyRQ l||(D8 b).isSome):=by simp [anyRQ]
theorem R4 (b:UInt8) {u:List UInt8} (h:D8 b=some u):C5 D8 [b]=u:=by simp [C5,h]
theorem P4 (b:UInt8) (h:D8 b=none):C5 D8 [b]=[b]:=by simp [C5,h]
theorem anyR_sameQ (l:List UInt8) (h:anyRQ l=false):C5 D8 l=l:=by
  refine X0 _ _ fun b hb=>?_
  unfold anyRQ at h
  rw [List.any_eq_false] at h
  have:=h b hb
  cases hr:D8 b with
  | none=>rfl
  | some u=>rw [hr] at this; exact absurd rfl this
theorem Y7 (l:List UInt8) {i:Nat} (h:i<l.length):C5 D8 l=C5 D8 (l.take i)++(C5 D8 [l.getD i 0]++C5 D8 (l.drop (i+1))):=by
  rw [← L5,← L5,← List.append_assoc,← K0 l h,List.take_append_drop]
theorem u_posQ {b:UInt8} {u:List UInt8} (h:D8 b=some u):4≤u.length∧u.length≤6:=by
  unfold D8 at h
  (repeat' split at h) <;> first | (injection h with h; subst h; exact ⟨by decide,by decide⟩) | cases h
theorem outR_le6Q (l:List UInt8):l.length≤(C5 D8 l).length∧(C5 D8 l).length≤6 * l.length:=by
  induction l with
  | nil=>exact ⟨Nat.le_refl _,Nat.le_refl _⟩
  | cons b l ih =>
    rw [X1,List.length_append,List.length_cons]
    have:1≤((D8 b).getD [b]).length∧((D8 b).getD [b]).length≤6:=by
      cases h:D8 b with
      | none=>exact ⟨Nat.le_refl _,by show 1≤6; decide⟩
      | some u=>have:=u_posQ h; show 1≤u.length∧u.length≤6; omega
    omega
theorem count_9 (s:ByteArray) (W0:World) (H:List Grp):Tri Tryz.prog 204 #[.string s,.string (mB #[9])] W0 H (fun v H'=>v=.int .i64 (s.data.toList.count 9:Int)∧H'=H):=by
 refine D4 34 Tryz.func204 ?_
 refine A1 (G_p [0] [0,1] (k:=A0 (A1 (A1 (G_p [0,0,0] [0,1,9] (k:=A0 (C9 kr (A9 ?_))))))))
 refine A0 (A1 (A1 (G_p [0,0,0] [0,1,15] (k:=A0 (C7 kr (A1 (A3 (A4 (j:=2) [0,0] (k:=?_)))))))))
 refine I9 (mB #[9]) 0 (fun _=>by decide) (Q3 (ch:=[]) (f:=223) (vs:=[.string s,.int .u8 9]) (v:=.int .i64 (s.data.toList.count 9:Int)) (e:=Extern.BytealgCount.count) (hf:=Tryz.func223) (hrun:=(fun w=>run_cnt s 9 w)) (k:=A8 [0] [4] (k:=A0 (B8 (A5 (B7 [.tmp 4] [.int .i64 (s.data.toList.count 9:Int)] (k:=?_)))))))
 exact ⟨rfl,rfl⟩
theorem count_10 (s:ByteArray) (W0:World) (H:List Grp):Tri Tryz.prog 204 #[.string s,.string (mB #[10])] W0 H (fun v H'=>v=.int .i64 (s.data.toList.count 10:Int)∧H'=H):=by
 refine D4 34 Tryz.func204 ?_
 refine A1 (G_p [0] [0,1] (k:=A0 (A1 (A1 (G_p [0,0,0] [0,1,9] (k:=A0 (C9 kr (A9 ?_))))))))
 refine A0 (A1 (A1 (G_p [0,0,0] [0,1,15] (k:=A0 (C7 kr (A1 (A3 (A4 (j:=2) [0,0] (k:=?_)))))))))
 refine I9 (mB #[10]) 0 (fun _=>by decide) (Q3 (ch:=[]) (f:=223) (vs:=[.string s,.int .u8 10]) (v:=.int .i64 (s.data.toList.count 10:Int)) (e:=Extern.BytealgCount.count) (hf:=Tryz.func223) (hrun:=(fun w=>run_cnt s 10 w)) (k:=A8 [0] [4] (k:=A0 (B8 (A5 (B7 [.tmp 4] [.int .i64 (s.data.toList.count 10:Int)] (k:=?_)))))))
 exact ⟨rfl,rfl⟩
theorem tabReplaceQ_ (c c10 c9:Nat) (aT:Option Addr) (cT:Nat) (gT:Grp) (a10 a9:Nat) (g10 g9:Grp) (s:ByteArray) (hs:s.size≤2000000) (hT:Go.Sw.Own 9 1 (.slice aT 2 cT) gT 2 quoOlds) (hR:Rd (inG g10) (some ⟨a10,0,none⟩) (u8s (mB #[38,35,49,48,59]).data.toList)∧Rd (inG g9) (some ⟨a9,0,none⟩) (u8s (mB #[38,35,57,59]).data.toList)) (W0:World) (H:List Grp):Tri Tryz.prog 284 #[pt c,.string s] W0 ([(c,.cells (bsr [(9,.slice (some ⟨a9,0,none⟩) 4 c9),(10,.slice (some ⟨a10,0,none⟩) 5 c10)] (.slice aT 2 cT)) 248 (0,0))]::gT::g10::g9::H) (fun v H'=>v=.string ⟨(C5 D8 s.data.toList).toArray⟩∧H'=([(c,.cells (bsr [(9,.slice (some ⟨a9,0,none⟩) 4 c9),(10,.slice (some ⟨a10,0,none⟩) 5 c10)] (.slice aT 2 cT)) 248 (0,0))]::gT::g10::g9::H)):=by
 have hrT:Rd (inG gT) aT quoOlds:=by
  obtain ⟨a',c',he,_,hr⟩:=hT.shape
  injection he with h1 h2 h3; subst h1; exact hr
 have ho6:=outR_le6Q s.data.toList
 rw [show s.data.toList.length=s.size from Array.length_toList] at ho6
 have hlen:s.data.toList.length=s.size:=Array.length_toList
 have hcnt10:=List.count_le_length (a:=(10:UInt8)) (l:=s.data.toList)
 have hcnt9:=List.count_le_length (a:=(9:UInt8)) (l:=s.data.toList)
 refine D4 122 Tryz.func284 ?_
 refine A1 (B9 (E':=[⟨0,[],pt c⟩,⟨1,[],.string s⟩]) [0] [0,1] (k:=A0 (A1 (G_p [0,0,0] [0,1,5] (k:=A0 (A1 (G_p [0] [0,1,5,6] (k:=A0 ?_))))))))
 refine A1 (A1 (A3 (A4 (j:=3) [0,0,0] (k:=C2 (ch:=[]) (b:=c) (off:=256) (v:=.slice aT 2 cT) (hA:=At.grp 0 0 rfl rfl) (hv:=kr) (k:=A8 [0,0,0,0,0] [0,1,5,6,26] (k:=A0 (S0 (T:=Int × Bool) (fun ξ:Int × Bool=>[⟨0,[],pt c⟩,⟨1,[],.string s⟩,⟨5,[],.int .i64 ξ.1⟩,⟨6,[],.bool ξ.2⟩]) (fun ξ:Int × Bool=>([(c,.cells (bsr [(9,.slice (some ⟨a9,0,none⟩) 4 c9),(10,.slice (some ⟨a10,0,none⟩) 5 c10)] (.slice aT 2 cT)) 248 (0,0))]::gT::g10::g9::H)) (fun ξ:Int × Bool=>(ξ.1=((C5 D8 s.data.toList).length:Int))∧(ξ.2=false→(C5 D8 s.data.toList)=s.data.toList)) ?_ ?_)))))))
 ·
  refine B0 (b:=decide (16≤(s.size:Int))) kr (fun hc1=>?_) (fun hc1=>?_)
  ·
   try simp only [decide_eq_true_eq] at hc1
   refine A1 (A3 (A4 (j:=3) [0,0,0] (k:=C2 (ch:=[]) (b:=c) (off:=256) (v:=.slice aT 2 cT) (hA:=At.grp 0 0 rfl rfl) (hv:=kr) (k:=A8 [0,0] [0,1,5,6,30,31,32] (k:=A0 (B2 (N7 3 (F1 ?_))))))))
   refine A1 (G_p [0] [0,1,5,6,30,31,32,33] (k:=A0 (A1 (C7 kr (A9 (A0 (A1 (B2 ?_))))))))
   refine A1 (A3 (E6 2 0 1 hrT (by exact ⟨by decide,by decide,by intro h; cases h⟩) (I0 (0 * 1) (.string (mB #[9])) hrT (D9 1 rfl) (fun _=>rfl) (B4 (E':=[⟨0,[],pt c⟩,⟨1,[],.string s⟩,⟨5,[],.int .i64 (s.size:Int)⟩,⟨6,[],.bool false⟩,⟨8,[],.string (mB #[9])⟩,⟨30,[],.slice aT 2 cT⟩,⟨31,[],.int .i64 2⟩,⟨32,[],.int .i64 0⟩]) [0] [0,1,5,6,8,30,31,32] (k:=A0 (A1 (A3 (A4 (j:=2) [0,0] (k:=?_)))))))))
   refine F8 Tryz.func204 (count_9 s _ _) (A8 [0] [0,1,5,6,8,9,30,31,32] (k:=A0 (A1 (G_p [0,0] [0,1,5,6,8,9,30,31,32,40] (k:=A0 (S0 (T:=Int × Bool) (fun ξ:Int × Bool=>[⟨0,[],pt c⟩,⟨1,[],.string s⟩,⟨5,[],.int .i64 ξ.1⟩,⟨6,[],.bool ξ.2⟩,⟨30,[],.slice aT 2 cT⟩,⟨31,[],.int .i64 2⟩,⟨32,[],.int .i64 0⟩]) (fun ξ:Int × Bool=>([(c,.cells (bsr [(9,.slice (some ⟨a9,0,none⟩) 4 c9),(10,.slice (some ⟨a10,0,none⟩) 5 c10)] (.slice aT 2 cT)) 248 (0,0))]::gT::g10::g9::H)) (fun ξ:Int × Bool=>(ξ.1=(s.size:Int)+(s.data.toList.count 9:Int) * 3)∧(ξ.2=false→false=false∧s.data.toList.count 9=0)) ?_ ?_))))))
   ·
    refine B0 (b:=(s.data.toList.count 9:Int) != 0) kr (fun hc2=>?_) (fun hc2=>?_)
    ·
     try simp only [decide_eq_true_eq,decide_eq_false_iff_not] at hc2
     refine A1 (H0 (k:=A4 (j:=4) [0,0,0,0] (k:=I9 (mB #[9]) 0 (fun _=>by decide) (A4 (j:=7) [0,0] (k:=E2 (ch:=[]) (b:=c) (off:=0) (len:=256) (sz:=1) (e:=22) (kd:=.u8) (j:=9) (hb:=(fun _=>⟨by decide,by decide⟩)) (k:=C2 (ch:=[]) (b:=c) (off:=9) (v:=.slice (some ⟨a9,0,none⟩) 4 c9) (hA:=At.grp 0 0 rfl rfl) (hv:=kr) (k:=A4 (j:=12) [0,0,0] (k:=D0 52 ((s.data.toList.count 9:Int) * 3) (by omega) (by omega) kr ?_))))))))
     refine A4 (j:=13) [0] (k:=D0 53 ((s.size:Int)+((s.data.toList.count 9:Int) * 3)) (by omega) (by omega) kr (A8 [0] [0,1,5,30,31,32] (k:=A0 (G_p [0] [0,1,5,6,30,31,32] (k:=G8 ((s.size:Int)+((s.data.toList.count 9:Int) * 3),true) [0,1,5,6,30,31,32] kr (fun w h=>h) ⟨(by first | rfl | (simp only [bne_eq_false_iff_eq] at *; omega)),(by intro h; dsimp only at h; first | exact Bool.noConfusion h | (simp only [bne_eq_false_iff_eq] at *; exact ⟨h,by omega⟩))⟩)))))
    ·
     try simp only [decide_eq_true_eq,decide_eq_false_iff_not] at hc2
     refine A9 (G8 ((s.size:Int),false) [0,1,5,6,30,31,32] kr (fun w h=>h) ⟨(by first | rfl | (simp only [bne_eq_false_iff_eq] at *; omega)),(by intro h; dsimp only at h; first | exact Bool.noConfusion h | (simp only [bne_eq_false_iff_eq] at *; exact ⟨h,by omega⟩))⟩)
   ·
    rintro ⟨n1,b1⟩ ⟨hn1,hb1⟩
    refine B6 (A0 (G_p [0,0] [0,1,5,6,30,31,32] (k:=N_rd (F1 (A1 (G_p [0] [0,1,5,6,30,31,32,33] (k:=A0 (A1 ?_))))))))
    refine C7 kr (A9 (A0 (A1 (B2 (A1 (A3 (E6 2 1 1 hrT (by exact ⟨by decide,by decide,by intro h; cases h⟩) (I0 (1 * 1) (.string (mB #[10])) hrT (D9 1 rfl) (fun _=>rfl) ?_))))))))
    refine A8 [0] [0,1,5,6,8,30,31,32] (k:=A0 (A1 (A3 (A4 (j:=2) [0,0] (k:=F8 Tryz.func204 (count_10 s _ _) (A8 [0] [0,1,5,6,8,9,30,31,32] (k:=A0 (A1 ?_))))))))
    refine G_p [0,0] [0,1,5,6,8,9,30,31,32,40] (k:=A0 (S0 (T:=Int × Bool) (fun ξ:Int × Bool=>[⟨0,[],pt c⟩,⟨1,[],.string s⟩,⟨5,[],.int .i64 ξ.1⟩,⟨6,[],.bool ξ.2⟩,⟨30,[],.slice aT 2 cT⟩,⟨31,[],.int .i64 2⟩,⟨32,[],.int .i64 1⟩]) (fun ξ:Int × Bool=>([(c,.cells (bsr [(9,.slice (some ⟨a9,0,none⟩) 4 c9),(10,.slice (some ⟨a10,0,none⟩) 5 c10)] (.slice aT 2 cT)) 248 (0,0))]::gT::g10::g9::H)) (fun ξ:Int × Bool=>(ξ.1=n1+(s.data.toList.count 10:Int) * 4)∧(ξ.2=false→b1=false∧s.data.toList.count 10=0)) ?_ ?_))
    ·
     refine B0 (b:=(s.data.toList.count 10:Int) != 0) kr (fun hc5=>?_) (fun hc5=>?_)
     ·
      try simp only [decide_eq_true_eq,decide_eq_false_iff_not] at hc5
      refine A1 (H0 (k:=A4 (j:=4) [0,0,0,0] (k:=I9 (mB #[10]) 0 (fun _=>by decide) (A4 (j:=7) [0,0] (k:=E2 (ch:=[]) (b:=c) (off:=0) (len:=256) (sz:=1) (e:=22) (kd:=.u8) (j:=10) (hb:=(fun _=>⟨by decide,by decide⟩)) (k:=C2 (ch:=[]) (b:=c) (off:=10) (v:=.slice (some ⟨a10,0,none⟩) 5 c10) (hA:=At.grp 0 0 rfl rfl) (hv:=kr) (k:=A4 (j:=12) [0,0,0] (k:=D0 52 ((s.data.toList.count 10:Int) * 4) (by omega) (by omega) kr ?_))))))))
      refine A4 (j:=13) [0] (k:=D0 53 (n1+((s.data.toList.count 10:Int) * 4)) (by omega) (by omega) kr (B4 (E':=[⟨0,[],pt c⟩,⟨1,[],.string s⟩,⟨5,[],.int .i64 (n1+((s.data.toList.count 10:Int) * 4))⟩,⟨30,[],.slice aT 2 cT⟩,⟨31,[],.int .i64 2⟩,⟨32,[],.int .i64 1⟩]) [0] [0,1,5,30,31,32] (k:=A0 (G_p [0] [0,1,5,6,30,31,32] (k:=G8 (n1+((s.data.toList.count 10:Int) * 4),true) [0,1,5,6,30,31,32] kr (fun w h=>h) ⟨(by first | rfl | (simp only [bne_eq_false_iff_eq] at *; omega)),(by intro h; dsimp only at h; first | exact Bool.noConfusion h | (simp only [bne_eq_false_iff_eq] at *; exact ⟨h,by omega⟩))⟩)))))
     ·
      try simp only [decide_eq_true_eq,decide_eq_false_iff_not] at hc5
      refine A9 (G8 (n1,b1) [0,1,5,6,30,31,32] kr (fun w h=>h) ⟨(by first | rfl | (simp only [bne_eq_false_iff_eq] at *; omega)),(by intro h; dsimp only at h; first | exact Bool.noConfusion h | (simp only [bne_eq_false_iff_eq] at *; exact ⟨h,by omega⟩))⟩)
    ·
     rintro ⟨n2,b2⟩ ⟨hn2,hb2⟩
     refine B6 (A0 (G_p [0,0] [0,1,5,6,30,31,32] (k:=N_rd (F1 (A1 (G_p [0] [0,1,5,6,30,31,32,33] (k:=A0 (A1 ?_))))))))
     refine C9 kr (E3 (A6 (A6 (B5 (G8 (n2,b2) [0,1,5,6] kr (fun w h=>h) ⟨(by rw [quoR_count,show s.data.toList.length=s.size from Array.length_toList]; omega),(by intro h; obtain ⟨h1,h2⟩:=hb2 h; obtain ⟨_,h4⟩:=hb1 h1; exact quoR_same _ h4 h2)⟩)))))
  ·
   try simp only [decide_eq_false_iff_not] at hc1
   refine A1 (G_p [0] [0,1,5,6,10] (k:=A0 (B2 (I3 (EI:=(fun ξ:Nat × Int × Bool=>[⟨0,[],pt c⟩,⟨1,[],.string s⟩,⟨5,[],.int .i64 ξ.2.1⟩,⟨6,[],.bool ξ.2.2⟩,⟨10,[],.int .i64 (ξ.1:Int)⟩])) (HI:=(fun ξ:Nat × Int × Bool=>([(c,.cells (bsr [(9,.slice (some ⟨a9,0,none⟩) 4 c9),(10,.slice (some ⟨a10,0,none⟩) 5 c10)] (.slice aT 2 cT)) 248 (0,0))]::gT::g10::g9::H))) (Φ:=(fun ξ:Nat × Int × Bool=>(ξ.1≤s.size)∧(ξ.2.1=((C5 D8 (s.data.toList.take ξ.1)).length:Int)+s.size - ξ.1)∧(ξ.2.2=anyRQ (s.data.toList.take ξ.1)))) (μ:=(fun ξ:Nat × Int × Bool=>s.size - ξ.1)) (s0:=(0,(s.size:Int),false)) [0,1,5,6,10] kr rfl ⟨(by omega),(by dsimp only; simp [outR_nil]),rfl⟩ ?_))))
   rintro ⟨i,ns,ac⟩ ⟨hi,hns,hac⟩
   dsimp only at hi hns hac
   have hto:=outR_le6Q (s.data.toList.take i)
   rw [List.length_take,hlen,Nat.min_eq_left hi] at hto
   refine A1 (A1 (G_p [0,0,0,0] [0,1,5,6,10,58] (k:=A0 (B0 (b:=decide ((i:Int)<(s.size:Int))) kr (fun hc8=>?_) (fun hc8=>?_)))))
   ·
    try simp only [decide_eq_true_eq] at hc8
    refine A9 (A0 (A1 (B2 (A1 (A3 (A4 (j:=2) [0,0] (k:=I9 s (i:Int) (fun _=>by omega) ?_)))))))
    have hb9:=G6 s (i:Int)
    refine A8 [0] [0,1,5,6,10,11] (k:=A0 (A1 (A3 (A4 (j:=4) [0,0,0,0] (k:=E2 (ch:=[]) (b:=c) (off:=0) (len:=256) (sz:=1) (e:=22) (kd:=.u8) (j:=B1 s (i:Int)) (hb:=(fun _=>by have hbx:=G6 s (i:Int); exact ⟨by omega,by omega⟩)) (k:=?_))))))
    rcases tabQ_case (.slice aT 2 cT) a10 a9 c10 c9 (s.data.toList.getD i 0) with ⟨A,L,C,u,hmem,hu,hL,hcell⟩ | ⟨hu,hcell⟩
    ·
     have hu4:=u_posQ hu
     have hsp:=congrArg List.length (Y7 s.data.toList (show i<s.data.toList.length by omega))
     rw [R4 _ hu] at hsp
     simp only [List.length_append] at hsp
     refine C2 (ch:=[]) (b:=c) (off:=0+Int.toNat (B1 s (i:Int)) * 1) (v:=.slice (some ⟨A,0,none⟩) L C) (hA:=At.grp 0 0 rfl rfl) (hv:=(by rw [S6]; exact hcell)) (k:=A8 [0] [0,1,5,6,10,11,70] (k:=A0 (C7 kr (A1 (A3 (A4 (j:=5) [0,0,0,0,0] (k:=E2 (ch:=[]) (b:=c) (off:=0) (len:=256) (sz:=1) (e:=22) (kd:=.u8) (j:=B1 s (i:Int)) (hb:=(fun _=>by have hbx:=G6 s (i:Int); exact ⟨by omega,by omega⟩)) (k:=C2 (ch:=[]) (b:=c) (off:=0+Int.toNat (B1 s (i:Int)) * 1) (v:=.slice (some ⟨A,0,none⟩) L C) (hA:=At.grp 0 0 rfl rfl) (hv:=(by rw [S6]; exact hcell)) (k:=?_)))))))))
     refine A4 (j:=9) [0,0] (k:=D0 79 (((L:Nat):Int) - 1) (by omega) (by omega) kr (A4 (j:=10) [0] (k:=D0 80 (ns+(((L:Nat):Int) - 1)) (by omega) (by omega) kr (A8 [0] [0,1,5,10] (k:=A0 (G_p [0] [0,1,5,6,10] (k:=B6 (A0 ?_))))))))
     refine A3 (A4 (j:=2) [0,0] (k:=D0 60 ((i:Int)+1) (by omega) (by omega) kr (B4 (E':=[⟨0,[],pt c⟩,⟨1,[],.string s⟩,⟨5,[],.int .i64 (ns+(((L:Nat):Int) - 1))⟩,⟨6,[],.bool true⟩,⟨10,[],.int .i64 ((i:Int)+1)⟩]) [0] [0,1,5,6,10] (k:=D2 (s':=(i+1,ns+(((L:Nat):Int) - 1),true)) [0,1,5,6,10] kr rfl ⟨(by omega),(by dsimp only; rw [K0 _ (show i<s.data.toList.length by omega),L5,List.length_append]; first | (rw [R4 _ hu]; omega) | (rw [P4 _ hu]; simp only [List.length_cons,List.length_nil]; omega)),(by dsimp only; rw [K0 _ (show i<s.data.toList.length by omega),anyR_snocQ,hu]; simp [])⟩ (by omega)))))
    ·
     have hsp:=congrArg List.length (Y7 s.data.toList (show i<s.data.toList.length by omega))
     rw [P4 _ hu] at hsp
     simp only [List.length_append,List.length_cons,List.length_nil] at hsp
     refine C2 (ch:=[]) (b:=c) (off:=0+Int.toNat (B1 s (i:Int)) * 1) (v:=.slice none 0 0) (hA:=At.grp 0 0 rfl rfl) (hv:=(by rw [S6]; exact hcell)) (k:=A8 [0] [0,1,5,6,10,11,70] (k:=A0 (C9 kr (A9 (B6 (A0 (A3 (A4 (j:=2) [0,0] (k:=?_)))))))))
     refine D0 60 ((i:Int)+1) (by omega) (by omega) kr (A8 [0] [0,1,5,6,10] (k:=D2 (s':=(i+1,ns,ac)) [0,1,5,6,10] kr rfl ⟨(by omega),(by dsimp only; rw [K0 _ (show i<s.data.toList.length by omega),L5,List.length_append]; first | (rw [R4 _ hu]; omega) | (rw [P4 _ hu]; simp only [List.length_cons,List.length_nil]; omega)),(by dsimp only; rw [K0 _ (show i<s.data.toList.length by omega),anyR_snocQ,hu]; simp [hac])⟩ (by omega)))
   ·
    try simp only [decide_eq_false_iff_not] at hc8
    refine E3 (A6 (A6 (B5 (G8 (ns,ac) [0,1,5,6] kr (fun w h=>h) ⟨(by rw [show i=s.data.toList.length by rw [show s.data.toList.length=s.size from Array.length_toList]; omega] at hns; rw [List.take_length] at hns; omega),(by intro h; rw [show i=s.data.toList.length by rw [show s.data.toList.length=s.size from Array.length_toList]; omega] at hac; rw [List.take_length] at hac; exact anyR_sameQ _ (by rw [← hac]; exact h))⟩))))
 ·
  rintro ⟨ns,ac⟩ ⟨hN,hA⟩
  dsimp only at hN hA
  refine Q1 (E':=[⟨0,[],pt c⟩,⟨1,[],.string s⟩,⟨5,[],.int .i64 ((C5 D8 s.data.toList).length:Int)⟩,⟨6,[],.bool ac⟩]) (by dsimp only; rw [hN]) (A0 (A1 (A1 (G_p [0,0] [0,1,5,82] (k:=A0 (B0 (b:=!ac) kr (fun hc14=>?_) (fun hc14=>?_)))))))
  ·
   try simp only [decide_eq_true_eq,decide_eq_false_iff_not] at hc14
   refine A1 (B9 (E':=[⟨4,[],.string s⟩]) [0,0] [4] (k:=A0 (B8 (A5 (B7 [.tmp 4] [.string s] (k:=?_))))))
   exact ⟨congrArg Value.string (by rw [hA (by first | assumption | simp_all)]),rfl⟩
  ·
   try simp only [decide_eq_true_eq,decide_eq_false_iff_not] at hc14
   refine A9 (A0 (A1 (A3 (A4 (j:=1) [0] (k:=GL_makeS (ch:=[]) (t:=22) (e:=5) (inf:=Tryz.t5) (l:=(C5 D8 s.data.toList).length) (c:=(S4 [] (C5 D8 s.data.toList).length).toList) (hz:=rfl) (hb:=(by show (1:Int) * _≤_; omega)) (hl:=(by omega)) (hm:=(by show (C5 D8 s.data.toList).length * 1≤16777216; omega)) (hc:=(by rw [Array.toArray_toList]; exact madeZ _)) (k:=(fun B=>A8 [0] [0,1,12] (k:=A0 (A1 ?_)))))))))
   refine G_p [0] [0,1,12,13] (k:=A0 (A1 (A1 (G_p [0] [0,1,12,13,14] (k:=A0 (B2 (V6 (H':=([(B,.cells (S4 [] ((C5 D8 s.data.toList).length)) 5 (0,0))]::[(c,.cells (bsr [(9,.slice (some ⟨a9,0,none⟩) 4 c9),(10,.slice (some ⟨a10,0,none⟩) 5 c10)] (.slice aT 2 cT)) 248 (0,0))]::gT::g10::g9::H)) (fun w h=>by rw [Array.toArray_toList] at h; exact h) (I3 (EI:=(fun ξ:Nat × Nat=>[⟨0,[],pt c⟩,⟨1,[],.string s⟩,⟨12,[],.slice (some ⟨B,0,none⟩) ((C5 D8 s.data.toList).length) ((C5 D8 s.data.toList).length)⟩,⟨13,[],.int .i64 ((C5 D8 (s.data.toList.take ξ.1)).length:Int)⟩,⟨14,[],.int .i64 (ξ.1:Int)⟩])) (HI:=(fun ξ:Nat × Nat=>([(B,.cells (S4 (C5 D8 (s.data.toList.take ξ.1)) (ξ.2)) 5 (0,0))]::[(c,.cells (bsr [(9,.slice (some ⟨a9,0,none⟩) 4 c9),(10,.slice (some ⟨a10,0,none⟩) 5 c10)] (.slice aT 2 cT)) 248 (0,0))]::gT::g10::g9::H))) (Φ:=(fun ξ:Nat × Nat=>(ξ.1≤s.size)∧(ξ.2+(C5 D8 (s.data.toList.take ξ.1)).length=(C5 D8 s.data.toList).length))) (μ:=(fun ξ:Nat × Nat=>s.size - ξ.1)) (s0:=(0,(C5 D8 s.data.toList).length)) [0,1,12,13,14] kr rfl ⟨(by omega),(by simp [outR_nil])⟩ ?_))))))))
   rintro ⟨i,k⟩ ⟨hi,hk⟩
   dsimp only at hi hk
   have hto:=outR_le6Q (s.data.toList.take i)
   rw [List.length_take,hlen,Nat.min_eq_left hi] at hto
   have hto2:=outR_le6Q (s.data.toList.drop (i+1))
   refine A1 (A1 (G_p [0,0,0,0] [0,1,12,13,14,89] (k:=A0 (B0 (b:=decide ((i:Int)<(s.size:Int))) kr (fun hc15=>?_) (fun hc15=>?_)))))
   ·
    try simp only [decide_eq_true_eq] at hc15
    refine A9 (A0 (A1 (B2 (A1 (A3 (A4 (j:=2) [0,0] (k:=I9 s (i:Int) (fun _=>by omega) ?_)))))))
    have hb16:=G6 s (i:Int)
    refine A8 [0] [0,1,12,13,14,15] (k:=A0 (A1 (A3 (A4 (j:=4) [0,0,0,0] (k:=E2 (ch:=[]) (b:=c) (off:=0) (len:=256) (sz:=1) (e:=22) (kd:=.u8) (j:=B1 s (i:Int)) (hb:=(fun _=>by have hbx:=G6 s (i:Int); exact ⟨by omega,by omega⟩)) (k:=?_))))))
    rcases tabQ_case (.slice aT 2 cT) a10 a9 c10 c9 (s.data.toList.getD i 0) with ⟨A,L,C,u,hmem,hu,hL,hcell⟩ | ⟨hu,hcell⟩
    ·
     have hu4:=u_posQ hu
     have hsp:=congrArg List.length (Y7 s.data.toList (show i<s.data.toList.length by omega))
     rw [R4 _ hu] at hsp
     simp only [List.length_append] at hsp
     refine C2 (ch:=[]) (b:=c) (off:=0+Int.toNat (B1 s (i:Int)) * 1) (v:=.slice (some ⟨A,0,none⟩) L C) (hA:=At.grp 1 0 rfl rfl) (hv:=(by rw [S6]; exact hcell)) (k:=A8 [0] [0,1,12,13,14,15,101] (k:=A0 (C7 kr (H8 ([(c,.cells (bsr [(9,.slice (some ⟨a9,0,none⟩) 4 c9),(10,.slice (some ⟨a10,0,none⟩) 5 c10)] (.slice aT 2 cT)) 248 (0,0))]::gT::g10::g9::H) kr (G5 (fuel:=10) [(0,0),(1,0),(2,0)] (fun w h=>(h.pk 1 [1,1,1,1])) (k:=F5 (E':=[⟨105,[],.slice (cutA (some ⟨B,0,none⟩) ((C5 D8 s.data.toList).length) (Int.toNat ((C5 D8 (s.data.toList.take i)).length:Int)) 1) ((Int.toNat (((C5 D8 s.data.toList).length:Nat):Int)) - (Int.toNat ((C5 D8 (s.data.toList.take i)).length:Int))) ((C5 D8 s.data.toList).length - (Int.toNat ((C5 D8 (s.data.toList.take i)).length:Int)))⟩,⟨104,[],.int .i64 ((C5 D8 (s.data.toList.take i)).length:Int)⟩,⟨103,[],.slice (some ⟨B,0,none⟩) ((C5 D8 s.data.toList).length) ((C5 D8 s.data.toList).length)⟩,⟨102,[],.int .i64 ((C5 D8 (s.data.toList.take i)).length:Int)⟩,⟨0,[],pt c⟩,⟨1,[],.string s⟩,⟨12,[],.slice (some ⟨B,0,none⟩) ((C5 D8 s.data.toList).length) ((C5 D8 s.data.toList).length)⟩,⟨13,[],.int .i64 ((C5 D8 (s.data.toList.take i)).length:Int)⟩,⟨14,[],.int .i64 (i:Int)⟩,⟨15,[],.int .u8 (B1 s (i:Int))⟩,⟨101,[],.bool true⟩]) 3 kr (fun w h=>(h.pk 1 [1,1,1,1])) ?_ ?_))))))
     ·
      exact GL_sliceL (ch:=[]) (a:=(some ⟨B,0,none⟩)) (len:=(C5 D8 s.data.toList).length) (cap:=(C5 D8 s.data.toList).length) (e:=5) (sz:=1) (vl:=(some (.int .i64 ((C5 D8 (s.data.toList.take i)).length:Int)))) (vh:=none) (l:=((C5 D8 (s.data.toList.take i)).length:Int)) (h:=(((C5 D8 s.data.toList).length:Nat):Int)) (hb:=(fun _=>by omega)) (k:=G4)
     refine GH_env (E':=[⟨105,[],.slice (some ⟨B,(C5 D8 (s.data.toList.take i)).length,none⟩) ((C5 D8 s.data.toList).length - (C5 D8 (s.data.toList.take i)).length) ((C5 D8 s.data.toList).length - (C5 D8 (s.data.toList.take i)).length)⟩,⟨104,[],.int .i64 ((C5 D8 (s.data.toList.take i)).length:Int)⟩,⟨103,[],.slice (some ⟨B,0,none⟩) ((C5 D8 s.data.toList).length) ((C5 D8 s.data.toList).length)⟩,⟨102,[],.int .i64 ((C5 D8 (s.data.toList.take i)).length:Int)⟩,⟨0,[],pt c⟩,⟨1,[],.string s⟩,⟨12,[],.slice (some ⟨B,0,none⟩) ((C5 D8 s.data.toList).length) ((C5 D8 s.data.toList).length)⟩,⟨13,[],.int .i64 ((C5 D8 (s.data.toList.take i)).length:Int)⟩,⟨14,[],.int .i64 (i:Int)⟩,⟨15,[],.int .u8 (B1 s (i:Int))⟩,⟨101,[],.bool true⟩]) (by rw [Int.toNat_natCast,Int.toNat_natCast,cut_some (by omega)]) (G5 (fuel:=7) [(4,0),(5,0)] (fun w h=>(h.pk 1 [1,1,1,1])) (k:=L2 (ad:=⟨c,0,none⟩) 6 (hL:=(fun w h=>(h.pk 1 [1,1,1,1]))) (k:=G5 (fuel:=5) [(7,0)] (fun w h=>(h.pk 1 [1,1,1,1])) (k:=F5 8 (hL:=(fun w h=>(h.pk 1 [1,1,1,1]))) (hy:=E2 (i:=8) (ch:=[]) (b:=c) (off:=0) (len:=256) (sz:=1) (e:=22) (kd:=.u8) (j:=B1 s (i:Int)) (hb:=(fun _=>by have hbx:=G6 s (i:Int); exact ⟨by omega,by omega⟩)) (k:=G4 kr rfl)) (k:=F5 9 kr (fun w h=>(h.pk 1 [1,1,1,1])) (C2 (i:=9) (ch:=[]) (b:=c) (off:=0+Int.toNat (B1 s (i:Int)) * 1) (v:=.slice (some ⟨A,0,none⟩) L C) rfl rfl kr kr kr kr kr (At.grp 0 0 rfl rfl) (by rw [S6]; exact hcell) (G4 kr rfl)) (D7 10 (k:=?_)))))))
     obtain ⟨Q,hrd,hQ⟩:=tab_rowQ hR hmem W0 [(B,.cells (S4 (C5 D8 (s.data.toList.take i)) (k)) 5 (0,0))] [(c,.cells (bsr [(9,.slice (some ⟨a9,0,none⟩) 4 c9),(10,.slice (some ⟨a10,0,none⟩) 5 c10)] (.slice aT 2 cT)) 248 (0,0))] gT H
     refine GL_copy (i:=10) (ch:=[]) (dT:=22) (sT:=22) (el:=5) (b:=B) (o1:=(C5 D8 (s.data.toList.take i)).length) (n1:=((C5 D8 s.data.toList).length - (C5 D8 (s.data.toList.take i)).length)) (c1:=((C5 D8 s.data.toList).length - (C5 D8 (s.data.toList.take i)).length)) (a:=⟨A,0,none⟩) (n2:=L) (c2:=C) (c:=S4 (C5 D8 (s.data.toList.take i)) k) (c':=S4 (C5 D8 (s.data.toList.take i)++u) (k - u.length)) (j:=0) (m:=0) (H':=([(B,.cells (S4 (C5 D8 (s.data.toList.take i)++u) (k - u.length)) 5 (0,0))]::[(c,.cells (bsr [(9,.slice (some ⟨a9,0,none⟩) 4 c9),(10,.slice (some ⟨a10,0,none⟩) 5 c10)] (.slice aT 2 cT)) 248 (0,0))]::gT::g10::g9::H)) (u8s u) rfl rfl kr kr kr kr kr kr kr rfl rfl (by rw [show (u8s u).length=u.length from List.length_map _,hL]; exact (Nat.min_eq_left (by omega)).symm) (rd_cell hrd hQ) (by rw [T8,show (u8s u).length=u.length from List.length_map _]; omega) (u8s_one u) (rowZ_copy _ _ _ (by omega)) kr ?_
     have hul:(u8s u).length=u.length:=List.length_map _
     refine C0 kr (fun w h=>(h.pk 1 [1,1,1,1])) (G5 (fuel:=1) [(11,0)] (fun w h=>(h.pk 1 [1,1,1,1])) (k:=GH_wi 113 (((C5 D8 (s.data.toList.take i)).length:Int)+((u8s u).length:Int)) (by omega) (by omega) kr (G5 (fuel:=0) [(12,0)] (fun w h=>(h.pk 1 [1,1,1,1])) (k:=G3 (E':=[⟨0,[],pt c⟩,⟨1,[],.string s⟩,⟨12,[],.slice (some ⟨B,0,none⟩) ((C5 D8 s.data.toList).length) ((C5 D8 s.data.toList).length)⟩,⟨13,[],.int .i64 (((C5 D8 (s.data.toList.take i)).length:Int)+((u8s u).length:Int))⟩,⟨14,[],.int .i64 (i:Int)⟩]) [0,1,12,13,14] (k:=B6 (A0 (A3 (A4 (j:=2) [0,0] (k:=?_)))))))))
     refine D0 91 ((i:Int)+1) (by omega) (by omega) kr (A8 [0] [0,1,12,13,14] (k:=?_))
     have hj2:((C5 D8 (s.data.toList.take i)).length:Int)+((u8s u).length:Int)=((C5 D8 (s.data.toList.take (i+1))).length:Int):=by rw [K0 _ (show i<s.data.toList.length by omega),L5,List.length_append]; first | (rw [R4 _ hu,show (u8s u).length=u.length from List.length_map _]; omega) | (rw [P4 _ hu]; simp only [List.length_cons,List.length_nil]; omega)
     refine Q1 (E':=[⟨0,[],pt c⟩,⟨1,[],.string s⟩,⟨12,[],.slice (some ⟨B,0,none⟩) ((C5 D8 s.data.toList).length) ((C5 D8 s.data.toList).length)⟩,⟨13,[],.int .i64 (((C5 D8 (s.data.toList.take i)).length:Int)+((u8s u).length:Int))⟩,⟨14,[],.int .i64 ((i:Int)+1)⟩]) kr (Q1 (E':=[⟨0,[],pt c⟩,⟨1,[],.string s⟩,⟨12,[],.slice (some ⟨B,0,none⟩) ((C5 D8 s.data.toList).length) ((C5 D8 s.data.toList).length)⟩,⟨13,[],.int .i64 ((C5 D8 (s.data.toList.take (i+1))).length:Int)⟩,⟨14,[],.int .i64 ((i:Int)+1)⟩]) (by rw [hj2]) ?_)
     have hl2:(C5 D8 (s.data.toList.take i)++u)=C5 D8 (s.data.toList.take (i+1)):=by rw [K0 _ (show i<s.data.toList.length by omega),L5]; first | rw [R4 _ hu] | rw [P4 _ hu]
     refine Y0 (H':=([(B,.cells (S4 (C5 D8 (s.data.toList.take (i+1))) (k - u.length)) 5 (0,0))]::[(c,.cells (bsr [(9,.slice (some ⟨a9,0,none⟩) 4 c9),(10,.slice (some ⟨a10,0,none⟩) 5 c10)] (.slice aT 2 cT)) 248 (0,0))]::gT::g10::g9::H)) (by rw [hl2]) (D2 (s':=(i+1,k - u.length)) [0,1,12,13,14] kr rfl ⟨(by omega),(by dsimp only; rw [← hl2,List.length_append]; first | omega | (simp only [List.length_cons,List.length_nil]; omega))⟩ (by omega))
    ·
     have hsp:=congrArg List.length (Y7 s.data.toList (show i<s.data.toList.length by omega))
     rw [P4 _ hu] at hsp
     simp only [List.length_append,List.length_cons,List.length_nil] at hsp
     refine C2 (ch:=[]) (b:=c) (off:=0+Int.toNat (B1 s (i:Int)) * 1) (v:=.slice none 0 0) (hA:=At.grp 1 0 rfl rfl) (hv:=(by rw [S6]; exact hcell)) (k:=A8 [0] [0,1,12,13,14,15,101] (k:=A0 (C9 kr (A1 (A3 (A4 (j:=3) [0,0,0] (k:=J0 (ch:=[]) (a:=(some ⟨B,0,none⟩)) (len:=(C5 D8 s.data.toList).length) (cap:=(C5 D8 s.data.toList).length) (kd:=.i64) (j:=((C5 D8 (s.data.toList.take i)).length:Int)) (e:=5) (sz:=1) (S:=inG [(B,.cells (S4 (C5 D8 (s.data.toList.take i)) (k)) 5 (0,0))]) (cs:=(S4 (C5 D8 (s.data.toList.take i)) k).toList) (hrd:=row_rd _ _) (hb:=(fun _=>⟨by omega,by omega,by intro h; have:=congrArg List.length h; rw [Array.length_toList,T8] at this; simp only [List.length_nil] at this; omega⟩)) (k:=GL_env (E':=[⟨117,[],.pointer (some ⟨B,0+Int.toNat ((C5 D8 (s.data.toList.take i)).length:Int) * 1,none⟩)⟩,⟨116,[],.int .u8 (B1 s (i:Int))⟩,⟨115,[],.int .i64 ((C5 D8 (s.data.toList.take i)).length:Int)⟩,⟨114,[],.slice (some ⟨B,0,none⟩) ((C5 D8 s.data.toList).length) ((C5 D8 s.data.toList).length)⟩,⟨0,[],pt c⟩,⟨1,[],.string s⟩,⟨12,[],.slice (some ⟨B,0,none⟩) ((C5 D8 s.data.toList).length) ((C5 D8 s.data.toList).length)⟩,⟨13,[],.int .i64 ((C5 D8 (s.data.toList.take i)).length:Int)⟩,⟨14,[],.int .i64 (i:Int)⟩,⟨15,[],.int .u8 (B1 s (i:Int))⟩,⟨101,[],.bool false⟩]) (by have hz:([⟨117,[],.pointer (some (eltA (some ⟨B,0,none⟩) (Int.toNat ((C5 D8 (s.data.toList.take i)).length:Int) * 1)))⟩,⟨116,[],.int .u8 (B1 s (i:Int))⟩,⟨115,[],.int .i64 ((C5 D8 (s.data.toList.take i)).length:Int)⟩,⟨114,[],.slice (some ⟨B,0,none⟩) ((C5 D8 s.data.toList).length) ((C5 D8 s.data.toList).length)⟩,⟨0,[],pt c⟩,⟨1,[],.string s⟩,⟨12,[],.slice (some ⟨B,0,none⟩) ((C5 D8 s.data.toList).length) ((C5 D8 s.data.toList).length)⟩,⟨13,[],.int .i64 ((C5 D8 (s.data.toList.take i)).length:Int)⟩,⟨14,[],.int .i64 (i:Int)⟩,⟨15,[],.int .u8 (B1 s (i:Int))⟩,⟨101,[],.bool false⟩]:List Sl)=[⟨117,[],.pointer (some ⟨B,0+Int.toNat ((C5 D8 (s.data.toList.take i)).length:Int) * 1,none⟩)⟩,⟨116,[],.int .u8 (B1 s (i:Int))⟩,⟨115,[],.int .i64 ((C5 D8 (s.data.toList.take i)).length:Int)⟩,⟨114,[],.slice (some ⟨B,0,none⟩) ((C5 D8 s.data.toList).length) ((C5 D8 s.data.toList).length)⟩,⟨0,[],pt c⟩,⟨1,[],.string s⟩,⟨12,[],.slice (some ⟨B,0,none⟩) ((C5 D8 s.data.toList).length) ((C5 D8 s.data.toList).length)⟩,⟨13,[],.int .i64 ((C5 D8 (s.data.toList.take i)).length:Int)⟩,⟨14,[],.int .i64 (i:Int)⟩,⟨15,[],.int .u8 (B1 s (i:Int))⟩,⟨101,[],.bool false⟩]:=(by rw [show Go.Sw.eltA (some ⟨B,0,none⟩) (Int.toNat ((C5 D8 (s.data.toList.take i)).length:Int) * 1)=⟨B,0+Int.toNat ((C5 D8 (s.data.toList.take i)).length:Int) * 1,none⟩ from N6 _ _ _]); exact Eq.trans kr hz) ?_))))))))
     refine O1 (ch:=[]) (b:=B) (off:=0+Int.toNat ((C5 D8 (s.data.toList.take i)).length:Int) * 1) (v:=.int .u8 (B1 s (i:Int))) (c:=(S4 (C5 D8 (s.data.toList.take i)) (k))) (c':=(S4 (C5 D8 (s.data.toList.take i)++[s.data.toList.getD i 0]) (k - 1))) (j:=0) (m:=0) (H':=([(B,.cells (S4 (C5 D8 (s.data.toList.take i)++[s.data.toList.getD i 0]) (k - 1)) 5 (0,0))]::[(c,.cells (bsr [(9,.slice (some ⟨a9,0,none⟩) 4 c9),(10,.slice (some ⟨a10,0,none⟩) 5 c10)] (.slice aT 2 cT)) 248 (0,0))]::gT::g10::g9::H)) (hoff:=(by rw [T8]; show 0+_ * 1+1≤_; rw [Int.toNat_natCast]; omega)) (hfz:=(fun _ _=>thaw0)) (hc':=(by obtain ⟨k',rfl⟩:∃ k',k=k'+1:=⟨k - 1,by omega⟩; rw [Nat.add_sub_cancel]; show setRow _ _ [.int .u8 (B1 s (i:Int))]=_; rw [byteAt_getD]; exact rowZ_set _ _ _ (by rw [Int.toNat_natCast]; omega))) (hH':=kr) (k:=A8 [] [0,1,12,13,14] (k:=A0 (A3 (A4 (j:=2) [0,0] (k:=D0 119 (((C5 D8 (s.data.toList.take i)).length:Int)+1) (by omega) (by omega) kr (A8 [0] [0,1,12,13,14] (k:=B6 (A0 ?_))))))))
     refine A3 (A4 (j:=2) [0,0] (k:=D0 91 ((i:Int)+1) (by omega) (by omega) kr (B4 (E':=[⟨0,[],pt c⟩,⟨1,[],.string s⟩,⟨12,[],.slice (some ⟨B,0,none⟩) ((C5 D8 s.data.toList).length) ((C5 D8 s.data.toList).length)⟩,⟨13,[],.int .i64 (((C5 D8 (s.data.toList.take i)).length:Int)+1)⟩,⟨14,[],.int .i64 ((i:Int)+1)⟩]) [0] [0,1,12,13,14] (k:=?_))))
     have hj2:((C5 D8 (s.data.toList.take i)).length:Int)+1=((C5 D8 (s.data.toList.take (i+1))).length:Int):=by rw [K0 _ (show i<s.data.toList.length by omega),L5,List.length_append]; first | (rw [R4 _ hu,show (u8s u).length=u.length from List.length_map _]; omega) | (rw [P4 _ hu]; simp only [List.length_cons,List.length_nil]; omega)
     refine Q1 (E':=[⟨0,[],pt c⟩,⟨1,[],.string s⟩,⟨12,[],.slice (some ⟨B,0,none⟩) ((C5 D8 s.data.toList).length) ((C5 D8 s.data.toList).length)⟩,⟨13,[],.int .i64 ((C5 D8 (s.data.toList.take (i+1))).length:Int)⟩,⟨14,[],.int .i64 ((i:Int)+1)⟩]) (by rw [hj2]) ?_
     have hl2:(C5 D8 (s.data.toList.take i)++[s.data.toList.getD i 0])=C5 D8 (s.data.toList.take (i+1)):=by rw [K0 _ (show i<s.data.toList.length by omega),L5]; first | rw [R4 _ hu] | rw [P4 _ hu]
     refine Y0 (H':=([(B,.cells (S4 (C5 D8 (s.data.toList.take (i+1))) (k - 1)) 5 (0,0))]::[(c,.cells (bsr [(9,.slice (some ⟨a9,0,none⟩) 4 c9),(10,.slice (some ⟨a10,0,none⟩) 5 c10)] (.slice aT 2 cT)) 248 (0,0))]::gT::g10::g9::H)) (by rw [hl2]) (D2 (s':=(i+1,k - 1)) [0,1,12,13,14] kr rfl ⟨(by omega),(by dsimp only; rw [← hl2,List.length_append]; first | omega | (simp only [List.length_cons,List.length_nil]; omega))⟩ (by omega))
   ·
    try simp only [decide_eq_false_iff_not] at hc15
    refine E3 (A6 (A6 (B5 (A0 (A1 (A3 (A4 (j:=1) [0] (k:=M3 (ch:=[]) (a:=⟨B,0,none⟩) (cap:=(C5 D8 s.data.toList).length) (e:=5) (S:=(inG [(B,.cells (S4 (C5 D8 (s.data.toList.take i)) (k)) 5 (0,0))])) (C5 D8 s.data.toList) (hrd:=(by have e1:s.data.toList.take i=s.data.toList:=List.take_of_length_le (by omega); have e2:k=0:=(by rw [e1] at hk; omega); rw [e1,e2]; exact rowZ_rd _ rfl)) (hS:=D9 0 rfl) (k:=?_)))))))))
    refine A8 [0] [4] (k:=A0 (B8 (E9 1 [1,1,1,1] (B7 [.tmp 4] [.string ⟨(C5 D8 s.data.toList).toArray⟩] (k:=?_)))))
    exact ⟨rfl,rfl⟩
end Go.Proofs.YtppgfiklmfoaeaaGreatDoor
namespace Go.Sw
open Go.Esc
def mapL (f:Nat→Int):List Value:=(List.range 256).map fun k=>Value.int .u8 (f k)
def J1 (h:List Value) (f:Nat→Int):Array Value:=(h++mapL f).toArray
theorem mapL_len (f:Nat→Int):(mapL f).length=256:=by simp [mapL]
theorem mapL_at {f:Nat→Int} {k:Nat} (hk:k<256):(mapL f)[k]? = some (.int .u8 (f k)):=by
  unfold mapL
  rw [List.getElem?_map,List.getElem?_range hk]; rfl
theorem mapA_at {f:Nat→Int} {k:Nat} {x:Int} (hk:k<256) (hx:f k=x):(mapL f).toArray[k]? = some (.int .u8 x):=by
  rw [List.getElem?_toArray,mapL_at hk,hx]
theorem L8 {h:List Value} {f:Nat→Int} {off:Nat} {v:Value} (hv:h[off]? = some v):(J1 h f)[off]? = some v:=by
  unfold J1
  have h1:off<h.length:=(List.getElem?_eq_some_iff.1 hv).1
  rw [List.getElem?_toArray,List.getElem?_append_left h1,hv]
theorem grpC_at {h:List Value} {f:Nat→Int} {k off:Nat} {x:Int} (hh:h.length=6) (ho:off=6+k) (hk:k<256) (hx:f k=x):(J1 h f)[off]? = some (.int .u8 x):=by
  subst ho
  unfold J1
  rw [List.getElem?_toArray,List.getElem?_append_right (by omega),hh,Nat.add_sub_cancel_left,mapL_at hk,hx]
theorem V4 {h:List Value} {f:Nat→Int} (hh:h.length=6):(J1 h f).size=262:=by
  unfold J1; rw [List.size_toArray,List.length_append,mapL_len,hh]
theorem grpC_map {h:List Value} {f:Nat→Int} (hh:h.length=6):((J1 h f).toList.drop 6).take (mapL f).length=mapL f:=by
  unfold J1
  rw [List.toList_toArray,List.drop_append_of_le_length (by omega),List.drop_eq_nil_of_le (by omega),List.nil_append,List.take_of_length_le (Nat.le_refl _)]
def updF (f:Nat→Int) (k:Nat) (v:Int):Nat→Int:=fun j=>if j=k then v else f j
theorem setRow_one (c:Array Value) (off:Nat) (v:Value):setRow c off [v]=c.setIfInBounds off v:=rfl
theorem grpC_sethd {h:List Value} {f:Nat→Int} {off:Nat} {v:Value} {h':List Value} (ho:off<h.length) (hh:h.set off v=h'):setRow (J1 h f) off [v]=J1 h' f:=by
  subst hh
  rw [setRow_one]
  unfold J1
  apply Array.ext'
  rw [Array.toList_setIfInBounds,List.toList_toArray,List.toList_toArray,List.set_append_left _ _ ho]
theorem grpC_set {h:List Value} {f f':Nat→Int} {off k:Nat} {v:Int} (hh:h.length=6) (ho:off=6+k) (hk:k<256) (hf:∀ j,j<256→f' j=if j=k then v else f j):setRow (J1 h f) off [.int .u8 v]=J1 h f':=by
  subst ho
  rw [setRow_one]
  unfold J1
  apply Array.ext'
  rw [Array.toList_setIfInBounds,List.toList_toArray,List.toList_toArray,List.set_append_right _ _ (by omega),hh,Nat.add_sub_cancel_left]
  congr 1
  apply List.ext_getElem?
  intro i
  rw [List.getElem?_set]
  by_cases hi:i<256
  · rw [mapL_at hi,mapL_at hi,hf i hi]
    by_cases e:i=k
    · subst e; rw [if_pos rfl,if_pos (by rw [mapL_len]; exact hi),if_pos rfl]
    · rw [if_neg (fun h=>e h.symm),if_neg e]
  · have n1:∀ g:Nat→Int,(mapL g)[i]? = none:=fun g=>List.getElem?_eq_none (by rw [mapL_len]; omega)
    rw [n1,n1,if_neg (by omega)]
def m1 (k:Nat):Int:=if k=10∨k=13 then 1 else 0
def m2 (k:Nat):Int:=if k=10 then 0 else if k=13 then 1 else 2
def cnt (k:Nat):Int:=(if 10<k then 1 else 0)+(if 13<k then 1 else 0)
theorem cnt_succ (k:Nat):cnt (k+1)=cnt k+m1 k:=by unfold cnt m1; (repeat' split) <;> omega
theorem cnt_bd (k:Nat):0≤cnt k∧cnt k≤2:=by unfold cnt; (repeat' split) <;> omega
theorem m1_bd (k:Nat):0≤m1 k∧m1 k≤1:=by unfold m1; split <;> omega
theorem cnt_m2 {k:Nat} (h:m1 k≠0):cnt k=m2 k:=by unfold m1 at h; unfold cnt m2; (repeat' split at h) <;> (repeat' split) <;> omega
theorem m2_no {k:Nat} (h:m1 k=0):m2 k=2:=by unfold m1 at h; unfold m2; (repeat' split at h) <;> (repeat' split) <;> omega
def W2 (k j:Nat):Int:=if j<k then m2 j else m1 j
theorem finK_0 (j:Nat):W2 0 j=m1 j:=by unfold W2; rw [if_neg (Nat.not_lt_zero _)]
theorem finK_succ {k:Nat} {v:Int} (h:v=m2 k) (j:Nat):W2 (k+1) j=if j=k then v else W2 k j:=by
  subst h; unfold W2; (repeat' split) <;> first | rfl | omega | (subst_vars; rfl)
theorem finK_end {j:Nat} (h:j<256):W2 256 j=m2 j:=by unfold W2; rw [if_pos h]
theorem GL_assertI {d:Bool} {P:Program} {ops:Array Oper} {i:Nat} {Q:E5} {n:Fr} {E:Env} {W0:World} {H:List Grp} {o:Oper} {ch:List (Nat × Bool)} {x:Operand} {xt t:TypeId} {u v:Value} {b:Bool}
    (ho:ops[i]? = some o) (hop:o.op=.typeAssert x xt t b) (hx:evO E ch x=some u) (hrun:∀ w,(Instr.typeAssert u xt t b).run P w=.ok v w)
    (hch:D5 ops E o.guard=some ch) (hd:F3 n ch o.dst=true) (hk:J4 E ch=true)
    (kk:GL d P ops (i+1) Q n (Env.put E o.dst ch v) W0 H):GL d P ops i Q n E W0 H:=by
  refine I5 ho hch hd hk (fun r hr _ w _=>?_) kk
  unfold execOp
  simp only [hop]
  rw [hr _ _ hx]
  simp only [Sem.run_bind,hrun,Result.andThen_ok]
  exact ⟨rfl,rfl⟩
theorem GH_nilF {P:Program} {ops:Array Oper} {L:List Grp} {fuel:Nat} {listed:Array Bool} {Q:E5} {n:Fr} {E:Env} {W0:World} {H:List Grp} {o:Oper} {x:Operand} {fn:Fn} {fa fc:Array Value} (i:Nat)
    (ho:ops[i]? = some o:=by exact rfl) (hop:o.op=.nilCheck x:=by exact rfl) (hgd:o.guard=none:=by exact rfl) (hx:evO E [] x=some (.func fn fa fc):=by kernel_rfl) (hrun:∀ w,(execOp (fun _=>.func fn fa fc) o).run P w=.ok (.value (.func fn fa fc)) w) (hd:F3 n [] o.dst=true:=by kernel_rfl)
    (hs:Region.noSelect ops=true:=by kernel_rfl) (hf:Region.free .any ops listed i=true:=by kernel_rfl)
    (hr:(Region.ready .any ops listed).contains i=true:=by kernel_rfl) (hL:∀ w,Sat W0 H w→Sat W0 L w)
    (k:GH P ops L fuel (listed.setIfInBounds i true) Q n (Env.put E o.dst [] (.func fn fa fc)) W0 H):GH P ops L (fuel+1) listed Q n E W0 H:=by
  intro a w ha hsat
  obtain ⟨β,hβ,hat⟩:=ha.at_
  have hv:a.eval x=.func fn fa fc:=K7 hat rfl hx
  have hw:Region.wanted o (yielded ops a.tmps)=true:=by unfold Region.wanted; rw [hgd]
  have hput:Ag n (Env.put E o.dst [] (.func fn fa fc)) (a.put o.dst (.func fn fa fc)):=by
    have:=ha.put hβ hat hd (.func fn fa fc)
    simpa [chT] using this
  refine wpAnyH_take (v:=.func fn fa fc) ho hs hf hr (fun c a w h=>absurd h.1 (by intro h; cases h)) (.inl ⟨hw,fun w' _=>?_⟩) (hL w hsat) (k _ w hput hsat)
  have h:=hrun w'
  unfold execOp at h ⊢
  simp only [hop] at h ⊢
  rw [hv]
  exact h
end Go.Sw
namespace Go.Proofs.YtppgfiklmfoaeaaGreatDoor
open Go.Sw Go.Esc
theorem addE_ (b:Nat) (x:ByteArray) (y nx:Value) (val:ByteArray) (p:Int) (r:Value) (W0:World) (H:List Grp):Tri Tryz.prog 229 #[pt b,.string eB,.string val,.int .i64 p,r] W0 ([(b,.cells #[.string x,.int .i64 0,y,nx,.slice none 0 0] 266 (0,0))]::H) (fun _ H'=>H'=[(b,.cells #[.string val,.int .i64 p,y,nx,.slice none 0 0] 266 (0,0))]::H):=by
 refine D4 241 Tryz.func229 ?_
 refine A1 (A1 (G_p [0,0] [0,1,2,3,4,16] (k:=A0 (B0 (b:=eB.toList==eB.toList) kr (fun hc1=>?_) (fun hc1=>?_)))))
 ·
  skip
  refine A1 (A1 (A3 (A4 (j:=3) [0,0,0] (k:=C4 0 1 rfl rfl (A8 [0] [0,2,3,21] (k:=A0 (C7 kr (A1 ?_))))))))
  refine A3 (A4 (j:=4) [0,0,0,0] (k:=E4 0 0 (.string val) rfl (B4 (E':=[⟨0,[],pt b⟩,⟨3,[],.int .i64 p⟩]) [] [0,3] (k:=A0 (A3 (A4 (j:=4) [0,0,0,0] (k:=E4 0 1 (.int .i64 p) rfl (B4 (E':=[]) [] [] (k:=?_)))))))))
  refine A0 (B8 (A5 (B7 [] [] (k:=?_))))
  exact rfl
 ·
  exact Bool.noConfusion ((hc1).symm.trans (show _=true from by kernel_rfl))
theorem addK_ (b:Nat) (r:Value) (W0:World) (H:List Grp):Tri Tryz.prog 229 #[pt b,.string (mB #[10]),.string (mB #[10]),.int .i64 4,r] W0 ([(b,.cells #[.string eB,.int .i64 0,.string eB,.pointer none,.slice none 0 0] 266 (0,0))]::H) (fun _ H'=>∃ n,H'=[(b,.cells #[.string eB,.int .i64 0,.string (mB #[10]),pt n,.slice none 0 0] 266 (0,0))]::[(n,.cells #[.string (mB #[10]),.int .i64 4,.string eB,.pointer none,.slice none 0 0] 266 (0,0))]::H):=by
 refine D4 241 Tryz.func229 ?_
 refine A1 (A1 (G_p [0,0] [0,1,2,3,4,16] (k:=A0 (B0 (b:=(mB #[10]).toList==eB.toList) kr (fun hc1=>?_) (fun hc1=>?_)))))
 ·
  exact Bool.noConfusion ((hc1).symm.trans (show _=false from by kernel_rfl))
 ·
  skip
  refine A9 (A0 (A1 (A3 (A4 (j:=3) [0,0,0] (k:=C4 0 2 rfl rfl (A8 [0] [0,1,2,3,4,34] (k:=A0 (B0 (b:=!(eB.toList==eB.toList)) kr (fun hc2=>?_) (fun hc2=>?_)))))))))
  ·
   exact Bool.noConfusion ((hc2).symm.trans (show _=false from by kernel_rfl))
  ·
   skip
   refine A1 (A3 (A4 (j:=3) [0,0,0] (k:=C4 0 4 rfl rfl (A8 [0] [0,1,2,3,4,189] (k:=A0 (C9 kr (A1 (A3 ?_))))))))
   refine A4 (j:=4) [0,0,0,0] (k:=E4 0 2 (.string (mB #[10])) rfl (A8 [] [0,2,3,4] (k:=A0 (A1 (A3 (A4 (j:=1) [0] (k:=J5 (.agg #[.string eB,.int .i64 0,.string eB,.pointer none,.slice none 0 0]) (fun b3=>A4 (j:=4) [0,0] (k:=?_)))))))))
   refine E4 1 3 (pt b3) rfl (A8 [] [0,2,3,4] (k:=A0 (A3 (A4 (j:=3) [0,0,0] (k:=C4 1 3 rfl rfl (A4 (j:=7) [0,0,0] (k:=E0 Tryz.func229 (addE_ b3 eB (.string eB) (.pointer none) (mB #[10]) 4 (r) _ _) ?_)))))))
   rintro _ _ rfl
   refine B4 (E':=[]) [] [] (k:=E9 0 [1,0] (B7 [] [] (k:=?_)))
   exact ⟨_,rfl⟩
theorem addR2_ (b t:Nat) (W0:World) (H:List Grp):Tri Tryz.prog 229 #[pt b,.string (mB #[13,10]),.string (mB #[10]),.int .i64 4,pt b] W0 ([(b,.cells (J1 [.string eB,.int .i64 0,.string eB,.pointer none,.slice (some ⟨t,0,none⟩) 2 2,.int .i64 2] (W2 256)) 268 (0,0))]::[(t,.cells #[.pointer none,.pointer none] 263 (0,0))]::H) (fun _ H'=>∃ n1 n2,H'=[(b,.cells (J1 [.string eB,.int .i64 0,.string eB,.pointer none,.slice (some ⟨t,0,none⟩) 2 2,.int .i64 2] (W2 256)) 268 (0,0))]::[(t,.cells #[.pointer none,pt n1] 263 (0,0))]::[(n1,.cells #[.string eB,.int .i64 0,.string (mB #[10]),pt n2,.slice none 0 0] 266 (0,0))]::[(n2,.cells #[.string (mB #[10]),.int .i64 4,.string eB,.pointer none,.slice none 0 0] 266 (0,0))]::H):=by
 refine D4 241 Tryz.func229 ?_
 refine A1 (A1 (G_p [0,0] [0,1,2,3,4,16] (k:=A0 (B0 (b:=(mB #[13,10]).toList==eB.toList) kr (fun hc1=>?_) (fun hc1=>?_)))))
 ·
  exact Bool.noConfusion ((hc1).symm.trans (show _=false from by kernel_rfl))
 ·
  skip
  refine A9 (A0 (A1 (A3 (A4 (j:=3) [0,0,0] (k:=C2 (ch:=[]) (b:=b) (off:=2) (v:=.string eB) (hA:=At.grp 0 0 rfl rfl) (hv:=L8 rfl) (k:=A8 [0] [0,1,2,3,4,34] (k:=A0 (B0 (b:=!(eB.toList==eB.toList)) kr (fun hc2=>?_) (fun hc2=>?_)))))))))
  ·
   exact Bool.noConfusion ((hc2).symm.trans (show _=false from by kernel_rfl))
  ·
   skip
   refine A1 (A3 (A4 (j:=3) [0,0,0] (k:=C2 (ch:=[]) (b:=b) (off:=4) (v:=.slice (some ⟨t,0,none⟩) 2 2) (hA:=At.grp 0 0 rfl rfl) (hv:=L8 rfl) (k:=A8 [0] [0,1,2,3,4,189] (k:=A0 (C7 kr (A1 (H0 (k:=?_)))))))))
   refine A4 (j:=2) [0,0] (k:=I9 (mB #[13,10]) 0 (fun _=>by decide) (A4 (j:=5) [0,0] (k:=E2 (ch:=[]) (b:=b) (off:=6) (len:=256) (sz:=1) (e:=5) (kd:=.u8) (j:=13) (hb:=(fun _=>⟨by decide,by decide⟩)) (k:=C2 (ch:=[]) (b:=b) (off:=19) (v:=.int .u8 1) (hA:=At.grp 0 0 rfl rfl) (hv:=grpC_at (k:=13) rfl rfl (by decide) rfl) (k:=A8 [0] [0,1,2,3,4,14] (k:=A0 (A1 (A1 ?_))))))))
   refine A3 (A4 (j:=3) [0,0,0] (k:=C2 (ch:=[]) (b:=b) (off:=4) (v:=.slice (some ⟨t,0,none⟩) 2 2) (hA:=At.grp 0 0 rfl rfl) (hv:=L8 rfl) (k:=A4 (j:=5) [0] (k:=J0 (ch:=[]) (a:=(some ⟨t,0,none⟩)) (len:=2) (cap:=2) (kd:=.u8) (j:=1) (e:=263) (sz:=1) (S:=(inG [(t,.cells #[.pointer none,.pointer none] 263 (0,0))])) (cs:=[.pointer none,.pointer none]) (hrd:=Rd.lit) (hb:=(fun _=>by exact ⟨by omega,by omega,by first | exact List.cons_ne_nil _ _ | (intro h; simp [strs] at h; simp [h] at *; omega)⟩)) (k:=GL_env (E':=[⟨202,[],.pointer (some ⟨t,1,none⟩)⟩,⟨201,[],.int .u8 1⟩,⟨200,[],.slice (some ⟨t,0,none⟩) 2 2⟩,⟨199,[],.pointer (some ⟨b,4,none⟩)⟩,⟨198,[],pt b⟩,⟨197,[],pt b⟩,⟨0,[],pt b⟩,⟨1,[],.string (mB #[13,10])⟩,⟨2,[],.string (mB #[10])⟩,⟨3,[],.int .i64 4⟩,⟨4,[],pt b⟩,⟨14,[],.int .u8 1⟩]) kr (C4 1 1 rfl rfl (A8 [0] [0,1,2,3,4,14,204] (k:=A0 ?_))))))))
   refine C7 kr (A3 (A4 (j:=3) [0,0,0] (k:=C2 (ch:=[]) (b:=b) (off:=4) (v:=.slice (some ⟨t,0,none⟩) 2 2) (hA:=At.grp 0 0 rfl rfl) (hv:=L8 rfl) (k:=A4 (j:=5) [0] (k:=J5 (.agg #[.string eB,.int .i64 0,.string eB,.pointer none,.slice none 0 0]) (fun b3=>J0 (ch:=[]) (a:=(some ⟨t,0,none⟩)) (len:=2) (cap:=2) (kd:=.u8) (j:=1) (e:=263) (sz:=1) (S:=(inG [(t,.cells #[.pointer none,.pointer none] 263 (0,0))])) (cs:=[.pointer none,.pointer none]) (hrd:=Rd.lit) (hb:=(fun _=>by exact ⟨by omega,by omega,by first | exact List.cons_ne_nil _ _ | (intro h; simp [strs] at h; simp [h] at *; omega)⟩)) (k:=GL_env (E':=[⟨211,[],.pointer (some ⟨t,1,none⟩)⟩,⟨210,[],pt b3⟩,⟨209,[],.int .u8 1⟩,⟨208,[],.slice (some ⟨t,0,none⟩) 2 2⟩,⟨207,[],.pointer (some ⟨b,4,none⟩)⟩,⟨206,[],pt b⟩,⟨205,[],pt b⟩,⟨0,[],pt b⟩,⟨1,[],.string (mB #[13,10])⟩,⟨2,[],.string (mB #[10])⟩,⟨3,[],.int .i64 4⟩,⟨4,[],pt b⟩,⟨14,[],.int .u8 1⟩,⟨204,[],.bool true⟩]) kr (E4 2 1 (pt b3) rfl ?_))))))))
   refine B4 (E':=[⟨0,[],pt b⟩,⟨1,[],.string (mB #[13,10])⟩,⟨2,[],.string (mB #[10])⟩,⟨3,[],.int .i64 4⟩,⟨4,[],pt b⟩,⟨14,[],.int .u8 1⟩]) [] [0,1,2,3,4,14] (k:=A0 (H8 ([(b,.cells (J1 [.string eB,.int .i64 0,.string eB,.pointer none,.slice (some ⟨t,0,none⟩) 2 2,.int .i64 2] (W2 256)) 268 (0,0))]::[(t,.cells #[.pointer none,pt b3] 263 (0,0))]::H) kr (G5 (fuel:=12) [(0,0)] (fun w h=>(h.pk 1 [1,1])) (k:=L2 (ad:=⟨b,0,none⟩) 1 (hL:=(fun w h=>(h.pk 1 [1,1]))) (k:=G5 (fuel:=10) [(2,0)] (fun w h=>(h.pk 1 [1,1])) (k:=F5 3 kr (fun w h=>(h.pk 1 [1,1])) (C2 (i:=3) (ch:=[]) (b:=b) (off:=4) (v:=.slice (some ⟨t,0,none⟩) 2 2) rfl rfl kr kr kr kr kr (At.grp 0 0 rfl rfl) (L8 rfl) (G4 kr rfl)) (G5 (fuel:=8) [(4,0)] (fun w h=>(h.pk 1 [1,1])) (k:=F5 (E':=[⟨217,[],.pointer (some ⟨t,1,none⟩)⟩,⟨216,[],.int .u8 1⟩,⟨215,[],.slice (some ⟨t,0,none⟩) 2 2⟩,⟨214,[],.pointer (some ⟨b,4,none⟩)⟩,⟨213,[],pt b⟩,⟨212,[],pt b⟩,⟨0,[],pt b⟩,⟨1,[],.string (mB #[13,10])⟩,⟨2,[],.string (mB #[10])⟩,⟨3,[],.int .i64 4⟩,⟨4,[],pt b⟩,⟨14,[],.int .u8 1⟩]) 5 kr (fun w h=>(h.pk 1 [1,1])) ?_ ?_))))))))
   ·
    exact J0 (ch:=[]) (a:=(some ⟨t,0,none⟩)) (len:=2) (cap:=2) (kd:=.u8) (j:=1) (e:=263) (sz:=1) (S:=(inG [(t,.cells #[.pointer none,pt b3] 263 (0,0))])) (cs:=[.pointer none,pt b3]) (hrd:=Rd.lit) (hb:=(fun _=>by exact ⟨by decide,by decide,by intro h; cases h⟩)) (k:=GL_env (E':=[⟨217,[],.pointer (some ⟨t,1,none⟩)⟩,⟨216,[],.int .u8 1⟩,⟨215,[],.slice (some ⟨t,0,none⟩) 2 2⟩,⟨214,[],.pointer (some ⟨b,4,none⟩)⟩,⟨213,[],pt b⟩,⟨212,[],pt b⟩,⟨0,[],pt b⟩,⟨1,[],.string (mB #[13,10])⟩,⟨2,[],.string (mB #[10])⟩,⟨3,[],.int .i64 4⟩,⟨4,[],pt b⟩,⟨14,[],.int .u8 1⟩]) kr G4)
   refine F5 6 kr (fun w h=>(h.pk 1 [1,1])) (C4 1 1 rfl rfl (G4 kr rfl)) (G5 (fuel:=5) [(7,0)] (fun w h=>(h.pk 1 [1,1])) (k:=F5 (E':=[⟨220,[],.string ((mB #[13,10]).extract 1 (Int.toNat ((mB #[13,10]).size:Int)))⟩,⟨219,[],.string (mB #[13,10])⟩,⟨218,[],pt b3⟩,⟨217,[],.pointer (some ⟨t,1,none⟩)⟩,⟨216,[],.int .u8 1⟩,⟨215,[],.slice (some ⟨t,0,none⟩) 2 2⟩,⟨214,[],.pointer (some ⟨b,4,none⟩)⟩,⟨213,[],pt b⟩,⟨212,[],pt b⟩,⟨0,[],pt b⟩,⟨1,[],.string (mB #[13,10])⟩,⟨2,[],.string (mB #[10])⟩,⟨3,[],.int .i64 4⟩,⟨4,[],pt b⟩,⟨14,[],.int .u8 1⟩]) 8 kr (fun w h=>(h.pk 1 [1,1])) ?_ ?_))
   ·
    exact O2 (mB #[13,10]) 1 ((mB #[13,10]).size:Int) (by intro _; exact ⟨by decide,by decide,by decide⟩) G4
   refine GH_env (E':=[⟨220,[],.string (mB #[10])⟩,⟨219,[],.string (mB #[13,10])⟩,⟨218,[],pt b3⟩,⟨217,[],.pointer (some ⟨t,1,none⟩)⟩,⟨216,[],.int .u8 1⟩,⟨215,[],.slice (some ⟨t,0,none⟩) 2 2⟩,⟨214,[],.pointer (some ⟨b,4,none⟩)⟩,⟨213,[],pt b⟩,⟨212,[],pt b⟩,⟨0,[],pt b⟩,⟨1,[],.string (mB #[13,10])⟩,⟨2,[],.string (mB #[10])⟩,⟨3,[],.int .i64 4⟩,⟨4,[],pt b⟩,⟨14,[],.int .u8 1⟩]) (by rfl) (G5 (fuel:=1) [(9,0),(10,0),(11,0)] (fun w h=>(h.pk 1 [1,1])) (k:=D7 12 (k:=E0 Tryz.func229 (addK_ b3 (pt b) _ _) ?_)))
   rintro _ _ ⟨n4,rfl⟩
   refine C0 kr (fun w h=>(h.pk 2 [2,2])) (G3 (E':=[]) [] (k:=E9 0 [2,2,0,0] (B7 [] [] (k:=?_))))
   exact ⟨_,_,rfl⟩
theorem addR1_ (b t:Nat) (n1 n2:Nat) (W0:World) (H:List Grp):Tri Tryz.prog 229 #[pt b,.string (mB #[13]),.string (mB #[10]),.int .i64 2,pt b] W0 ([(b,.cells (J1 [.string eB,.int .i64 0,.string eB,.pointer none,.slice (some ⟨t,0,none⟩) 2 2,.int .i64 2] (W2 256)) 268 (0,0))]::[(t,.cells #[.pointer none,pt n1] 263 (0,0))]::[(n1,.cells #[.string eB,.int .i64 0,.string (mB #[10]),pt n2,.slice none 0 0] 266 (0,0))]::H) (fun _ H'=>H'=[(b,.cells (J1 [.string eB,.int .i64 0,.string eB,.pointer none,.slice (some ⟨t,0,none⟩) 2 2,.int .i64 2] (W2 256)) 268 (0,0))]::[(t,.cells #[.pointer none,pt n1] 263 (0,0))]::[(n1,.cells #[.string (mB #[10]),.int .i64 2,.string (mB #[10]),pt n2,.slice none 0 0] 266 (0,0))]::H):=by
 refine D4 241 Tryz.func229 ?_
 refine A1 (A1 (G_p [0,0] [0,1,2,3,4,16] (k:=A0 (B0 (b:=(mB #[13]).toList==eB.toList) kr (fun hc1=>?_) (fun hc1=>?_)))))
 ·
  exact Bool.noConfusion ((hc1).symm.trans (show _=false from by kernel_rfl))
 ·
  skip
  refine A9 (A0 (A1 (A3 (A4 (j:=3) [0,0,0] (k:=C2 (ch:=[]) (b:=b) (off:=2) (v:=.string eB) (hA:=At.grp 0 0 rfl rfl) (hv:=L8 rfl) (k:=A8 [0] [0,1,2,3,4,34] (k:=A0 (B0 (b:=!(eB.toList==eB.toList)) kr (fun hc2=>?_) (fun hc2=>?_)))))))))
  ·
   exact Bool.noConfusion ((hc2).symm.trans (show _=false from by kernel_rfl))
  ·
   skip
   refine A1 (A3 (A4 (j:=3) [0,0,0] (k:=C2 (ch:=[]) (b:=b) (off:=4) (v:=.slice (some ⟨t,0,none⟩) 2 2) (hA:=At.grp 0 0 rfl rfl) (hv:=L8 rfl) (k:=A8 [0] [0,1,2,3,4,189] (k:=A0 (C7 kr (A1 (H0 (k:=?_)))))))))
   refine A4 (j:=2) [0,0] (k:=I9 (mB #[13]) 0 (fun _=>by decide) (A4 (j:=5) [0,0] (k:=E2 (ch:=[]) (b:=b) (off:=6) (len:=256) (sz:=1) (e:=5) (kd:=.u8) (j:=13) (hb:=(fun _=>⟨by decide,by decide⟩)) (k:=C2 (ch:=[]) (b:=b) (off:=19) (v:=.int .u8 1) (hA:=At.grp 0 0 rfl rfl) (hv:=grpC_at (k:=13) rfl rfl (by decide) rfl) (k:=A8 [0] [0,1,2,3,4,14] (k:=A0 (A1 (A1 ?_))))))))
   refine A3 (A4 (j:=3) [0,0,0] (k:=C2 (ch:=[]) (b:=b) (off:=4) (v:=.slice (some ⟨t,0,none⟩) 2 2) (hA:=At.grp 0 0 rfl rfl) (hv:=L8 rfl) (k:=A4 (j:=5) [0] (k:=J0 (ch:=[]) (a:=(some ⟨t,0,none⟩)) (len:=2) (cap:=2) (kd:=.u8) (j:=1) (e:=263) (sz:=1) (S:=(inG [(t,.cells #[.pointer none,pt n1] 263 (0,0))])) (cs:=[.pointer none,pt n1]) (hrd:=Rd.lit) (hb:=(fun _=>by exact ⟨by omega,by omega,by first | exact List.cons_ne_nil _ _ | (intro h; simp [strs] at h; simp [h] at *; omega)⟩)) (k:=GL_env (E':=[⟨202,[],.pointer (some ⟨t,1,none⟩)⟩,⟨201,[],.int .u8 1⟩,⟨200,[],.slice (some ⟨t,0,none⟩) 2 2⟩,⟨199,[],.pointer (some ⟨b,4,none⟩)⟩,⟨198,[],pt b⟩,⟨197,[],pt b⟩,⟨0,[],pt b⟩,⟨1,[],.string (mB #[13])⟩,⟨2,[],.string (mB #[10])⟩,⟨3,[],.int .i64 2⟩,⟨4,[],pt b⟩,⟨14,[],.int .u8 1⟩]) kr (C4 1 1 rfl rfl (A8 [0] [0,1,2,3,4,14,204] (k:=A0 ?_))))))))
   refine C9 kr (A9 (A0 (H8 ([(b,.cells (J1 [.string eB,.int .i64 0,.string eB,.pointer none,.slice (some ⟨t,0,none⟩) 2 2,.int .i64 2] (W2 256)) 268 (0,0))]::[(t,.cells #[.pointer none,pt n1] 263 (0,0))]::H) kr (G5 (fuel:=12) [(0,0)] (fun w h=>(h.pk 1 [0,0])) (k:=L2 (ad:=⟨b,0,none⟩) 1 (hL:=(fun w h=>(h.pk 1 [0,0]))) (k:=G5 (fuel:=10) [(2,0)] (fun w h=>(h.pk 1 [0,0])) (k:=F5 3 kr (fun w h=>(h.pk 1 [0,0])) (C2 (i:=3) (ch:=[]) (b:=b) (off:=4) (v:=.slice (some ⟨t,0,none⟩) 2 2) rfl rfl kr kr kr kr kr (At.grp 0 0 rfl rfl) (L8 rfl) (G4 kr rfl)) (G5 (fuel:=8) [(4,0)] (fun w h=>(h.pk 1 [0,0])) (k:=?_)))))))))
   refine F5 (E':=[⟨217,[],.pointer (some ⟨t,1,none⟩)⟩,⟨216,[],.int .u8 1⟩,⟨215,[],.slice (some ⟨t,0,none⟩) 2 2⟩,⟨214,[],.pointer (some ⟨b,4,none⟩)⟩,⟨213,[],pt b⟩,⟨212,[],pt b⟩,⟨0,[],pt b⟩,⟨1,[],.string (mB #[13])⟩,⟨2,[],.string (mB #[10])⟩,⟨3,[],.int .i64 2⟩,⟨4,[],pt b⟩,⟨14,[],.int .u8 1⟩,⟨204,[],.bool false⟩]) 5 kr (fun w h=>(h.pk 1 [0,0])) ?_ ?_
   ·
    exact J0 (ch:=[]) (a:=(some ⟨t,0,none⟩)) (len:=2) (cap:=2) (kd:=.u8) (j:=1) (e:=263) (sz:=1) (S:=(inG [(t,.cells #[.pointer none,pt n1] 263 (0,0))])) (cs:=[.pointer none,pt n1]) (hrd:=Rd.lit) (hb:=(fun _=>by exact ⟨by decide,by decide,by intro h; cases h⟩)) (k:=GL_env (E':=[⟨217,[],.pointer (some ⟨t,1,none⟩)⟩,⟨216,[],.int .u8 1⟩,⟨215,[],.slice (some ⟨t,0,none⟩) 2 2⟩,⟨214,[],.pointer (some ⟨b,4,none⟩)⟩,⟨213,[],pt b⟩,⟨212,[],pt b⟩,⟨0,[],pt b⟩,⟨1,[],.string (mB #[13])⟩,⟨2,[],.string (mB #[10])⟩,⟨3,[],.int .i64 2⟩,⟨4,[],pt b⟩,⟨14,[],.int .u8 1⟩,⟨204,[],.bool false⟩]) kr G4)
   refine F5 6 kr (fun w h=>(h.pk 1 [0,0])) (C4 1 1 rfl rfl (G4 kr rfl)) (G5 (fuel:=5) [(7,0)] (fun w h=>(h.pk 1 [0,0])) (k:=F5 (E':=[⟨220,[],.string ((mB #[13]).extract 1 (Int.toNat ((mB #[13]).size:Int)))⟩,⟨219,[],.string (mB #[13])⟩,⟨218,[],pt n1⟩,⟨217,[],.pointer (some ⟨t,1,none⟩)⟩,⟨216,[],.int .u8 1⟩,⟨215,[],.slice (some ⟨t,0,none⟩) 2 2⟩,⟨214,[],.pointer (some ⟨b,4,none⟩)⟩,⟨213,[],pt b⟩,⟨212,[],pt b⟩,⟨0,[],pt b⟩,⟨1,[],.string (mB #[13])⟩,⟨2,[],.string (mB #[10])⟩,⟨3,[],.int .i64 2⟩,⟨4,[],pt b⟩,⟨14,[],.int .u8 1⟩,⟨204,[],.bool false⟩]) 8 kr (fun w h=>(h.pk 1 [0,0])) ?_ ?_))
   ·
    exact O2 (mB #[13]) 1 ((mB #[13]).size:Int) (by intro _; exact ⟨by decide,by decide,by decide⟩) G4
   refine GH_env (E':=[⟨220,[],.string eB⟩,⟨219,[],.string (mB #[13])⟩,⟨218,[],pt n1⟩,⟨217,[],.pointer (some ⟨t,1,none⟩)⟩,⟨216,[],.int .u8 1⟩,⟨215,[],.slice (some ⟨t,0,none⟩) 2 2⟩,⟨214,[],.pointer (some ⟨b,4,none⟩)⟩,⟨213,[],pt b⟩,⟨212,[],pt b⟩,⟨0,[],pt b⟩,⟨1,[],.string (mB #[13])⟩,⟨2,[],.string (mB #[10])⟩,⟨3,[],.int .i64 2⟩,⟨4,[],pt b⟩,⟨14,[],.int .u8 1⟩,⟨204,[],.bool false⟩]) (by rfl) (G5 (fuel:=1) [(9,0),(10,0),(11,0)] (fun w h=>(h.pk 1 [0,0])) (k:=D7 12 (k:=O0 0 [2] (E0 Tryz.func229 (addE_ n1 eB (.string (mB #[10])) (pt n2) (mB #[10]) 2 (pt b) _ _) ?_))))
   rintro _ _ rfl
   refine C0 kr (fun w h=>(h.pk 1 [1,1])) (G3 (E':=[]) [] (k:=E9 0 [1,1,0] (B7 [] [] (k:=?_))))
   exact rfl
def crT:List Value:=[.string (mB #[13,10]),.string (mB #[10]),.string (mB #[13]),.string (mB #[10])]
theorem mkGen_ (a:Option Addr) (cap:Nat) (g:Grp) (hr:Rd (inG g) a crT) (W0:World) (H:List Grp):Tri Tryz.prog 212 #[.slice a 4 cap] W0 (g::H) (fun v H'=>∃ b t n1 n2,v=pt b∧H'=[(b,.cells (J1 [.string eB,.int .i64 0,.string eB,.pointer none,.slice (some ⟨t,0,none⟩) 2 2,.int .i64 2] (W2 256)) 268 (0,0))]::[(t,.cells #[.pointer none,pt n1] 263 (0,0))]::[(n1,.cells #[.string (mB #[10]),.int .i64 2,.string (mB #[10]),pt n2,.slice none 0 0] 266 (0,0))]::[(n2,.cells #[.string (mB #[10]),.int .i64 4,.string eB,.pointer none,.slice none 0 0] 266 (0,0))]::g::H):=by
 refine D4 117 Tryz.func212 ?_
 refine A1 (B9 (E':=[⟨0,[],.slice a 4 cap⟩]) [0] [0] (k:=A0 (A1 (A3 (GL_alloc (i:=0) (ch:=[]) (z:=.agg (J1 [.string eB,.int .i64 0,.string eB,.pointer none,.slice none 0 0,.int .i64 0] (fun _=>0))) rfl rfl kr kr kr kr (fun b1=>?_))))))
 refine A8 [0] [0,3] (k:=A0 (A1 (A1 (G_p [0] [0,3,4] (k:=A0 (B2 (N7 3 (F1 ?_))))))))
 refine A1 (A1 (G_p [0,0,0,0] [0,3,4,17] (k:=A0 (C7 kr (A9 (A0 (A1 (B2 ?_))))))))
 refine A1 (A3 (A4 (j:=2) [0,0] (k:=E6 4 0 1 hr (by exact ⟨by decide,by decide,by intro h; cases h⟩) (I0 (0 * 1) (.string (mB #[13,10])) hr (D9 1 rfl) (fun _=>rfl) (A8 [0] [0,3,4,5] (k:=A0 (A1 (G_p [0] [0,3,4,5,6] (k:=?_)))))))))
 refine A0 (B2 (N7 3 (F1 (A1 (A1 (B9 (E':=[⟨0,[],.slice a 4 cap⟩,⟨3,[],pt b1⟩,⟨4,[],.int .i64 0⟩,⟨5,[],.string (mB #[13,10])⟩,⟨6,[],.int .i64 0⟩,⟨27,[],.bool true⟩]) [0,0,0,0] [0,3,4,5,6,27] (k:=A0 (C7 kr ?_))))))))
 refine A9 (A0 (A1 (B2 (H8 (g::H) kr (G5 (fuel:=5) [(0,0),(1,0),(2,0)] (fun w h=>(h.pk 1 [1])) (k:=F5 3 kr (fun w h=>(h.pk 1 [1])) (I9 (mB #[13,10]) 0 (fun _=>by decide) (G4 kr rfl)) (L2 (ad:=⟨b1,0,none⟩) 4 (hL:=(fun w h=>(h.pk 1 [1]))) (k:=G5 (fuel:=2) [(5,0)] (fun w h=>(h.pk 1 [1])) (k:=?_)))))))))
 refine F5 6 (hL:=(fun w h=>(h.pk 1 [1]))) (hy:=E2 (i:=6) (ch:=[]) (b:=b1) (off:=6) (len:=256) (sz:=1) (e:=5) (kd:=.u8) (j:=13) (hb:=(fun _=>⟨by decide,by decide⟩)) (k:=G4 kr rfl)) (k:=D7 7 (k:=O1 (ch:=[]) (b:=b1) (off:=19) (v:=.int .u8 1) (c:=(J1 [.string eB,.int .i64 0,.string eB,.pointer none,.slice none 0 0,.int .i64 0] (fun _=>0))) (c':=(J1 [.string eB,.int .i64 0,.string eB,.pointer none,.slice none 0 0,.int .i64 0] (updF (fun _=>0) 13 1))) (j:=0) (m:=0) (H':=([(b1,.cells (J1 [.string eB,.int .i64 0,.string eB,.pointer none,.slice none 0 0,.int .i64 0] (updF (fun _=>0) 13 1)) 268 (0,0))]::g::H)) (hoff:=(by rw [V4 rfl]; show 19+1≤262; omega)) (hfz:=(fun _ _=>thaw0)) (hc':=grpC_set rfl rfl (by decide) (fun _ _=>rfl)) (k:=C0 kr (fun w h=>(h.pk 1 [1])) (G3 (E':=[⟨0,[],.slice a 4 cap⟩,⟨3,[],pt b1⟩,⟨4,[],.int .i64 0⟩,⟨5,[],.string (mB #[13,10])⟩,⟨6,[],.int .i64 0⟩]) [0,3,4,5,6] (k:=B6 (A0 (G_p [0,0,0] [0,3,4,5,6] (k:=N_rd ?_))))))))
 refine F1 (A1 (A1 (G_p [0,0,0,0] [0,3,4,5,6,27] (k:=A0 (C7 kr (A9 (A0 (A1 ?_))))))))
 refine B2 (H8 (g::H) kr (G5 (fuel:=5) [(0,0),(1,0),(2,0)] (fun w h=>(h.pk 1 [1])) (k:=F5 3 kr (fun w h=>(h.pk 1 [1])) (I9 (mB #[13,10]) 1 (fun _=>by decide) (G4 kr rfl)) (L2 (ad:=⟨b1,0,none⟩) 4 (hL:=(fun w h=>(h.pk 1 [1]))) (k:=G5 (fuel:=2) [(5,0)] (fun w h=>(h.pk 1 [1])) (k:=F5 6 (hL:=(fun w h=>(h.pk 1 [1]))) (hy:=E2 (i:=6) (ch:=[]) (b:=b1) (off:=6) (len:=256) (sz:=1) (e:=5) (kd:=.u8) (j:=10) (hb:=(fun _=>⟨by decide,by decide⟩)) (k:=G4 kr rfl)) (k:=D7 7 (k:=O1 (ch:=[]) (b:=b1) (off:=16) (v:=.int .u8 1) (c:=(J1 [.string eB,.int .i64 0,.string eB,.pointer none,.slice none 0 0,.int .i64 0] (updF (fun _=>0) 13 1))) (c':=(J1 [.string eB,.int .i64 0,.string eB,.pointer none,.slice none 0 0,.int .i64 0] (updF (updF (fun _=>0) 13 1) 10 1))) (j:=0) (m:=0) (H':=([(b1,.cells (J1 [.string eB,.int .i64 0,.string eB,.pointer none,.slice none 0 0,.int .i64 0] (updF (updF (fun _=>0) 13 1) 10 1)) 268 (0,0))]::g::H)) (hoff:=(by rw [V4 rfl]; show 16+1≤262; omega)) (hfz:=(fun _ _=>thaw0)) (hc':=grpC_set rfl rfl (by decide) (fun _ _=>rfl)) (k:=?_)))))))))
 refine C0 kr (fun w h=>(h.pk 1 [1])) (G3 (E':=[⟨0,[],.slice a 4 cap⟩,⟨3,[],pt b1⟩,⟨4,[],.int .i64 0⟩,⟨5,[],.string (mB #[13,10])⟩,⟨6,[],.int .i64 1⟩]) [0,3,4,5,6] (k:=B6 (A0 (G_p [0,0,0] [0,3,4,5,6] (k:=N_rd (F1 (A1 (A1 ?_))))))))
 refine G_p [0,0,0,0] [0,3,4,5,6,27] (k:=A0 (C9 kr (E3 (A6 (A6 (B5 (B6 (A0 ?_))))))))
 refine G_p [0,0,0] [0,3,4] (k:=N_rd (F1 (A1 (A1 (G_p [0,0,0,0] [0,3,4,17] (k:=A0 (C7 kr (A9 ?_))))))))
 refine A0 (A1 (B2 (A1 (A3 (A4 (j:=2) [0,0] (k:=E6 4 2 1 hr (by exact ⟨by decide,by decide,by intro h; cases h⟩) (I0 (2 * 1) (.string (mB #[13])) hr (D9 1 rfl) (fun _=>rfl) (A8 [0] [0,3,4,5] (k:=?_)))))))))
 refine A0 (A1 (B9 (E':=[⟨0,[],.slice a 4 cap⟩,⟨3,[],pt b1⟩,⟨4,[],.int .i64 2⟩,⟨5,[],.string (mB #[13])⟩,⟨6,[],.int .i64 0⟩]) [0] [0,3,4,5,6] (k:=A0 (B2 (N7 2 (F1 (A1 (A1 ?_))))))))
 refine G_p [0,0,0,0] [0,3,4,5,6,27] (k:=A0 (C7 kr (A9 (A0 (A1 (B2 (H8 (g::H) kr (G5 (fuel:=5) [(0,0),(1,0),(2,0)] (fun w h=>(h.pk 1 [1])) (k:=?_)))))))))
 refine F5 3 kr (fun w h=>(h.pk 1 [1])) (I9 (mB #[13]) 0 (fun _=>by decide) (G4 kr rfl)) (L2 (ad:=⟨b1,0,none⟩) 4 (hL:=(fun w h=>(h.pk 1 [1]))) (k:=G5 (fuel:=2) [(5,0)] (fun w h=>(h.pk 1 [1])) (k:=F5 6 (hL:=(fun w h=>(h.pk 1 [1]))) (hy:=E2 (i:=6) (ch:=[]) (b:=b1) (off:=6) (len:=256) (sz:=1) (e:=5) (kd:=.u8) (j:=13) (hb:=(fun _=>⟨by decide,by decide⟩)) (k:=G4 kr rfl)) (k:=D7 7 (k:=O1 (ch:=[]) (b:=b1) (off:=19) (v:=.int .u8 1) (c:=(J1 [.string eB,.int .i64 0,.string eB,.pointer none,.slice none 0 0,.int .i64 0] (updF (updF (fun _=>0) 13 1) 10 1))) (c':=(J1 [.string eB,.int .i64 0,.string eB,.pointer none,.slice none 0 0,.int .i64 0] (updF (updF (updF (fun _=>0) 13 1) 10 1) 13 1))) (j:=0) (m:=0) (H':=([(b1,.cells (J1 [.string eB,.int .i64 0,.string eB,.pointer none,.slice none 0 0,.int .i64 0] (updF (updF (updF (fun _=>0) 13 1) 10 1) 13 1)) 268 (0,0))]::g::H)) (hoff:=(by rw [V4 rfl]; show 19+1≤262; omega)) (hfz:=(fun _ _=>thaw0)) (hc':=grpC_set rfl rfl (by decide) (fun _ _=>rfl)) (k:=C0 kr (fun w h=>(h.pk 1 [1])) (G3 (E':=[⟨0,[],.slice a 4 cap⟩,⟨3,[],pt b1⟩,⟨4,[],.int .i64 2⟩,⟨5,[],.string (mB #[13])⟩,⟨6,[],.int .i64 0⟩]) [0,3,4,5,6] (k:=B6 ?_))))))))
 refine A0 (G_p [0,0,0] [0,3,4,5,6] (k:=N_rd (F1 (A1 (A1 (G_p [0,0,0,0] [0,3,4,5,6,27] (k:=A0 (C9 kr ?_))))))))
 refine E3 (A6 (A6 (B5 (B6 (A0 (G_p [0,0,0] [0,3,4] (k:=N_rd (F1 ?_))))))))
 refine A1 (A1 (G_p [0,0,0,0] [0,3,4,17] (k:=A0 (C9 kr (E3 (A6 (A6 (B5 ?_))))))))
 refine A0 (A1 (A1 (A3 (A4 (j:=3) [0,0,0] (k:=M6 (ch:=[]) (b:=b1) (off:=6) (l:=mapL (updF (updF (updF (fun _=>0) 13 1) 10 1) 13 1)) (hA:=At.grp 0 0 rfl rfl) (hv':=grpC_map rfl) (k:=A8 [0] [0,3,40,41] (k:=A0 (B2 ?_))))))))
 refine G_env (E':=[⟨0,[],.slice a 4 cap⟩,⟨3,[],pt b1⟩,⟨40,[],(.agg (mapL (updF (updF (updF (fun _=>0) 13 1) 10 1) 13 1)).toArray)⟩,⟨41,[],.int .i64 0⟩]) kr ?_
 have hm1:(updF (updF (updF (fun _=>0) 13 1) 10 1) 13 1)=m1:=by funext j; unfold updF m1; (repeat' split) <;> first | rfl | omega
 refine G_env (E':=[⟨0,[],.slice a 4 cap⟩,⟨3,[],pt b1⟩,⟨40,[],(.agg (mapL m1).toArray)⟩,⟨41,[],.int .i64 0⟩]) (by rw [← hm1]) (V6 (H':=([(b1,.cells (J1 [.string eB,.int .i64 0,.string eB,.pointer none,.slice none 0 0,.int .i64 0] m1) 268 (0,0))]::g::H)) (fun w h=>by rw [← hm1]; exact h) (I3 (EI:=(fun ξ:Nat=>[⟨0,[],.slice a 4 cap⟩,⟨3,[],pt b1⟩,⟨40,[],(.agg (mapL m1).toArray)⟩,⟨41,[],.int .i64 ((ξ:Nat):Int)⟩])) (HI:=(fun ξ:Nat=>([(b1,.cells (J1 [.string eB,.int .i64 0,.string eB,.pointer none,.slice none 0 0,.int .i64 (cnt ξ)] m1) 268 (0,0))]::g::H))) (Φ:=(fun ξ:Nat=>(ξ≤256))) (μ:=(fun ξ:Nat=>256 - ξ)) (s0:=(0)) [0,3,40,41] kr kr (by omega) ?_))
 rintro k hk
 have hmb:=m1_bd k
 have hcb:=cnt_bd k
 refine A1 (G_p [0] [0,3,40,41,42] (k:=A0 (A1 (B0 (b:=decide (((k:Nat):Int)<256)) kr (fun hc2=>?_) (fun hc2=>?_)))))
 ·
  have hkl:=hc2; simp only [decide_eq_true_eq] at hkl
  refine A9 (A0 (A1 (B2 (A1 (A3 (GL_indexV (i:=0) (ch:=[]) (vs:=(mapL m1).toArray) (kd:=.i64) (j:=((k:Nat):Int)) (len:=256) (e:=5) (v:=.int .u8 (m1 k)) rfl rfl kr kr kr kr kr kr kr kr (fun _=>⟨by omega,by omega,by rw [Int.toNat_natCast]; exact mapA_at (by omega) rfl⟩) (A8 [0] [0,3,8,40,41] (k:=A0 ?_))))))))
  refine A3 (A4 (j:=3) [0,0,0] (k:=C2 (ch:=[]) (b:=b1) (off:=5) (v:=.int .i64 (cnt k)) (hA:=At.grp 0 0 rfl rfl) (hv:=L8 rfl) (k:=A4 (j:=6) [0,0] (k:=D0 49 (m1 k) (by omega) (by omega) kr (A4 (j:=7) [0] (k:=D0 50 ((cnt k)+(m1 k)) (by omega) (by omega) kr (A4 (j:=9) [0,0] (k:=O1 (ch:=[]) (b:=b1) (off:=5) (v:=.int .i64 ((cnt k)+(m1 k))) (c:=(J1 [.string eB,.int .i64 0,.string eB,.pointer none,.slice none 0 0,.int .i64 (cnt k)] m1)) (c':=(J1 [.string eB,.int .i64 0,.string eB,.pointer none,.slice none 0 0,.int .i64 ((cnt k)+(m1 k))] m1)) (j:=0) (m:=0) (H':=([(b1,.cells (J1 [.string eB,.int .i64 0,.string eB,.pointer none,.slice none 0 0,.int .i64 ((cnt k)+(m1 k))] m1) 268 (0,0))]::g::H)) (hoff:=(by rw [V4 rfl]; show 5+1≤262; omega)) (hfz:=(fun _ _=>thaw0)) (hc':=grpC_sethd (Nat.le_of_ble_eq_true rfl) rfl) (k:=?_)))))))))
  refine A8 [] [0,3,40,41] (k:=B6 (A0 (A3 (A4 (j:=1) [0] (k:=D0 53 (((k:Nat):Int)+1) (by omega) (by omega) kr (A8 [0] [0,3,40,41] (k:=?_)))))))
  have hcs:(cnt k)+(m1 k)=cnt (k+1):=(cnt_succ k).symm
  refine Y0 (H':=([(b1,.cells (J1 [.string eB,.int .i64 0,.string eB,.pointer none,.slice none 0 0,.int .i64 (cnt (k+1))] m1) 268 (0,0))]::g::H)) (by rw [hcs]) (D2 (s':=(k+1)) [0,3,40,41] kr rfl (by omega) (by omega))
 ·
  have hkl:=hc2; simp only [decide_eq_false_iff_not] at hkl
  refine E3 (A6 (A6 (B5 (A0 (A1 (G_p [0] [0,3,9] (k:=A0 (A1 ?_))))))))
  refine A1 (A3 (A4 (j:=3) [0,0,0] (k:=M6 (ch:=[]) (b:=b1) (off:=6) (l:=mapL m1) (hA:=At.grp 0 0 rfl rfl) (hv':=grpC_map rfl) (k:=A8 [0] [0,3,9,57,58] (k:=A0 (B2 (V6 (H':=([(b1,.cells (J1 [.string eB,.int .i64 0,.string eB,.pointer none,.slice none 0 0,.int .i64 2] (W2 0)) 268 (0,0))]::g::H)) (fun w h=>by rw [show W2 0=m1 from funext finK_0]; rw [show k=256 by omega] at h; exact h) (I3 (EI:=(fun ξ:Nat=>[⟨0,[],.slice a 4 cap⟩,⟨3,[],pt b1⟩,⟨9,[],.int .u8 (cnt ξ)⟩,⟨57,[],(.agg (mapL m1).toArray)⟩,⟨58,[],.int .i64 ((ξ:Nat):Int)⟩])) (HI:=(fun ξ:Nat=>([(b1,.cells (J1 [.string eB,.int .i64 0,.string eB,.pointer none,.slice none 0 0,.int .i64 2] (W2 ξ)) 268 (0,0))]::g::H))) (Φ:=(fun ξ:Nat=>(ξ≤256))) (μ:=(fun ξ:Nat=>256 - ξ)) (s0:=(0)) [0,3,9,57,58] kr kr (by omega) ?_))))))))
  rintro q hq
  have hmq:=m1_bd q
  have hcq:=cnt_bd q
  refine A1 (G_p [0] [0,3,9,57,58,59] (k:=A0 (A1 (B0 (b:=decide (((q:Nat):Int)<256)) kr (fun hc6=>?_) (fun hc6=>?_)))))
  ·
   have hql:=hc6; simp only [decide_eq_true_eq] at hql
   refine A9 (A0 (A1 (B2 (A1 (A3 (A4 (j:=1) [0] (k:=GL_indexV (i:=1) (ch:=[]) (vs:=(mapL m1).toArray) (kd:=.i64) (j:=((q:Nat):Int)) (len:=256) (e:=5) (v:=.int .u8 (m1 q)) rfl rfl kr kr kr kr kr kr kr kr (fun _=>⟨by omega,by omega,by rw [Int.toNat_natCast]; exact mapA_at (by omega) rfl⟩) (A8 [0,0] [0,3,9,10,11,57,58] (k:=?_)))))))))
   refine A0 (A1 (G_p [0,0] [0,3,9,10,57,58,63] (k:=A0 (B0 (b:=(m1 q)==0) kr (fun hc7=>?_) (fun hc7=>?_)))))
   ·
    have hz:m1 q=0:=by simpa using hc7
    refine H8 (g::H) kr (G5 (fuel:=8) [(0,0),(1,0),(2,0)] (fun w h=>(h.pk 1 [1])) (k:=L2 (ad:=⟨b1,0,none⟩) 3 (hL:=(fun w h=>(h.pk 1 [1]))) (k:=G5 (fuel:=6) [(4,0)] (fun w h=>(h.pk 1 [1])) (k:=L2 (ad:=⟨b1,0,none⟩) 7 (hL:=(fun w h=>(h.pk 1 [1]))) (k:=G5 (fuel:=4) [(8,0)] (fun w h=>(h.pk 1 [1])) (k:=D7 5 (k:=C2 (ch:=[]) (b:=b1) (off:=5) (v:=.int .i64 2) (hA:=At.grp 0 0 rfl rfl) (hv:=L8 rfl) (k:=C0 kr (fun w h=>(h.pk 1 [1])) ?_))))))))
    refine G5 (fuel:=2) [(6,0)] (fun w h=>(h.pk 1 [1])) (k:=F5 9 (hL:=(fun w h=>(h.pk 1 [1]))) (hy:=E2 (i:=9) (ch:=[]) (b:=b1) (off:=6) (len:=256) (sz:=1) (e:=5) (kd:=.i64) (j:=((q:Nat):Int)) (hb:=(fun _=>by exact ⟨by omega,by omega⟩)) (k:=G4 kr rfl)) (k:=D7 10 (k:=O1 (ch:=[]) (b:=b1) (off:=6+Int.toNat ((q:Nat):Int) * 1) (v:=.int .u8 2) (c:=(J1 [.string eB,.int .i64 0,.string eB,.pointer none,.slice none 0 0,.int .i64 2] (W2 q))) (c':=(J1 [.string eB,.int .i64 0,.string eB,.pointer none,.slice none 0 0,.int .i64 2] (W2 (q+1)))) (j:=0) (m:=0) (H':=([(b1,.cells (J1 [.string eB,.int .i64 0,.string eB,.pointer none,.slice none 0 0,.int .i64 2] (W2 (q+1))) 268 (0,0))]::g::H)) (hoff:=(by rw [V4 rfl]; show 6+Int.toNat ((q:Nat):Int) * 1+1≤262; omega)) (hfz:=(fun _ _=>thaw0)) (hc':=grpC_set (k:=q) rfl (by rw [Int.toNat_natCast]; omega) (by omega) (fun j _=>finK_succ (m2_no hz).symm j)) (k:=C0 kr (fun w h=>(h.pk 1 [1])) (G3 (E':=[⟨0,[],.slice a 4 cap⟩,⟨3,[],pt b1⟩,⟨9,[],.int .u8 (cnt q)⟩,⟨57,[],(.agg (mapL m1).toArray)⟩,⟨58,[],.int .i64 ((q:Nat):Int)⟩]) [0,3,9,57,58] (k:=B6 (A0 (A3 ?_))))))))
    refine A4 (j:=1) [0] (k:=D0 82 (((q:Nat):Int)+1) (by omega) (by omega) kr (A8 [0] [0,3,9,57,58] (k:=?_)))
    have hc9:(cnt q)=cnt (q+1):=by rw [cnt_succ,hz]; omega
    refine Q1 (E':=[⟨0,[],.slice a 4 cap⟩,⟨3,[],pt b1⟩,⟨9,[],.int .u8 (cnt q)⟩,⟨57,[],(.agg (mapL m1).toArray)⟩,⟨58,[],.int .i64 (((q:Nat):Int)+1)⟩]) kr (Q1 (E':=[⟨0,[],.slice a 4 cap⟩,⟨3,[],pt b1⟩,⟨9,[],.int .u8 (cnt (q+1))⟩,⟨57,[],(.agg (mapL m1).toArray)⟩,⟨58,[],.int .i64 (((q:Nat):Int)+1)⟩]) (by rw [hc9]) (D2 (s':=(q+1)) [0,3,9,57,58] kr kr (by omega) (by omega)))
   ·
    have hz:m1 q≠0:=by simpa using hc7
    refine A1 (A3 (A4 (j:=5) [0,0,0,0,0] (k:=E2 (ch:=[]) (b:=b1) (off:=6) (len:=256) (sz:=1) (e:=5) (kd:=.i64) (j:=((q:Nat):Int)) (hb:=(fun _=>by exact ⟨by omega,by omega⟩)) (k:=O1 (ch:=[]) (b:=b1) (off:=6+Int.toNat ((q:Nat):Int) * 1) (v:=.int .u8 (cnt q)) (c:=(J1 [.string eB,.int .i64 0,.string eB,.pointer none,.slice none 0 0,.int .i64 2] (W2 q))) (c':=(J1 [.string eB,.int .i64 0,.string eB,.pointer none,.slice none 0 0,.int .i64 2] (W2 (q+1)))) (j:=0) (m:=0) (H':=([(b1,.cells (J1 [.string eB,.int .i64 0,.string eB,.pointer none,.slice none 0 0,.int .i64 2] (W2 (q+1))) 268 (0,0))]::g::H)) (hoff:=(by rw [V4 rfl]; show 6+Int.toNat ((q:Nat):Int) * 1+1≤262; omega)) (hfz:=(fun _ _=>thaw0)) (hc':=grpC_set (k:=q) rfl (by rw [Int.toNat_natCast]; omega) (by omega) (fun j _=>finK_succ (cnt_m2 hz) j)) (k:=A8 [] [0,3,9,57,58] (k:=A0 (G_p [0,0,0] [0,3,9,57,58] (k:=B6 ?_))))))))
    refine A0 (A3 (A4 (j:=1) [0] (k:=D0 82 (((q:Nat):Int)+1) (by omega) (by omega) kr (B4 (E':=[⟨0,[],.slice a 4 cap⟩,⟨3,[],pt b1⟩,⟨9,[],.int .u8 (IntKind.wrap .u8 ((cnt q)+1))⟩,⟨57,[],(.agg (mapL m1).toArray)⟩,⟨58,[],.int .i64 (((q:Nat):Int)+1)⟩]) [0] [0,3,9,57,58] (k:=?_)))))
    have hc9:IntKind.wrap .u8 ((cnt q)+1)=cnt (q+1):=by rw [cnt_succ,show m1 q=1 by omega]; rw [show IntKind.wrap .u8 (cnt q+1)=(cnt q+1) % 256 from by first | rfl | simp [IntKind.wrap,IntKind.bits,IntKind.signed]]; omega
    refine Q1 (E':=[⟨0,[],.slice a 4 cap⟩,⟨3,[],pt b1⟩,⟨9,[],.int .u8 (cnt (q+1))⟩,⟨57,[],(.agg (mapL m1).toArray)⟩,⟨58,[],.int .i64 (((q:Nat):Int)+1)⟩]) (by rw [hc9]) (D2 (s':=(q+1)) [0,3,9,57,58] kr kr (by omega) (by omega))
  ·
   have hql:=hc6; simp only [decide_eq_false_iff_not] at hql
   have hq6:q=256:=by omega
   refine E3 (A6 (A6 (B5 (A0 (A1 (A3 (A4 (j:=4) [0,0,0,0] (k:=C2 (ch:=[]) (b:=b1) (off:=5) (v:=.int .i64 2) (hA:=At.grp 0 0 rfl rfl) (hv:=L8 rfl) (k:=?_)))))))))
   refine GL_makeS (ch:=[]) (t:=264) (e:=263) (inf:=Tryz.t263) (l:=2) (c:=[.pointer none,.pointer none]) (z:=.pointer none) (hz:=kr) (hb:=of_decide_eq_true kr) (hl:=of_decide_eq_true kr) (hm:=of_decide_eq_true kr) (hc:=kr) (k:=(fun b10=>A4 (j:=9) [0,0,0] (k:=O1 (ch:=[]) (b:=b1) (off:=4) (v:=.slice (some ⟨b10,0,none⟩) 2 2) (c:=(J1 [.string eB,.int .i64 0,.string eB,.pointer none,.slice none 0 0,.int .i64 2] (W2 q))) (c':=(J1 [.string eB,.int .i64 0,.string eB,.pointer none,.slice (some ⟨b10,0,none⟩) 2 2,.int .i64 2] (W2 q))) (j:=1) (m:=0) (H':=([(b10,.cells #[.pointer none,.pointer none] 263 (0,0))]::[(b1,.cells (J1 [.string eB,.int .i64 0,.string eB,.pointer none,.slice (some ⟨b10,0,none⟩) 2 2,.int .i64 2] (W2 q)) 268 (0,0))]::g::H)) (hoff:=(by rw [V4 rfl]; show 4+1≤262; omega)) (hfz:=(fun _ _=>thaw0)) (hc':=grpC_sethd (Nat.le_of_ble_eq_true rfl) rfl) (k:=A8 [] [0,3] (k:=A0 (A1 (A1 (G_p [0] [0,3,12] (k:=A0 ?_)))))))))
   refine B2 (V6 (H':=([(b10,.cells #[.pointer none,.pointer none] 263 (0,0))]::[(b1,.cells (J1 [.string eB,.int .i64 0,.string eB,.pointer none,.slice (some ⟨b10,0,none⟩) 2 2,.int .i64 2] (W2 256)) 268 (0,0))]::g::H)) (fun w h=>by rw [hq6] at h; exact h) (N7 3 (F1 (A1 (A1 (G_p [0,0,0,0] [0,3,12,95] (k:=A0 (C7 kr ?_))))))))
   refine A9 (A0 (A1 (B2 (H8 (g::H) kr (G5 (fuel:=17) [(0,0)] (fun w h=>(h.pk 2 [2])) (k:=L2 (ad:=⟨b1,0,none⟩) 1 (hL:=(fun w h=>(h.pk 2 [2]))) (k:=G5 (fuel:=13) [(2,0),(3,0),(4,0)] (fun w h=>(h.pk 2 [2])) (k:=F5 5 kr (fun w h=>(h.pk 2 [2])) (E6 4 0 1 hr (by exact ⟨by decide,by decide,by intro h; cases h⟩) (G4 kr rfl)) ?_))))))))
   refine F5 6 kr (fun w h=>(h.pk 2 [2])) (I0 (0 * 1) (.string (mB #[13,10])) hr (D9 0 rfl) (fun _=>rfl) (G4 kr rfl)) (G5 (fuel:=8) [(7,0),(8,0),(9,0)] (fun w h=>(h.pk 2 [2])) (k:=F5 10 kr (fun w h=>(h.pk 2 [2])) (E6 4 1 1 hr (by exact ⟨by decide,by decide,by intro h; cases h⟩) (G4 kr rfl)) (F5 11 kr (fun w h=>(h.pk 2 [2])) (I0 (1 * 1) (.string (mB #[10])) hr (D9 0 rfl) (fun _=>rfl) (G4 kr rfl)) (G5 (fuel:=5) [(12,0)] (fun w h=>(h.pk 2 [2])) (k:=Y4 (v:=.int .i64 4) 13 (hL:=(fun w h=>(h.pk 2 [2]))) (k:=G5 (fuel:=1) [(14,0),(15,0),(16,0)] (fun w h=>(h.pk 2 [2])) (k:=D7 17 (k:=O0 0 [1] ?_))))))))
   refine E0 Tryz.func229 (addR2_ b1 b10 _ _) ?_
   rintro _ _ ⟨n11,n12,rfl⟩
   refine C0 kr (fun w h=>(h.pk 4 [4])) (G3 (E':=[⟨0,[],.slice a 4 cap⟩,⟨3,[],pt b1⟩,⟨12,[],.int .i64 0⟩]) [0,3,12] (k:=B6 (A0 (G_p [0,0,0] [0,3,12] (k:=N_rd (F1 (A1 (A1 ?_))))))))
   refine G_p [0,0,0,0] [0,3,12,95] (k:=A0 (C7 kr (A9 (A0 (A1 (B2 (H8 (g::H) kr (G5 (fuel:=17) [(0,0)] (fun w h=>(h.pk 4 [4])) (k:=?_)))))))))
   refine L2 (ad:=⟨b1,0,none⟩) 1 (hL:=(fun w h=>(h.pk 4 [4]))) (k:=G5 (fuel:=13) [(2,0),(3,0),(4,0)] (fun w h=>(h.pk 4 [4])) (k:=F5 5 kr (fun w h=>(h.pk 4 [4])) (E6 4 2 1 hr (by exact ⟨by decide,by decide,by intro h; cases h⟩) (G4 kr rfl)) (F5 6 kr (fun w h=>(h.pk 4 [4])) (I0 (2 * 1) (.string (mB #[13])) hr (D9 0 rfl) (fun _=>rfl) (G4 kr rfl)) (G5 (fuel:=8) [(7,0),(8,0),(9,0)] (fun w h=>(h.pk 4 [4])) (k:=F5 10 kr (fun w h=>(h.pk 4 [4])) (E6 4 3 1 hr (by exact ⟨by decide,by decide,by intro h; cases h⟩) (G4 kr rfl)) (F5 11 kr (fun w h=>(h.pk 4 [4])) (I0 (3 * 1) (.string (mB #[10])) hr (D9 0 rfl) (fun _=>rfl) (G4 kr rfl)) (G5 (fuel:=5) [(12,0)] (fun w h=>(h.pk 4 [4])) (k:=Y4 (v:=.int .i64 4) 13 (hL:=(fun w h=>(h.pk 4 [4]))) (k:=?_)))))))))
   refine G5 (fuel:=1) [(14,0),(15,0),(16,0)] (fun w h=>(h.pk 4 [4])) (k:=D7 17 (k:=E0 Tryz.func229 (addR1_ b1 b10 n11 n12 _ _) ?_))
   rintro _ _ rfl
   refine C0 kr (fun w h=>(h.pk 4 [4])) (G3 (E':=[⟨0,[],.slice a 4 cap⟩,⟨3,[],pt b1⟩,⟨12,[],.int .i64 2⟩]) [0,3,12] (k:=B6 (A0 (G_p [0,0,0] [0,3,12] (k:=N_rd (F1 (A1 (A1 ?_))))))))
   refine G_p [0,0,0,0] [0,3,12,95] (k:=A0 (C9 kr (E3 (A6 (A6 (B5 (A0 (A1 ?_))))))))
   refine B9 (E':=[⟨2,[],pt b1⟩]) [0,0] [2] (k:=A0 (B8 (B7 [.tmp 2] [pt b1] (k:=?_))))
   exact ⟨_,_,_,_,rfl,rfl⟩
end Go.Proofs.YtppgfiklmfoaeaaGreatDoor
namespace Go.Proofs.YtppgfiklmfoaeaaGreatDoor
open Go.Sw Go.Sha Go.Esc Go.Json Go.Xml
theorem byte3 (b:UInt8):b=13∨b=10∨(b≠13∧m2 b.toNat=2):=by
  by_cases h1:b=13
  · exact .inl h1
  by_cases h2:b=10
  · exact .inr (.inl h2)
  refine .inr (.inr ⟨h1,?_⟩)
  have e1:b.toNat≠10:=fun h=>h2 (UInt8.toNat_inj.1 h)
  have e2:b.toNat≠13:=fun h=>h1 (UInt8.toNat_inj.1 h)
  unfold m2
  rw [if_neg e1,if_neg e2]
theorem ba_of {a:ByteArray} {l:List UInt8} (h:a.data.toList=l):a=bk l:=ByteArray.ext (Array.ext' h)
theorem ext_mid (l:List UInt8) (a b:Nat):((bk l).extract a b).data.toList=(l.drop a).take (b - a):=ext_list (bk l) a b
theorem app_list (a b:ByteArray):(a++b).data.toList=a.data.toList++b.data.toList:=by rw [ByteArray.data_append,Array.toList_append]
theorem lookup_ (b t n1 n2:Nat) (l:List UInt8) (hl:l.length≤1000000000000) (h13:l=[]∨l.getD 0 0=13) (W0:World) (H:List Grp):Tri Tryz.prog 281 #[pt b,.string (bk l),.bool false] W0 ([(b,.cells (J1 [.string eB,.int .i64 0,.string eB,.pointer none,.slice (some ⟨t,0,none⟩) 2 2,.int .i64 2] (W2 256)) 268 (0,0))]::[(t,.cells #[.pointer none,pt n1] 263 (0,0))]::[(n1,.cells #[.string (mB #[10]),.int .i64 2,.string (mB #[10]),pt n2,.slice none 0 0] 266 (0,0))]::[(n2,.cells #[.string (mB #[10]),.int .i64 4,.string eB,.pointer none,.slice none 0 0] 266 (0,0))]::H) (fun v H'=>((l=[]∧v=.tuple #[.string eB,.int .i64 0,.bool false])∨(l≠[]∧¬ (1<l.length∧l.getD 1 0=10)∧v=.tuple #[.string (mB #[10]),.int .i64 1,.bool true])∨(1<l.length∧l.getD 1 0=10∧v=.tuple #[.string (mB #[10]),.int .i64 2,.bool true]))∧H'=([(b,.cells (J1 [.string eB,.int .i64 0,.string eB,.pointer none,.slice (some ⟨t,0,none⟩) 2 2,.int .i64 2] (W2 256)) 268 (0,0))]::[(t,.cells #[.pointer none,pt n1] 263 (0,0))]::[(n1,.cells #[.string (mB #[10]),.int .i64 2,.string (mB #[10]),pt n2,.slice none 0 0] 266 (0,0))]::[(n2,.cells #[.string (mB #[10]),.int .i64 4,.string eB,.pointer none,.slice none 0 0] 266 (0,0))]::H)):=by
 have hbz:=C8 l
 refine D4 107 Tryz.func281 ?_
 refine A1 (G_p [0,0,0] [0,1,2,6,7,8] (k:=A0 (A1 (G_p [0] [0,1,2,6,7,8,9] (k:=A0 (A1 (G_p [0,0,0,0] [0,1,2,6,7,8,9,10] (k:=A0 ?_))))))))
 refine A1 (G_p [0] [0,1,2,6,7,8,9,10,11] (k:=A0 (A1 (B2 (N7 4 (F1 (A1 (A1 ?_))))))))
 refine G_p [0,0] [0,1,2,6,7,8,9,10,11,17] (k:=A0 (C7 kr (A9 (A0 (B2 (A1 (A1 (A3 ?_))))))))
 refine A4 (j:=3) [0,0,0] (k:=C2 (ch:=[]) (b:=b) (off:=1) (v:=.int .i64 0) (hA:=At.grp 0 0 rfl rfl) (hv:=L8 rfl) (k:=B4 (E':=[⟨0,[],pt b⟩,⟨1,[],.string (bk l)⟩,⟨2,[],.bool false⟩,⟨6,[],.string eB⟩,⟨7,[],.int .i64 0⟩,⟨8,[],.bool false⟩,⟨9,[],.int .i64 0⟩,⟨10,[],pt b⟩,⟨11,[],.int .i64 0⟩,⟨34,[],.bool false⟩]) [0,0,0,1,1,1,1,1,1,1,1,1,3] [0,1,2,6,7,8,9,10,11,34] (k:=A0 (C9 kr (A9 (A0 (A1 (A1 ?_))))))))
 refine G_p [0,0] [0,1,2,6,7,8,9,10,11,45] (k:=A0 (B0 (b:=(bk l).toList==eB.toList) kr (fun hc1=>?_) (fun hc1=>?_)))
 ·
  have h1:l=[]:=(eqB _ _).1 hc1
  refine E3 (A6 (Q2 rfl (A6 (B5 (A0 (B8 (B7 [.tmp 6,.tmp 7,.tmp 8] [.string eB,.int .i64 0,.bool false] (k:=?_))))))))
  exact ⟨.inl ⟨h1,rfl⟩,rfl⟩
 ·
  have h1:l≠[]:=(eqBf _ _).1 hc1
  replace h13:=h13.resolve_left h1
  have hlp:=List.length_pos_iff.2 h1
  refine A9 (A0 (A1 (A3 (A4 (j:=3) [0,0,0] (k:=C2 (ch:=[]) (b:=b) (off:=4) (v:=.slice (some ⟨t,0,none⟩) 2 2) (hA:=At.grp 0 0 rfl rfl) (hv:=L8 rfl) (k:=A8 [0] [0,1,2,6,7,8,9,10,11,50] (k:=A0 (C7 kr ?_))))))))
  refine A1 (H0 (k:=A4 (j:=2) [0,0] (k:=I9 (bk l) 0 (by intro _; exact ⟨by omega,by omega⟩) ?_)))
  have hb2:=G6 (bk l) 0
  refine A4 (j:=5) [0,0] (k:=E2 (ch:=[]) (b:=b) (off:=6) (len:=256) (sz:=1) (e:=5) (kd:=.u8) (j:=B1 (bk l) 0) (hb:=(fun _=>by rw [byteJ0,h13]; exact ⟨by decide,by decide⟩)) (k:=C2 (ch:=[]) (b:=b) (off:=6+Int.toNat (B1 (bk l) 0) * 1) (v:=.int .u8 1) (hA:=At.grp 0 0 rfl rfl) (hv:=grpC_at (k:=13) rfl (by rw [byteJ0,h13]; rfl) (by decide) rfl) (k:=A8 [0] [0,1,2,6,7,8,9,10,11,12] (k:=A0 (A1 (A1 (A3 (A4 (j:=5) [0,0,0,0,0] (k:=?_)))))))))
  refine C2 (ch:=[]) (b:=b) (off:=5) (v:=.int .i64 2) (hA:=At.grp 0 0 rfl rfl) (hv:=L8 rfl) (k:=A8 [0] [0,1,2,6,7,8,9,10,11,12,64] (k:=A0 (C9 kr (A9 (A0 (A1 (A3 (A4 (j:=3) [0,0,0] (k:=?_)))))))))
  refine C2 (ch:=[]) (b:=b) (off:=4) (v:=.slice (some ⟨t,0,none⟩) 2 2) (hA:=At.grp 0 0 rfl rfl) (hv:=L8 rfl) (k:=A4 (j:=5) [0] (k:=J0 (ch:=[]) (a:=(some ⟨t,0,none⟩)) (len:=2) (cap:=2) (kd:=.u8) (j:=1) (e:=263) (sz:=1) (S:=(inG [(t,.cells #[.pointer none,pt n1] 263 (0,0))])) (cs:=[.pointer none,pt n1]) (hrd:=Rd.lit) (hb:=(fun _=>by exact ⟨by decide,by decide,by intro h; cases h⟩)) (k:=GL_env (E':=[⟨70,[],.pointer (some ⟨t,1,none⟩)⟩,⟨69,[],.int .u8 1⟩,⟨68,[],.slice (some ⟨t,0,none⟩) 2 2⟩,⟨67,[],.pointer (some ⟨b,4,none⟩)⟩,⟨66,[],pt b⟩,⟨65,[],pt b⟩,⟨0,[],pt b⟩,⟨1,[],.string (bk l)⟩,⟨2,[],.bool false⟩,⟨6,[],.string eB⟩,⟨7,[],.int .i64 0⟩,⟨8,[],.bool false⟩,⟨9,[],.int .i64 0⟩,⟨10,[],pt b⟩,⟨11,[],.int .i64 0⟩,⟨12,[],.int .u8 1⟩,⟨64,[],.bool false⟩]) kr (C4 1 1 rfl rfl (A8 [0] [0,1,2,6,7,8,9,10,11] (k:=A0 (A1 (A3 ?_))))))))
  refine A4 (j:=1) [0] (k:=O2 (bk l) 1 ((bk l).size:Int) (by intro _; exact ⟨by omega,by omega,by omega⟩) (F6 73 (x:=.string ((bk l).extract 1 (bk l).size)) (y:=.string (bk (l.drop 1))) (by rw [ext_bk]) (B4 (E':=[⟨0,[],pt b⟩,⟨1,[],.string (bk (l.drop 1))⟩,⟨2,[],.bool false⟩,⟨6,[],.string eB⟩,⟨7,[],.int .i64 0⟩,⟨8,[],.bool false⟩,⟨9,[],.int .i64 0⟩,⟨10,[],pt n1⟩,⟨11,[],.int .i64 0⟩]) [0] [0,1,2,6,7,8,9,10,11] (k:=A0 (G_p [0,0,0] [0,1,2,6,7,8,9,10,11] (k:=B6 (N_rd (F1 ?_))))))))
  refine A1 (A1 (G_p [0,0] [0,1,2,6,7,8,9,10,11,17] (k:=A0 (C7 kr (A9 (A0 (B2 (A1 ?_))))))))
  refine A1 (A3 (A4 (j:=3) [0,0,0] (k:=C4 2 1 rfl rfl (A8 [0,0,0,0,0,1,1,1,1,1,3,0,2] [0,1,2,6,7,8,9,10,11,34] (k:=A0 (C7 kr (A1 (A3 ?_))))))))
  refine A4 (j:=3) [0,0,0] (k:=C4 2 1 rfl rfl (A8 [0] [0,1,2,9,10,11] (k:=A0 (A1 (A3 (A4 (j:=3) [0,0,0] (k:=C4 2 0 rfl rfl (A8 [0] [0,1,2,6,9,10,11] (k:=?_)))))))))
  refine A0 (A1 (B9 (E':=[⟨0,[],pt b⟩,⟨1,[],.string (bk (l.drop 1))⟩,⟨2,[],.bool false⟩,⟨6,[],.string (mB #[10])⟩,⟨7,[],.int .i64 1⟩,⟨9,[],.int .i64 2⟩,⟨10,[],pt n1⟩,⟨11,[],.int .i64 1⟩]) [0,0] [0,1,2,6,7,9,10,11] (k:=A0 (G_p [0] [0,1,2,6,7,8,9,10,11] (k:=A0 (A1 (A1 (G_p [0,0] [0,1,2,6,7,8,9,10,11,45] (k:=?_)))))))))
  refine A0 (B0 (b:=(bk (l.drop 1)).toList==eB.toList) kr (fun hc3=>?_) (fun hc3=>?_))
  ·
   have h2:l.drop 1=[]:=(eqB _ _).1 hc3
   have h2l:l.length≤1:=by have:=congrArg List.length h2; rw [List.length_drop,List.length_nil] at this; omega
   refine E3 (A6 (Q2 rfl (A6 (B5 (A0 (B8 (B7 [.tmp 6,.tmp 7,.tmp 8] [.string (mB #[10]),.int .i64 1,.bool true] (k:=?_))))))))
   exact ⟨.inr (.inl ⟨h1,fun h=>absurd h.1 (by omega),rfl⟩),rfl⟩
  ·
   have h2:l.drop 1≠[]:=(eqBf _ _).1 hc3
   have h2l:1<l.length:=by have:=List.length_pos_iff.2 h2; rw [List.length_drop] at this; omega
   refine A9 (A0 (A1 (A3 (A4 (j:=3) [0,0,0] (k:=C4 2 4 rfl rfl (A8 [0] [0,1,2,6,7,8,9,10,11,50] (k:=A0 (C9 kr ?_))))))))
   refine A1 (A3 (A4 (j:=3) [0,0,0] (k:=C4 2 2 rfl rfl (A4 (j:=5) [0] (k:=F6 80 (x:=.bool (!((mB #[10]).toList==eB.toList))) (y:=.bool true) (by rw [show (!((mB #[10]).toList==eB.toList))=true from by kernel_rfl]) (A4 (j:=10) [0,0,0,0,0] (k:=C2 (ch:=[(81,true)]) (b:=n1) (off:=2) (v:=.string (mB #[10])) (hA:=At.grp 2 0 rfl rfl) (k:=N1 [(81,true)] Tryz.func77 (fun hc=>jhas_ (bk (l.drop 1)) (mB #[10]) _ _) ?_))))))))
   refine A8 [2] [0,1,2,6,7,8,9,10,11,88] (k:=A0 (B0 (b:=J2 (bk (l.drop 1)) (mB #[10])) kr (fun hc4=>?_) (fun hc4=>?_)))
   ·
    have h10:(l.drop 1).take 1=[10]:=(O8 _ _).1 hc4
    have hg:l.getD 1 0=10:=by rw [Go.Xml.drop_getD h2l] at h10; injection h10
    refine A1 (A3 (A4 (j:=4) [0,0,0,0] (k:=C4 2 2 rfl rfl (A8 [0,0,0] [0,1,2,6,7,8,9,10,11] (k:=A0 (A1 (A3 (A4 (j:=4) [0,0,0,0] (k:=?_)))))))))
    refine C4 2 2 rfl rfl (A4 (j:=6) [0] (k:=O2 (bk (l.drop 1)) 1 ((bk (l.drop 1)).size:Int) (by intro _; rw [C8,List.length_drop]; exact ⟨by omega,by omega,by omega⟩) (F6 102 (x:=.string ((bk (l.drop 1)).extract 1 (bk (l.drop 1)).size)) (y:=.string (bk ((l.drop 1).drop 1))) (by rw [ext_bk]) (B4 (E':=[⟨0,[],pt b⟩,⟨1,[],.string (bk ((l.drop 1).drop 1))⟩,⟨2,[],.bool false⟩,⟨6,[],.string (mB #[10])⟩,⟨7,[],.int .i64 1⟩,⟨8,[],.bool true⟩,⟨9,[],.int .i64 2⟩,⟨10,[],pt n1⟩,⟨11,[],.int .i64 2⟩]) [0] [0,1,2,6,7,8,9,10,11] (k:=A0 (A3 (A4 (j:=3) [0,0,0] (k:=C4 2 3 rfl rfl ?_))))))))
    refine A8 [0] [0,1,2,6,7,8,9,10,11] (k:=B6 (N_rd (F1 (A1 (A1 (G_p [0,0] [0,1,2,6,7,8,9,10,11,17] (k:=A0 (C7 kr ?_))))))))
    refine A9 (A0 (B2 (A1 (A1 (A3 (A4 (j:=3) [0,0,0] (k:=C4 3 1 rfl rfl (A8 [0,0,0,0,0,1,1,1,1,1,3,0,2] [0,1,2,6,7,8,9,10,11,34] (k:=?_)))))))))
    refine A0 (C7 kr (A1 (A3 (A4 (j:=3) [0,0,0] (k:=C4 3 1 rfl rfl (A8 [0] [0,1,2,9,10,11] (k:=A0 (A1 ?_))))))))
    refine A3 (A4 (j:=3) [0,0,0] (k:=C4 3 0 rfl rfl (A8 [0] [0,1,2,6,9,10,11] (k:=A0 (A1 (B9 (E':=[⟨0,[],pt b⟩,⟨1,[],.string (bk ((l.drop 1).drop 1))⟩,⟨2,[],.bool false⟩,⟨6,[],.string (mB #[10])⟩,⟨7,[],.int .i64 2⟩,⟨9,[],.int .i64 4⟩,⟨10,[],pt n2⟩,⟨11,[],.int .i64 2⟩]) [0,0] [0,1,2,6,7,9,10,11] (k:=A0 (G_p [0] [0,1,2,6,7,8,9,10,11] (k:=?_)))))))))
    refine A0 (A1 (A1 (G_p [0,0] [0,1,2,6,7,8,9,10,11,45] (k:=A0 (B0 (b:=(bk ((l.drop 1).drop 1)).toList==eB.toList) kr (fun hc5=>?_) (fun hc5=>?_))))))
    ·
     skip
     refine E3 (A6 (Q2 rfl (A6 (B5 (A0 (B8 (B7 [.tmp 6,.tmp 7,.tmp 8] [.string (mB #[10]),.int .i64 2,.bool true] (k:=?_))))))))
     exact ⟨.inr (.inr ⟨h2l,hg,rfl⟩),rfl⟩
    ·
     skip
     refine A9 (A0 (A1 (A3 (A4 (j:=3) [0,0,0] (k:=C4 3 4 rfl rfl (A8 [0] [0,1,2,6,7,8,9,10,11,50] (k:=A0 (C9 kr ?_))))))))
     refine A1 (A3 (A4 (j:=3) [0,0,0] (k:=C4 3 2 rfl rfl (A4 (j:=5) [0] (k:=F6 80 (x:=.bool (!(eB.toList==eB.toList))) (y:=.bool false) (by rw [show (!(eB.toList==eB.toList))=false from by kernel_rfl]) (A8 [0,1,1,1,1,1,1,3] [0,1,2,6,7,8,9,10,11,88] (k:=A0 (C9 kr ?_))))))))
     refine E3 (Q2 rfl (A6 (B5 (A0 (B8 (B7 [.tmp 6,.tmp 7,.tmp 8] [.string (mB #[10]),.int .i64 2,.bool true] (k:=?_)))))))
     exact ⟨.inr (.inr ⟨h2l,hg,rfl⟩),rfl⟩
   ·
    have h10:¬ (l.drop 1).take 1=[10]:=(O5 _ _).1 hc4
    have hg:¬ l.getD 1 0=10:=fun hn=>h10 (by rw [Go.Xml.drop_getD h2l,hn]; rfl)
    refine E3 (Q2 rfl (A6 (B5 (A0 (B8 (B7 [.tmp 6,.tmp 7,.tmp 8] [.string (mB #[10]),.int .i64 1,.bool true] (k:=?_)))))))
    exact ⟨.inr (.inl ⟨h1,fun h=>hg h.2,rfl⟩),rfl⟩
theorem aswStr_ (wb:Nat) (v:Value) (g:Grp) (t s:ByteArray) (hv:BOwn v g t) (hs:t.size+s.size≤140737488355328) (W0:World) (H:List Grp):Tri Tryz.prog 291 #[pt wb,.string s] W0 ([(wb,.cells #[v] 308 (0,0))]::g::H) (fun r H'=>r=.tuple #[.int .i64 (s.size:Int),.nilIface]∧∃ v' g',BOwn v' g' (t++s)∧H'=[(wb,.cells #[v'] 308 (0,0))]::g'::H):=by
 refine D4 15 Tryz.func291 ?_
 refine A1 (B9 (E':=[⟨0,[],pt wb⟩,⟨1,[],.string s⟩]) [0,0] [0,1] (k:=A0 (A1 (A3 (A4 (j:=3) [0,0,0] (k:=C4 0 0 rfl rfl (A4 (j:=5) [0] (k:=GL_append (i:=5) (ch:=[]) (t:=308) (tx:=9) (e:=5) (inf:=Tryz.t5) (s:=v) (x:=.string s) (n:=t.size) (m:=s.size) (j:=1) (cs:=(u8s t.data.toList)) (news:=(u8s s.data.toList)) (g:=g) (S:=(inB W0)) rfl rfl rfl rfl kr kr kr rfl rfl (.inr ⟨kr,rfl⟩) (fun _=>⟨rfl,kr⟩) (fun ⟨_,_,_,h⟩=>by cases h) kr kr kr rfl hv (SrcOf.str s) at_inB (by rw [show (u8s s.data.toList).length=_ from List.length_map _,Array.length_toList]; exact (Nat.mul_one _).symm) u8_one (by omega) (by show (t.size+s.size) * 1≤140737488355328; omega) (fun v1 g2 hO3=>?_)))))))))
 obtain ⟨a4,cap5,rfl,hcap6,hrd7⟩:=hO3.shape
 refine A4 (j:=7) [0] (k:=E4 0 0 (.slice a4 (t.size+s.size) cap5) rfl (B4 (E':=[⟨1,[],.string s⟩]) [] [1] (k:=A0 (A1 (G_p [0,0,0,0] [4,5] (k:=A0 (B8 (B7 [.tmp 4,.tmp 5] [.int .i64 (s.size:Int),.nilIface] (k:=?_)))))))))
 exact ⟨rfl,_,_,own_text hO3 rfl (by simp [ByteArray.size_append]),rfl⟩
theorem getSW_ (wb:Nat) (W0:World) (H:List Grp):Tri Tryz.prog 280 #[.iface 309 (pt wb)] W0 H (fun v H'=>v=.iface 309 (pt wb)∧H'=H):=by
 refine D4 16 Tryz.func280 ?_
 refine A1 (B9 (E':=[⟨0,[],.iface 309 (pt wb)⟩]) [0] [0] (k:=A0 (A1 (A3 (A4 (j:=1) [0] (k:=GL_assertI (i:=1) (ch:=[]) (xt:=311) (t:=313) (b:=true) (u:=.iface 309 (pt wb)) (v:=.tuple #[.iface 309 (pt wb),.bool true]) rfl rfl kr (fun w=>by kernel_rfl) kr kr kr (A8 [0,0,0,0,0] [0,3,4] (k:=A0 ?_))))))))
 refine A1 (A1 (G_p [0,0] [0,3,11] (k:=A0 (C9 kr (A9 (A0 (A1 (B9 (E':=[⟨2,[],.iface 309 (pt wb)⟩]) [0,0] [2] (k:=?_)))))))))
 refine A0 (B8 (B7 [.tmp 2] [.iface 309 (pt wb)] (k:=?_)))
 exact ⟨rfl,rfl⟩
theorem genWrite_ (b t n1 n2 wb:Nat) (v:Value) (g:Grp) (l:List UInt8) (hl:l.length≤1000000000000) (hv:BOwn v g (bk [])) (W0:World) (H:List Grp):Tri Tryz.prog 279 #[pt b,.iface 309 (pt wb),.string (bk l)] W0 ([(b,.cells (J1 [.string eB,.int .i64 0,.string eB,.pointer none,.slice (some ⟨t,0,none⟩) 2 2,.int .i64 2] (W2 256)) 268 (0,0))]::[(t,.cells #[.pointer none,pt n1] 263 (0,0))]::[(n1,.cells #[.string (mB #[10]),.int .i64 2,.string (mB #[10]),pt n2,.slice none 0 0] 266 (0,0))]::[(n2,.cells #[.string (mB #[10]),.int .i64 4,.string eB,.pointer none,.slice none 0 0] 266 (0,0))]::[(wb,.cells #[v] 308 (0,0))]::g::H) (fun r H'=>∃ n v' g',r=.tuple #[.int .i64 n,.nilIface]∧BOwn v' g' (bk (C1 l))∧H'=([(b,.cells (J1 [.string eB,.int .i64 0,.string eB,.pointer none,.slice (some ⟨t,0,none⟩) 2 2,.int .i64 2] (W2 256)) 268 (0,0))]::[(t,.cells #[.pointer none,pt n1] 263 (0,0))]::[(n1,.cells #[.string (mB #[10]),.int .i64 2,.string (mB #[10]),pt n2,.slice none 0 0] 266 (0,0))]::[(n2,.cells #[.string (mB #[10]),.int .i64 4,.string eB,.pointer none,.slice none 0 0] 266 (0,0))]::[(wb,.cells #[v'] 308 (0,0))]::g'::H)):=by
 have hbz:=C8 l
 refine D4 131 Tryz.func279 ?_
 refine A1 (G_p [0,0] [0,1,2,6,7] (k:=A0 (A1 (A3 (A4 (j:=1) [0] (k:=F8 Tryz.func280 (getSW_ wb _ _) (A8 [0] [0,2,6,7,8] (k:=A0 ?_))))))))
 refine A1 (G_p [0,0] [0,2,6,7,8,9] (k:=A0 (A1 (G_p [0] [0,2,6,7,8,9,11] (k:=A0 (A1 (A1 (G_p [0] [0,2,6,7,8,9,11,12] (k:=?_)))))))))
 refine A0 (B2 (I3 (EI:=(fun ξ:Nat × Nat × ByteArray × Value × Grp=>[⟨0,[],pt b⟩,⟨2,[],.string (bk l)⟩,⟨6,[],.int .i64 (ξ.2.2.1.size:Int)⟩,⟨7,[],.nilIface⟩,⟨8,[],.iface 309 (pt wb)⟩,⟨9,[],.int .i64 ((ξ.2.1:Nat):Int)⟩,⟨11,[],.bool false⟩,⟨12,[],.int .i64 ((ξ.1:Nat):Int)⟩])) (HI:=(fun ξ:Nat × Nat × ByteArray × Value × Grp=>([(b,.cells (J1 [.string eB,.int .i64 0,.string eB,.pointer none,.slice (some ⟨t,0,none⟩) 2 2,.int .i64 2] (W2 256)) 268 (0,0))]::[(t,.cells #[.pointer none,pt n1] 263 (0,0))]::[(n1,.cells #[.string (mB #[10]),.int .i64 2,.string (mB #[10]),pt n2,.slice none 0 0] 266 (0,0))]::[(n2,.cells #[.string (mB #[10]),.int .i64 4,.string eB,.pointer none,.slice none 0 0] 266 (0,0))]::[(wb,.cells #[ξ.2.2.2.1] 308 (0,0))]::ξ.2.2.2.2::H))) (Φ:=(fun ξ:Nat × Nat × ByteArray × Value × Grp=>(ξ.1≤l.length+1)∧(ξ.2.1≤ξ.1)∧(ξ.2.1≤l.length)∧(ξ.2.2.1.size≤ξ.2.1)∧(BOwn ξ.2.2.2.1 ξ.2.2.2.2 ξ.2.2.1)∧(C1 l=ξ.2.2.1.data.toList++((l.drop ξ.2.1).take (ξ.1 - ξ.2.1)++C1 (l.drop ξ.1))))) (μ:=(fun ξ:Nat × Nat × ByteArray × Value × Grp=>l.length+2 - ξ.1)) (s0:=(0,0,bk [],v,g)) [0,2,6,7,8,9,11,12] kr rfl ⟨(Nat.zero_le _),(Nat.le_refl _),(Nat.zero_le _),(Nat.le_refl _),hv,rfl⟩ ?_))
 rintro ⟨i,last,q,v,g⟩ ⟨hil,hla,hll,hq,hv,hT⟩
 dsimp only at hil hla hll hq hv hT
 refine A1 (A1 (G_p [0,0,0,0] [0,2,6,7,8,9,11,12,22] (k:=A0 (B0 (b:=decide (((i:Nat):Int)≤((bk l).size:Int))) kr (fun hc1=>?_) (fun hc1=>?_)))))
 ·
  simp only [decide_eq_true_eq] at hc1
  have hle:=hc1
  refine A9 (A0 (B2 (A1 (A1 (A3 (A4 (j:=9) [0,0,0,0,0,0,0,0,0] (k:=C2 (ch:=[(27,true)]) (b:=b) (off:=1) (v:=.int .i64 0) (hA:=At.grp 0 0 rfl rfl) (hv:=L8 rfl) (k:=A8 [0,6] [0,2,6,7,8,9,11,12,34] (k:=?_)))))))))
  refine A0 (B0 (b:=(((i:Nat):Int) != ((bk l).size:Int))&&true) kr (fun hc2=>?_) (fun hc2=>?_))
  ·
   simp only [bne_iff_ne,ne_eq,Bool.and_true] at hc2
   have hlt:=hc2
   refine A1 ?_
   rcases byte3 (l.getD i 0) with hb | hb | hb
   ·
    refine H0 (k:=A4 (j:=3) [0,0,0] (k:=I9 (bk l) ((i:Nat):Int) (by intro _; exact ⟨by omega,by omega⟩) ?_))
    have hb3:=G6 (bk l) ((i:Nat):Int)
    refine A4 (j:=6) [0,0] (k:=E2 (ch:=[]) (b:=b) (off:=6) (len:=256) (sz:=1) (e:=5) (kd:=.u8) (j:=B1 (bk l) ((i:Nat):Int)) (hb:=(fun _=>by exact ⟨by omega,by omega⟩)) (k:=C2 (ch:=[]) (b:=b) (off:=6+Int.toNat (B1 (bk l) ((i:Nat):Int)) * 1) (v:=.int .u8 (m2 (l.getD i 0).toNat)) (hA:=At.grp 0 0 rfl rfl) (hv:=grpC_at (k:=(l.getD i 0).toNat) rfl (by rw [byteJ]; omega) (l.getD i 0).toNat_lt (finK_end (l.getD i 0).toNat_lt)) (k:=F6 42 (x:=.int .u8 (m2 (l.getD i 0).toNat)) (y:=.int .u8 1) (by rw [show m2 (l.getD i 0).toNat=1 by rw [hb]; rfl]) (A8 [0,0] [0,2,6,7,8,9,11,12,13] (k:=A0 (A1 (A3 (A4 (j:=4) [0,0,0,0] (k:=?_)))))))))
    refine C2 (ch:=[]) (b:=b) (off:=5) (v:=.int .i64 2) (hA:=At.grp 0 0 rfl rfl) (hv:=L8 rfl) (k:=A4 (j:=11) [0,0,0,0,0,0] (k:=C2 (ch:=[(50,false)]) (b:=b) (off:=4) (v:=.slice (some ⟨t,0,none⟩) 2 2) (hA:=At.grp 0 0 rfl rfl) (hv:=L8 rfl) (k:=A4 (j:=13) [0] (k:=J0 (ch:=[(50,false)]) (a:=(some ⟨t,0,none⟩)) (len:=2) (cap:=2) (kd:=.i64) (j:=1) (e:=263) (sz:=1) (S:=(inG [(t,.cells #[.pointer none,pt n1] 263 (0,0))])) (cs:=[.pointer none,pt n1]) (hrd:=Rd.lit) (hb:=(fun hc=>by exact ⟨by decide,by decide,by intro h; cases h⟩)) (k:=GL_env (E':=[⟨57,[(50,false)],.pointer (some ⟨t,1,none⟩)⟩,⟨56,[(50,false)],.int .i64 1⟩,⟨55,[(50,false)],.slice (some ⟨t,0,none⟩) 2 2⟩,⟨54,[(50,false)],.pointer (some ⟨b,4,none⟩)⟩,⟨53,[(50,false)],pt b⟩,⟨52,[(50,false)],pt b⟩,⟨51,[(50,false)],pt b⟩,⟨50,[],.bool false⟩,⟨49,[],.bool false⟩,⟨48,[],.int .i64 2⟩,⟨47,[],.pointer (some ⟨b,5,none⟩)⟩,⟨46,[],pt b⟩,⟨45,[],pt b⟩,⟨44,[],.int .i64 1⟩,⟨0,[],pt b⟩,⟨2,[],.string (bk l)⟩,⟨6,[],.int .i64 (q.size:Int)⟩,⟨7,[],.nilIface⟩,⟨8,[],.iface 309 (pt wb)⟩,⟨9,[],.int .i64 ((last:Nat):Int)⟩,⟨11,[],.bool false⟩,⟨12,[],.int .i64 ((i:Nat):Int)⟩,⟨13,[],.int .i64 1⟩]) kr (C2 (ch:=[(50,false)]) (b:=t) (off:=1) (v:=pt n1) (hA:=At.grp 1 0 rfl rfl) (k:=A8 [0,3] [0,2,6,7,8,9,11,12,60] (k:=A0 ?_))))))))
    refine C9 kr (A9 (A0 (A1 (A3 (A4 (j:=3) [0,0,0] (k:=O2 (bk l) ((i:Nat):Int) ((bk l).size:Int) (by intro _; exact ⟨by omega,by omega,by omega⟩) (F6 67 (x:=.string ((bk l).extract i (bk l).size)) (y:=.string (bk (l.drop i))) (by rw [ext_bk]) (A4 (j:=5) [0] (k:=?_)))))))))
    refine E0 Tryz.func281 (lookup_ b t n1 n2 (l.drop i) (by rw [List.length_drop]; omega) (.inr (by rw [Go.Xml.drop_getD (by omega)]; exact hb)) _ _) ?_
    rintro _ _ ⟨⟨hlk,rfl⟩ | ⟨hlk,hlk2,rfl⟩ | ⟨hlk,hlk2,rfl⟩,rfl⟩
    ·
     exact absurd hlk (fun h=>by have:=congrArg List.length h; rw [List.length_drop,List.length_nil] at this; omega)
    ·
     have hxs:((bk l).extract last i).size=i - last:=by rw [ByteArray.size_extract]; omega
     have hno:¬ (i+1<l.length∧l.getD (i+1) 0=10):=by
      rintro ⟨h1,h2⟩
      exact hlk2 ⟨by rw [List.length_drop]; omega,by rw [List.getD_eq_getElem?_getD,List.getElem?_drop,← List.getD_eq_getElem?_getD]; exact h2⟩
     refine A8 [0,0,0,0,0,0,0] [0,2,6,7,8,9,12,14,15,16] (k:=A0 (A1 (B9 (E':=[⟨0,[],pt b⟩,⟨2,[],.string (bk l)⟩,⟨6,[],.int .i64 (q.size:Int)⟩,⟨7,[],.nilIface⟩,⟨8,[],.iface 309 (pt wb)⟩,⟨9,[],.int .i64 ((last:Nat):Int)⟩,⟨11,[],.bool false⟩,⟨12,[],.int .i64 ((i:Nat):Int)⟩,⟨14,[],.string (mB #[10])⟩,⟨15,[],.int .i64 1⟩,⟨16,[],.bool true⟩]) [0,0,0,0,2,0] [0,2,6,7,8,9,11,12,14,15,16] (k:=A0 (A1 (A1 (G_p [0] [0,2,6,7,8,9,11,12,14,15,78] (k:=A0 ?_))))))))
     refine C7 kr (A1 (H8 ([(b,.cells (J1 [.string eB,.int .i64 0,.string eB,.pointer none,.slice (some ⟨t,0,none⟩) 2 2,.int .i64 2] (W2 256)) 268 (0,0))]::[(t,.cells #[.pointer none,pt n1] 263 (0,0))]::[(n1,.cells #[.string (mB #[10]),.int .i64 2,.string (mB #[10]),pt n2,.slice none 0 0] 266 (0,0))]::[(n2,.cells #[.string (mB #[10]),.int .i64 4,.string eB,.pointer none,.slice none 0 0] 266 (0,0))]::H) kr (G5 (fuel:=10) [(0,0),(1,0),(2,0),(3,0)] (fun w h=>(h.pk 2 [0,0,0,0])) (k:=F5 4 kr (fun w h=>(h.pk 2 [0,0,0,0])) (O2 (bk l) ((last : Nat) : Int) ((i : Nat) : Int) (by intro _; exact ⟨by omega,by omega,by omega⟩) (G4 kr rfl)) (G5 (fuel:=8) [(5,0)] (fun w h=>(h.pk 2 [0,0,0,0])) (k:=GH_nilF (fn:=.method "WriteString") (fa:=#[.iface 309 (pt wb)]) (fc:=#[]) 6 (hrun:=(fun w=>by kernel_rfl)) (hL:=(fun w h=>(h.pk 2 [0,0,0,0]))) (k:=G5 (fuel:=6) [(7,0)] (fun w h=>(h.pk 2 [0,0,0,0])) (k:=D7 8 (k:=?_)))))))))
     refine O0 0 [4,4] (S1 (t:=309) (rv:=pt wb) (f:=291) (vs:=[.string ((bk l).extract last i)]) (av:=#[pt wb,.string ((bk l).extract last i)]) (hm:=(fun _=>by kernel_rfl)) (hc:=aswStr_ wb (v) g q ((bk l).extract last i) hv (by first | (rw [ByteArray.size_extract]; omega) | (rw [ByteArray.size_append,ByteArray.size_extract]; omega) | (show _+1≤_; rw [ByteArray.size_append,ByteArray.size_extract]; omega)) _ _) (k:=?_))
     rintro _ _ ⟨rfl,v4,g5,hO6,rfl⟩
     refine C0 kr (fun w h=>(h.pk 2 [2,2,2,2])) (G5 (fuel:=0) [(9,0),(10,0),(11,0),(12,0),(13,0)] (fun w h=>(h.pk 2 [2,2,2,2])) (k:=G3 (E':=[⟨0,[],pt b⟩,⟨2,[],.string (bk l)⟩,⟨6,[],.int .i64 (q.size:Int)⟩,⟨7,[],.nilIface⟩,⟨8,[],.iface 309 (pt wb)⟩,⟨10,[],.int .i64 (((bk l).extract last i).size:Int)⟩,⟨11,[],.bool false⟩,⟨12,[],.int .i64 ((i:Nat):Int)⟩,⟨14,[],.string (mB #[10])⟩,⟨15,[],.int .i64 1⟩]) [0,2,6,7,8,10,11,12,14,15] (k:=A0 (A1 (A3 (A4 (j:=3) [0,0,0] (k:=D0 93 ((q.size:Int)+(((bk l).extract last i).size:Int)) (by omega) (by omega) kr (A8 [0] [0,2,6,7,8,11,12,14,15] (k:=?_)))))))))
     refine A0 (A1 (A1 (A3 (A4 (j:=1) [0] (k:=P1 (ch:=[]) (v:=.nilIface) (e:=true) true (hv:=.inl ⟨rfl,rfl⟩) (k:=A8 [] [0,2,6,7,8,11,12,14,15,95] (k:=A0 (C9 kr ?_))))))))
     refine A9 (A0 (A1 (A3 (A4 (j:=2) [0,0] (k:=S1 (t:=309) (rv:=pt wb) (f:=291) (vs:=[.string (mB #[10])]) (av:=#[pt wb,.string (mB #[10])]) (hm:=(fun _=>by kernel_rfl)) (hc:=aswStr_ wb (v4) g5 (q++((bk l).extract last i)) (mB #[10]) hO6 (by first | (rw [ByteArray.size_extract]; omega) | (rw [ByteArray.size_append,ByteArray.size_extract]; omega) | (show _+1≤_; rw [ByteArray.size_append,ByteArray.size_extract]; omega)) _ _) (k:=?_))))))
     rintro _ _ ⟨rfl,v8,g9,hO10,rfl⟩
     refine A8 [0,0,0,0,0] [0,2,6,7,8,10,11,12,15] (k:=A0 (A1 (A3 (A4 (j:=3) [0,0,0] (k:=D0 104 (((q.size:Int)+(((bk l).extract last i).size:Int))+1) (by omega) (by omega) kr (A8 [0] [0,2,6,7,8,11,12,15] (k:=A0 (A1 ?_))))))))
     refine A1 (A3 (A4 (j:=1) [0] (k:=P1 (ch:=[]) (v:=.nilIface) (e:=true) true (hv:=.inl ⟨rfl,rfl⟩) (k:=A8 [] [0,2,6,7,8,11,12,15,106] (k:=A0 (C9 kr (A9 (A0 ?_))))))))
     refine A1 (A3 (A4 (j:=3) [0,0,0] (k:=D0 109 (((i:Nat):Int)+1) (by omega) (by omega) kr (B4 (E':=[⟨0,[],pt b⟩,⟨2,[],.string (bk l)⟩,⟨6,[],.int .i64 (((q.size:Int)+(((bk l).extract last i).size:Int))+1)⟩,⟨7,[],.nilIface⟩,⟨8,[],.iface 309 (pt wb)⟩,⟨11,[],.bool false⟩,⟨12,[],.int .i64 (((i:Nat):Int)+1)⟩]) [0] [0,2,6,7,8,11,12] (k:=A0 (A1 (G_p [0,0] [0,2,6,7,8,9,11,12] (k:=A0 ?_))))))))
     refine E3 (A6 (B5 ?_))
     have hn6:((q.size:Int)+(((bk l).extract last i).size:Int))+1=(((q++((bk l).extract last i))++(mB #[10])).size:Int):=by rw [ByteArray.size_append,ByteArray.size_append,hxs,show (mB #[10]).size=1 from rfl]; omega
     refine Q1 (E':=[⟨0,[],pt b⟩,⟨2,[],.string (bk l)⟩,⟨6,[],.int .i64 (((q.size:Int)+(((bk l).extract last i).size:Int))+1)⟩,⟨7,[],.nilIface⟩,⟨8,[],.iface 309 (pt wb)⟩,⟨9,[],.int .i64 (((i:Nat):Int)+1)⟩,⟨11,[],.bool false⟩,⟨12,[],.int .i64 (((i:Nat):Int)+1)⟩]) kr (Q1 (E':=[⟨0,[],pt b⟩,⟨2,[],.string (bk l)⟩,⟨6,[],.int .i64 (((q++((bk l).extract last i))++(mB #[10])).size:Int)⟩,⟨7,[],.nilIface⟩,⟨8,[],.iface 309 (pt wb)⟩,⟨9,[],.int .i64 (((i:Nat):Int)+1)⟩,⟨11,[],.bool false⟩,⟨12,[],.int .i64 (((i:Nat):Int)+1)⟩]) (by rw [hn6]) (E9 0 [2,2,2,2,0,0] (D2 (s':=(i+1,i+1,((q++((bk l).extract last i))++(mB #[10])),v8,g9)) [0,2,6,7,8,9,11,12] kr kr ⟨(by dsimp only; omega),(by dsimp only; omega),(by dsimp only; omega),(by dsimp only; rw [ByteArray.size_append,ByteArray.size_append,hxs,show (mB #[10]).size=1 from rfl]; omega),hO10,(by dsimp only; rw [app_list,app_list,ext_mid]; exact lin_one hT (by omega) hb hno)⟩ (by dsimp only; omega))))
    ·
     have hxs:((bk l).extract last i).size=i - last:=by rw [ByteArray.size_extract]; omega
     have hi2:i+1<l.length:=by rw [List.length_drop] at hlk; omega
     have hyes:l.getD (i+1) 0=10:=by rw [List.getD_eq_getElem?_getD,List.getElem?_drop,← List.getD_eq_getElem?_getD] at hlk2; exact hlk2
     refine A8 [0,0,0,0,0,0,0] [0,2,6,7,8,9,12,14,15,16] (k:=A0 (A1 (B9 (E':=[⟨0,[],pt b⟩,⟨2,[],.string (bk l)⟩,⟨6,[],.int .i64 (q.size:Int)⟩,⟨7,[],.nilIface⟩,⟨8,[],.iface 309 (pt wb)⟩,⟨9,[],.int .i64 ((last:Nat):Int)⟩,⟨11,[],.bool false⟩,⟨12,[],.int .i64 ((i:Nat):Int)⟩,⟨14,[],.string (mB #[10])⟩,⟨15,[],.int .i64 2⟩,⟨16,[],.bool true⟩]) [0,0,0,0,2,0] [0,2,6,7,8,9,11,12,14,15,16] (k:=A0 (A1 (A1 (G_p [0] [0,2,6,7,8,9,11,12,14,15,78] (k:=A0 ?_))))))))
     refine C7 kr (A1 (H8 ([(b,.cells (J1 [.string eB,.int .i64 0,.string eB,.pointer none,.slice (some ⟨t,0,none⟩) 2 2,.int .i64 2] (W2 256)) 268 (0,0))]::[(t,.cells #[.pointer none,pt n1] 263 (0,0))]::[(n1,.cells #[.string (mB #[10]),.int .i64 2,.string (mB #[10]),pt n2,.slice none 0 0] 266 (0,0))]::[(n2,.cells #[.string (mB #[10]),.int .i64 4,.string eB,.pointer none,.slice none 0 0] 266 (0,0))]::H) kr (G5 (fuel:=10) [(0,0),(1,0),(2,0),(3,0)] (fun w h=>(h.pk 2 [0,0,0,0])) (k:=F5 4 kr (fun w h=>(h.pk 2 [0,0,0,0])) (O2 (bk l) ((last : Nat) : Int) ((i : Nat) : Int) (by intro _; exact ⟨by omega,by omega,by omega⟩) (G4 kr rfl)) (G5 (fuel:=8) [(5,0)] (fun w h=>(h.pk 2 [0,0,0,0])) (k:=GH_nilF (fn:=.method "WriteString") (fa:=#[.iface 309 (pt wb)]) (fc:=#[]) 6 (hrun:=(fun w=>by kernel_rfl)) (hL:=(fun w h=>(h.pk 2 [0,0,0,0]))) (k:=G5 (fuel:=6) [(7,0)] (fun w h=>(h.pk 2 [0,0,0,0])) (k:=D7 8 (k:=?_)))))))))
     refine O0 0 [4,4] (S1 (t:=309) (rv:=pt wb) (f:=291) (vs:=[.string ((bk l).extract last i)]) (av:=#[pt wb,.string ((bk l).extract last i)]) (hm:=(fun _=>by kernel_rfl)) (hc:=aswStr_ wb (v) g q ((bk l).extract last i) hv (by first | (rw [ByteArray.size_extract]; omega) | (rw [ByteArray.size_append,ByteArray.size_extract]; omega) | (show _+1≤_; rw [ByteArray.size_append,ByteArray.size_extract]; omega)) _ _) (k:=?_))
     rintro _ _ ⟨rfl,v13,g14,hO15,rfl⟩
     refine C0 kr (fun w h=>(h.pk 2 [2,2,2,2])) (G5 (fuel:=0) [(9,0),(10,0),(11,0),(12,0),(13,0)] (fun w h=>(h.pk 2 [2,2,2,2])) (k:=G3 (E':=[⟨0,[],pt b⟩,⟨2,[],.string (bk l)⟩,⟨6,[],.int .i64 (q.size:Int)⟩,⟨7,[],.nilIface⟩,⟨8,[],.iface 309 (pt wb)⟩,⟨10,[],.int .i64 (((bk l).extract last i).size:Int)⟩,⟨11,[],.bool false⟩,⟨12,[],.int .i64 ((i:Nat):Int)⟩,⟨14,[],.string (mB #[10])⟩,⟨15,[],.int .i64 2⟩]) [0,2,6,7,8,10,11,12,14,15] (k:=A0 (A1 (A3 (A4 (j:=3) [0,0,0] (k:=D0 93 ((q.size:Int)+(((bk l).extract last i).size:Int)) (by omega) (by omega) kr (A8 [0] [0,2,6,7,8,11,12,14,15] (k:=?_)))))))))
     refine A0 (A1 (A1 (A3 (A4 (j:=1) [0] (k:=P1 (ch:=[]) (v:=.nilIface) (e:=true) true (hv:=.inl ⟨rfl,rfl⟩) (k:=A8 [] [0,2,6,7,8,11,12,14,15,95] (k:=A0 (C9 kr ?_))))))))
     refine A9 (A0 (A1 (A3 (A4 (j:=2) [0,0] (k:=S1 (t:=309) (rv:=pt wb) (f:=291) (vs:=[.string (mB #[10])]) (av:=#[pt wb,.string (mB #[10])]) (hm:=(fun _=>by kernel_rfl)) (hc:=aswStr_ wb (v13) g14 (q++((bk l).extract last i)) (mB #[10]) hO15 (by first | (rw [ByteArray.size_extract]; omega) | (rw [ByteArray.size_append,ByteArray.size_extract]; omega) | (show _+1≤_; rw [ByteArray.size_append,ByteArray.size_extract]; omega)) _ _) (k:=?_))))))
     rintro _ _ ⟨rfl,v17,g18,hO19,rfl⟩
     refine A8 [0,0,0,0,0] [0,2,6,7,8,10,11,12,15] (k:=A0 (A1 (A3 (A4 (j:=3) [0,0,0] (k:=D0 104 (((q.size:Int)+(((bk l).extract last i).size:Int))+1) (by omega) (by omega) kr (A8 [0] [0,2,6,7,8,11,12,15] (k:=A0 (A1 ?_))))))))
     refine A1 (A3 (A4 (j:=1) [0] (k:=P1 (ch:=[]) (v:=.nilIface) (e:=true) true (hv:=.inl ⟨rfl,rfl⟩) (k:=A8 [] [0,2,6,7,8,11,12,15,106] (k:=A0 (C9 kr (A9 (A0 ?_))))))))
     refine A1 (A3 (A4 (j:=3) [0,0,0] (k:=D0 109 (((i:Nat):Int)+2) (by omega) (by omega) kr (B4 (E':=[⟨0,[],pt b⟩,⟨2,[],.string (bk l)⟩,⟨6,[],.int .i64 (((q.size:Int)+(((bk l).extract last i).size:Int))+1)⟩,⟨7,[],.nilIface⟩,⟨8,[],.iface 309 (pt wb)⟩,⟨11,[],.bool false⟩,⟨12,[],.int .i64 (((i:Nat):Int)+2)⟩]) [0] [0,2,6,7,8,11,12] (k:=A0 (A1 (G_p [0,0] [0,2,6,7,8,9,11,12] (k:=A0 ?_))))))))
     refine E3 (A6 (B5 ?_))
     have hn6:((q.size:Int)+(((bk l).extract last i).size:Int))+1=(((q++((bk l).extract last i))++(mB #[10])).size:Int):=by rw [ByteArray.size_append,ByteArray.size_append,hxs,show (mB #[10]).size=1 from rfl]; omega
     refine Q1 (E':=[⟨0,[],pt b⟩,⟨2,[],.string (bk l)⟩,⟨6,[],.int .i64 (((q.size:Int)+(((bk l).extract last i).size:Int))+1)⟩,⟨7,[],.nilIface⟩,⟨8,[],.iface 309 (pt wb)⟩,⟨9,[],.int .i64 (((i:Nat):Int)+2)⟩,⟨11,[],.bool false⟩,⟨12,[],.int .i64 (((i:Nat):Int)+2)⟩]) kr (Q1 (E':=[⟨0,[],pt b⟩,⟨2,[],.string (bk l)⟩,⟨6,[],.int .i64 (((q++((bk l).extract last i))++(mB #[10])).size:Int)⟩,⟨7,[],.nilIface⟩,⟨8,[],.iface 309 (pt wb)⟩,⟨9,[],.int .i64 (((i:Nat):Int)+2)⟩,⟨11,[],.bool false⟩,⟨12,[],.int .i64 (((i:Nat):Int)+2)⟩]) (by rw [hn6]) (E9 0 [2,2,2,2,0,0] (D2 (s':=(i+2,i+2,((q++((bk l).extract last i))++(mB #[10])),v17,g18)) [0,2,6,7,8,9,11,12] kr kr ⟨(by dsimp only; omega),(by dsimp only; omega),(by dsimp only; omega),(by dsimp only; rw [ByteArray.size_append,ByteArray.size_append,hxs,show (mB #[10]).size=1 from rfl]; omega),hO19,(by dsimp only; rw [app_list,app_list,ext_mid]; exact lin_two hT hi2 hb hyes)⟩ (by dsimp only; omega))))
   ·
    refine H0 (k:=A4 (j:=3) [0,0,0] (k:=I9 (bk l) ((i:Nat):Int) (by intro _; exact ⟨by omega,by omega⟩) ?_))
    have hb22:=G6 (bk l) ((i:Nat):Int)
    refine A4 (j:=6) [0,0] (k:=E2 (ch:=[]) (b:=b) (off:=6) (len:=256) (sz:=1) (e:=5) (kd:=.u8) (j:=B1 (bk l) ((i:Nat):Int)) (hb:=(fun _=>by exact ⟨by omega,by omega⟩)) (k:=C2 (ch:=[]) (b:=b) (off:=6+Int.toNat (B1 (bk l) ((i:Nat):Int)) * 1) (v:=.int .u8 (m2 (l.getD i 0).toNat)) (hA:=At.grp 0 0 rfl rfl) (hv:=grpC_at (k:=(l.getD i 0).toNat) rfl (by rw [byteJ]; omega) (l.getD i 0).toNat_lt (finK_end (l.getD i 0).toNat_lt)) (k:=F6 42 (x:=.int .u8 (m2 (l.getD i 0).toNat)) (y:=.int .u8 0) (by rw [show m2 (l.getD i 0).toNat=0 by rw [hb]; rfl]) (A8 [0,0] [0,2,6,7,8,9,11,12,13] (k:=A0 (A1 (A3 (A4 (j:=4) [0,0,0,0] (k:=?_)))))))))
    refine C2 (ch:=[]) (b:=b) (off:=5) (v:=.int .i64 2) (hA:=At.grp 0 0 rfl rfl) (hv:=L8 rfl) (k:=A4 (j:=11) [0,0,0,0,0,0] (k:=C2 (ch:=[(50,false)]) (b:=b) (off:=4) (v:=.slice (some ⟨t,0,none⟩) 2 2) (hA:=At.grp 0 0 rfl rfl) (hv:=L8 rfl) (k:=A4 (j:=13) [0] (k:=J0 (ch:=[(50,false)]) (a:=(some ⟨t,0,none⟩)) (len:=2) (cap:=2) (kd:=.i64) (j:=0) (e:=263) (sz:=1) (S:=(inG [(t,.cells #[.pointer none,pt n1] 263 (0,0))])) (cs:=[.pointer none,pt n1]) (hrd:=Rd.lit) (hb:=(fun hc=>by exact ⟨by decide,by decide,by intro h; cases h⟩)) (k:=GL_env (E':=[⟨57,[(50,false)],pt t⟩,⟨56,[(50,false)],.int .i64 0⟩,⟨55,[(50,false)],.slice (some ⟨t,0,none⟩) 2 2⟩,⟨54,[(50,false)],.pointer (some ⟨b,4,none⟩)⟩,⟨53,[(50,false)],pt b⟩,⟨52,[(50,false)],pt b⟩,⟨51,[(50,false)],pt b⟩,⟨50,[],.bool false⟩,⟨49,[],.bool false⟩,⟨48,[],.int .i64 2⟩,⟨47,[],.pointer (some ⟨b,5,none⟩)⟩,⟨46,[],pt b⟩,⟨45,[],pt b⟩,⟨44,[],.int .i64 0⟩,⟨0,[],pt b⟩,⟨2,[],.string (bk l)⟩,⟨6,[],.int .i64 (q.size:Int)⟩,⟨7,[],.nilIface⟩,⟨8,[],.iface 309 (pt wb)⟩,⟨9,[],.int .i64 ((last:Nat):Int)⟩,⟨11,[],.bool false⟩,⟨12,[],.int .i64 ((i:Nat):Int)⟩,⟨13,[],.int .i64 0⟩]) kr (C2 (ch:=[(50,false)]) (b:=t) (off:=0) (v:=.pointer none) (hA:=At.grp 1 0 rfl rfl) (k:=A8 [0,3] [0,2,6,7,8,9,11,12,60] (k:=A0 ?_))))))))
    refine C7 kr (A1 (A3 (A4 (j:=2) [0,0] (k:=D0 62 (((i:Nat):Int)+1) (by omega) (by omega) kr (A8 [0] [0,2,6,7,8,9,11,12] (k:=A0 (E3 (A6 ?_))))))))
    refine B5 (D2 (s':=(i+1,last,q,v,g)) [0,2,6,7,8,9,11,12] kr rfl ⟨(by dsimp only; omega),(by dsimp only; omega),(by dsimp only; omega),(by dsimp only; omega),hv,(by dsimp only; exact lin_step hT hla (by omega) (by first | exact hb.1 | (rw [hb]; decide)))⟩ (by dsimp only; omega))
   ·
    refine H0 (k:=A4 (j:=3) [0,0,0] (k:=I9 (bk l) ((i:Nat):Int) (by intro _; exact ⟨by omega,by omega⟩) ?_))
    have hb24:=G6 (bk l) ((i:Nat):Int)
    refine A4 (j:=6) [0,0] (k:=E2 (ch:=[]) (b:=b) (off:=6) (len:=256) (sz:=1) (e:=5) (kd:=.u8) (j:=B1 (bk l) ((i:Nat):Int)) (hb:=(fun _=>by exact ⟨by omega,by omega⟩)) (k:=C2 (ch:=[]) (b:=b) (off:=6+Int.toNat (B1 (bk l) ((i:Nat):Int)) * 1) (v:=.int .u8 (m2 (l.getD i 0).toNat)) (hA:=At.grp 0 0 rfl rfl) (hv:=grpC_at (k:=(l.getD i 0).toNat) rfl (by rw [byteJ]; omega) (l.getD i 0).toNat_lt (finK_end (l.getD i 0).toNat_lt)) (k:=F6 42 (x:=.int .u8 (m2 (l.getD i 0).toNat)) (y:=.int .u8 2) (by rw [hb.2]) (A8 [0,0] [0,2,6,7,8,9,11,12,13] (k:=A0 (A1 (A3 (A4 (j:=4) [0,0,0,0] (k:=?_)))))))))
    refine C2 (ch:=[]) (b:=b) (off:=5) (v:=.int .i64 2) (hA:=At.grp 0 0 rfl rfl) (hv:=L8 rfl) (k:=A8 [0,0,1,1,1,1,1,1,1,1,1,2] [0,2,6,7,8,9,11,12,60] (k:=A0 (C7 kr (A1 (A3 (A4 (j:=2) [0,0] (k:=D0 62 (((i:Nat):Int)+1) (by omega) (by omega) kr (A8 [0] [0,2,6,7,8,9,11,12] (k:=?_)))))))))
    refine A0 (E3 (A6 (B5 (D2 (s':=(i+1,last,q,v,g)) [0,2,6,7,8,9,11,12] kr rfl ⟨(by dsimp only; omega),(by dsimp only; omega),(by dsimp only; omega),(by dsimp only; omega),hv,(by dsimp only; exact lin_step hT hla (by omega) (by first | exact hb.1 | (rw [hb]; decide)))⟩ (by dsimp only; omega)))))
  ·
   simp only [bne_eq_false_iff_eq,Bool.and_true] at hc2
   have heq:=hc2
   refine A9 (A0 (A1 (A3 (A4 (j:=3) [0,0,0] (k:=O2 (bk l) ((i:Nat):Int) ((bk l).size:Int) (by intro _; exact ⟨by omega,by omega,by omega⟩) (F6 67 (x:=.string ((bk l).extract i (bk l).size)) (y:=.string (bk (l.drop i))) (by rw [ext_bk]) (A4 (j:=5) [0] (k:=E0 Tryz.func281 (lookup_ b t n1 n2 (l.drop i) (by rw [List.length_drop]; omega) (.inl (List.drop_eq_nil_of_le (by omega))) _ _) ?_))))))))
   rintro _ _ ⟨⟨hlk,rfl⟩ | ⟨hlk,hlk2,rfl⟩ | ⟨hlk,hlk2,rfl⟩,rfl⟩
   ·
    refine A8 [0,0,0,0,0,0,0] [0,2,6,7,8,9,12,14,15,16] (k:=A0 (A1 (G_p [0,0,1,1,3,0] [0,2,6,7,8,9,11,12,14,15,16] (k:=A0 (A1 (A1 (G_p [0] [0,2,6,7,8,9,11,12,14,15,78] (k:=A0 ?_))))))))
    refine C9 kr (A9 (A0 (A3 (A4 (j:=2) [0,0] (k:=D0 112 (((i:Nat):Int)+1) (by omega) (by omega) kr (B4 (E':=[⟨0,[],pt b⟩,⟨2,[],.string (bk l)⟩,⟨6,[],.int .i64 (q.size:Int)⟩,⟨7,[],.nilIface⟩,⟨8,[],.iface 309 (pt wb)⟩,⟨9,[],.int .i64 ((last:Nat):Int)⟩,⟨11,[],.bool false⟩,⟨12,[],.int .i64 (((i:Nat):Int)+1)⟩]) [0] [0,2,6,7,8,9,11,12] (k:=B6 (D2 (s':=(i+1,last,q,v,g)) [0,2,6,7,8,9,11,12] kr rfl ⟨(by dsimp only; omega),(by dsimp only; omega),(by dsimp only; omega),(by dsimp only; omega),hv,(by dsimp only; exact lin_at hT hla (by omega))⟩ (by dsimp only; omega)))))))))
   ·
    exact absurd (List.drop_eq_nil_of_le (by omega)) hlk
   ·
    rw [List.length_drop] at hlk; omega
 ·
  simp only [decide_eq_false_iff_not] at hc1
  have hgt:=hc1
  refine E3 (A6 (A6 (B5 (A0 (A1 (A1 (G_p [0,0,0,0] [2,6,7,8,9,116] (k:=A0 ?_))))))))
  refine B0 (b:=((last:Nat):Int) != ((bk l).size:Int)) kr (fun hc27=>?_) (fun hc27=>?_)
  ·
   simp only [bne_iff_ne,ne_eq] at hc27
   have hxs:((bk l).extract last (bk l).size).size=l.length - last:=by rw [ByteArray.size_extract]; omega
   refine A1 (H8 ([(b,.cells (J1 [.string eB,.int .i64 0,.string eB,.pointer none,.slice (some ⟨t,0,none⟩) 2 2,.int .i64 2] (W2 256)) 268 (0,0))]::[(t,.cells #[.pointer none,pt n1] 263 (0,0))]::[(n1,.cells #[.string (mB #[10]),.int .i64 2,.string (mB #[10]),pt n2,.slice none 0 0] 266 (0,0))]::[(n2,.cells #[.string (mB #[10]),.int .i64 4,.string eB,.pointer none,.slice none 0 0] 266 (0,0))]::H) kr (G5 (fuel:=10) [(0,0),(1,0),(2,0)] (fun w h=>(h.pk 2 [0,0,0,0])) (k:=F5 3 kr (fun w h=>(h.pk 2 [0,0,0,0])) (O2 (bk l) ((last : Nat) : Int) ((bk l).size : Int) (by intro _; exact ⟨by omega,by omega,by omega⟩) (G4 kr rfl)) (G5 (fuel:=8) [(4,0)] (fun w h=>(h.pk 2 [0,0,0,0])) (k:=GH_nilF (fn:=.method "WriteString") (fa:=#[.iface 309 (pt wb)]) (fc:=#[]) 5 (hrun:=(fun w=>by kernel_rfl)) (hL:=(fun w h=>(h.pk 2 [0,0,0,0]))) (k:=G5 (fuel:=6) [(6,0)] (fun w h=>(h.pk 2 [0,0,0,0])) (k:=D7 7 (k:=O0 0 [4,4] ?_))))))))
   refine S1 (t:=309) (rv:=pt wb) (f:=291) (vs:=[.string ((bk l).extract last (bk l).size)]) (av:=#[pt wb,.string ((bk l).extract last (bk l).size)]) (hm:=(fun _=>by kernel_rfl)) (hc:=aswStr_ wb (v) g q ((bk l).extract last (bk l).size) hv (by first | (rw [ByteArray.size_extract]; omega) | (rw [ByteArray.size_append,ByteArray.size_extract]; omega) | (show _+1≤_; rw [ByteArray.size_append,ByteArray.size_extract]; omega)) _ _) (k:=?_)
   rintro _ _ ⟨rfl,v28,g29,hO30,rfl⟩
   refine C0 kr (fun w h=>(h.pk 2 [2,2,2,2])) (G5 (fuel:=0) [(8,0),(9,0),(10,0),(11,0),(12,0)] (fun w h=>(h.pk 2 [2,2,2,2])) (k:=G3 (E':=[⟨6,[],.int .i64 (q.size:Int)⟩,⟨7,[],.nilIface⟩,⟨10,[],.int .i64 (((bk l).extract last (bk l).size).size:Int)⟩]) [6,7,10] (k:=A0 (A3 (A4 (j:=3) [0,0,0] (k:=D0 130 ((q.size:Int)+(((bk l).extract last (bk l).size).size:Int)) (by omega) (by omega) kr (A8 [0] [6,7] (k:=A0 ?_))))))))
   refine B8 (E9 0 [2,2,2,2,0,0] (B7 [.tmp 6,.tmp 7] [.int .i64 ((q.size:Int)+(((bk l).extract last (bk l).size).size:Int)),.nilIface] (k:=?_)))
   exact ⟨_,_,_,rfl,(by have h:=lin_fin hT (by omega); rw [← ba_of (a:=(q++((bk l).extract last (bk l).size))) (by rw [app_list,ext_mid,h,List.take_of_length_le (by rw [List.length_drop]; omega)])]; exact hO30),rfl⟩
  ·
   simp only [bne_eq_false_iff_eq] at hc27
   refine A9 (A0 (B8 (B7 [.tmp 6,.tmp 7] [.int .i64 (q.size:Int),.nilIface] (k:=?_))))
   exact ⟨_,_,_,rfl,(by have h:=lin_fin hT (by omega); rw [← ba_of (a:=q) (by rw [h,List.drop_eq_nil_of_le (show l.length≤last by omega),List.append_nil])]; exact hv),rfl⟩
end Go.Proofs.YtppgfiklmfoaeaaGreatDoor
namespace Go.Proofs.YtppgfiklmfoaeaaGreatDoor
open Go.Sw Go.Sha Go.Esc Go.Json Go.Xml
theorem genReplace_ (b t n1 n2:Nat) (l:List UInt8) (hl:l.length≤1000000) (W0:World) (H:List Grp):Tri Tryz.prog 278 #[pt b,.string (bk l)] W0 ([(b,.cells (J1 [.string eB,.int .i64 0,.string eB,.pointer none,.slice (some ⟨t,0,none⟩) 2 2,.int .i64 2] (W2 256)) 268 (0,0))]::[(t,.cells #[.pointer none,pt n1] 263 (0,0))]::[(n1,.cells #[.string (mB #[10]),.int .i64 2,.string (mB #[10]),pt n2,.slice none 0 0] 266 (0,0))]::[(n2,.cells #[.string (mB #[10]),.int .i64 4,.string eB,.pointer none,.slice none 0 0] 266 (0,0))]::H) (fun v H'=>v=.string (bk (C1 l))∧H'=([(b,.cells (J1 [.string eB,.int .i64 0,.string eB,.pointer none,.slice (some ⟨t,0,none⟩) 2 2,.int .i64 2] (W2 256)) 268 (0,0))]::[(t,.cells #[.pointer none,pt n1] 263 (0,0))]::[(n1,.cells #[.string (mB #[10]),.int .i64 2,.string (mB #[10]),pt n2,.slice none 0 0] 266 (0,0))]::[(n2,.cells #[.string (mB #[10]),.int .i64 4,.string eB,.pointer none,.slice none 0 0] 266 (0,0))]::H)):=by
 have hbz:=C8 l
 refine D4 15 Tryz.func278 ?_
 refine A1 (B9 (E':=[⟨0,[],pt b⟩,⟨1,[],.string (bk l)⟩]) [0] [0,1] (k:=A0 (A1 (A3 (A4 (j:=2) [0,0] (k:=GL_makeLC (i:=2) (ch:=[]) (t:=308) (e:=5) (inf:=Tryz.t5) (z:=.int .u8 0) (l:=0) (m:=(bk l).size) (c:=(S4 [] (bk l).size).toList) rfl rfl kr kr kr kr kr (Nat.zero_le _) (by rw [hbz]; show (1:Int) * _≤_; omega) (by omega) (by rw [hbz]; show l.length * 1≤16777216; omega) (by rw [Array.toArray_toList]; exact madeZ _) kr kr kr (fun b1=>J5 (.slice none 0 0) (fun b2=>?_))))))))
 refine E4 0 0 (.slice (some ⟨b1,0,none⟩) 0 ((bk l).size)) rfl (A8 [] [0,1,5] (k:=A0 (A1 (A3 (A4 (j:=3) [0,0,0] (k:=O0 0 [2,2,2,2] (E0 (vs:=[pt b,.iface 309 (pt b2),.string (bk l)]) Tryz.func279 (genWrite_ b t n1 n2 b2 (.slice (some ⟨b1,0,none⟩) 0 ((bk l).size)) [(b1,.cells (S4 [] (bk l).size).toList.toArray 5 (0,0))] l (by omega) (own_cut0 (c:=(S4 [] (bk l).size).toList) (by rw [Array.length_toList,T8]; show 0+_=_ * 1; omega)) _ _) ?_)))))))
 rintro _ _ ⟨n,v2,g2,rfl,hO,rfl⟩
 obtain ⟨ra,rc,rfl,hcap,hrd⟩:=hO.shape
 refine B4 (E':=[⟨5,[],pt b2⟩]) [] [5] (k:=A0 (A1 (A3 (C4 4 0 rfl rfl (GL_bytesB (ch:=[]) (a:=ra) (cap:=rc) (e:=5) (S:=(inG g2)) (bk (C1 l)) (hrd:=show Rd (inG g2) ra (u8s (C1 l)) from hrd) (hS:=D9 5 rfl) (k:=B4 (E':=[⟨4,[],.string (bk (C1 l))⟩]) [0] [4] (k:=A0 (B8 ?_))))))))
 refine E9 2 [0,0,0,0] (B7 [.tmp 4] [.string (bk (C1 l))] (k:=?_))
 exact ⟨rfl,rfl⟩
theorem newRepC_ (v:Nat) (W0:World) (H:List Grp):Tri Tryz.prog 148 #[.slice (some ⟨v,0,none⟩) 4 4] W0 ([(v,.cells #[.string (mB #[13,10]),.string (mB #[10]),.string (mB #[13]),.string (mB #[10])] 9 (0,0))]::H) (fun x H'=>∃ b a cap g,x=pt b∧Go.Sw.Own 9 1 (.slice a 4 cap) g 4 crT∧H'=repG b 0 0 .nilIface (.slice a 4 cap)::g::[(v,.cells #[.string (mB #[13,10]),.string (mB #[10]),.string (mB #[13]),.string (mB #[10])] 9 (0,0))]::H):=by
 refine D4 12 Tryz.func148 ?_
 refine A1 (G_p [0] [0] (k:=A0 (A1 (A1 (A3 (A4 (j:=3) [0,0,0] (k:=?_)))))))
 have hw1:Int.tmod 4 2=4 % 2:=r64 (by omega)
 refine GL_w 5 hw1 kr (A8 [0] [0,6] (k:=A0 (B0 (b:=(4 % 2)==1) kr (fun hc2=>?_) (fun hc2=>?_))))
 ·
  exact absurd hc2 (by decide)
 ·
  skip
  refine A9 (A0 (A1 (A3 (A4 (j:=1) [0] (k:=GL_heap rfl (H':=([]::[(v,.cells #[.string (mB #[13,10]),.string (mB #[10]),.string (mB #[13]),.string (mB #[10])] 9 (0,0))]::H)) (fun w h=>h.flat (List.Perm.refl _)) (O4 (inf:=Tryz.t9) (e:=9) (s:=.slice none 0 0) 4 1 0 rfl rfl Go.Sw.Own.nil (by omega) (by show (0+4) * 16≤140737488355328; omega) (fun v3 g4 hO5=>?_)))))))
  replace hO5:=own_nilE hO5
  obtain ⟨a6,cap7,rfl,hcap8,hrd9⟩:=hO5.shape
  refine A4 (j:=3) [0] (k:=N4 (.agg #[.int .u32 0,.int .i32 0,.int .u32 0,.nilIface,.slice a6 4 cap7]) (fun b10=>B4 (E':=[⟨2,[],pt b10⟩]) [0] [2] (k:=A0 (B8 (B7 [.tmp 2] [pt b10] (k:=?_))))))
  exact ⟨_,_,_,_,rfl,hO5,rfl⟩
theorem buildC_ (rb:Nat) (a:Option Addr) (cap:Nat) (g:Grp) (hr:Rd (inG g) a crT) (W0:World) (H:List Grp):Tri Tryz.prog 190 #[pt rb] W0 ([(rb,.cells #[.int .u32 0,.int .i32 1,.int .u32 0,.nilIface,.slice a 4 cap] 213 (0,0))]::g::H) (fun x H'=>∃ b t n1 n2,x=.iface 242 (pt b)∧H'=([(b,.cells (J1 [.string eB,.int .i64 0,.string eB,.pointer none,.slice (some ⟨t,0,none⟩) 2 2,.int .i64 2] (W2 256)) 268 (0,0))]::[(t,.cells #[.pointer none,pt n1] 263 (0,0))]::[(n1,.cells #[.string (mB #[10]),.int .i64 2,.string (mB #[10]),pt n2,.slice none 0 0] 266 (0,0))]::[(n2,.cells #[.string (mB #[10]),.int .i64 4,.string eB,.pointer none,.slice none 0 0] 266 (0,0))]::[(rb,.cells #[.int .u32 0,.int .i32 1,.int .u32 0,.nilIface,.slice a 4 cap] 213 (0,0))]::g::H)):=by
 refine D4 132 Tryz.func190 ?_
 refine A1 (B9 (E':=[⟨0,[],pt rb⟩]) [0] [0] (k:=A0 (A1 (A3 (A4 (j:=3) [0,0,0] (k:=C4 0 4 rfl rfl (B4 (E':=[⟨3,[],.slice a 4 cap⟩]) [0] [3] (k:=A0 ?_))))))))
 refine A1 (A1 (G_p [0,0,0,0,1,1,1,1,1,3] [3,28] (k:=A0 (C9 kr (A9 (A0 (A1 (G_p [0] [3,4] (k:=?_)))))))))
 refine A0 (A1 (A1 (G_p [0] [3,4,5] (k:=A0 (B2 (N7 1 (F1 (A1 ?_))))))))
 refine A1 (G_p [0,0,0,0] [3,4,5,40] (k:=A0 (C7 kr (A9 (A0 (A1 (B2 (A1 ?_))))))))
 refine A1 (A3 (A4 (j:=2) [0,0] (k:=E6 4 0 1 hr (by exact ⟨by decide,by decide,by intro h; cases h⟩) (I0 (0 * 1) (.string (mB #[13,10])) hr (D9 1 rfl) (fun _=>rfl) (A8 [0,0] [3,4,5,48] (k:=A0 (C7 kr (A1 ?_))))))))
 refine A3 (A4 (j:=1) [0] (k:=O0 0 [1] (E0 Tryz.func212 (mkGen_ a cap g hr _ _) ?_)))
 rintro _ _ ⟨b,t,n1,n2,rfl,rfl⟩
 refine B4 (E':=[⟨2,[],.iface 242 (pt b)⟩]) [0,0] [2] (k:=A0 (B8 (A5 (B3 (A5 (A5 (B3 (A5 ?_))))))))
 refine E9 0 [0,0,0,0,1,0] (B7 [.tmp 2] [.iface 242 (pt b)] (k:=?_))
 exact ⟨_,_,_,_,rfl,rfl⟩
def crRep (g:Grp) (x:Value) (K:List Grp):Prop:=∃ b t n1 n2,x=.iface 242 (pt b)∧K=[[(b,.cells (J1 [.string eB,.int .i64 0,.string eB,.pointer none,.slice (some ⟨t,0,none⟩) 2 2,.int .i64 2] (W2 256)) 268 (0,0))],[(t,.cells #[.pointer none,pt n1] 263 (0,0))],[(n1,.cells #[.string (mB #[10]),.int .i64 2,.string (mB #[10]),pt n2,.slice none 0 0] 266 (0,0))],[(n2,.cells #[.string (mB #[10]),.int .i64 4,.string eB,.pointer none,.slice none 0 0] 266 (0,0))],g]
theorem buildOnceC_ (rb:Nat) (a:Option Addr) (cap:Nat) (g:Grp) (hr:Rd (inG g) a crT) (W0:World) (H:List Grp):Tri Tryz.prog 172 #[pt rb] W0 ([(rb,.cells #[.int .u32 0,.int .i32 1,.int .u32 0,.nilIface,.slice a 4 cap] 213 (0,0))]::g::H) (fun _ H'=>∃ r2 K2,crRep g r2 K2∧H'=repG rb 0 1 r2 (.slice none 0 0)::(K2++H)):=by
 refine D4 10 Tryz.func172 ?_
 refine A1 (A3 (A4 (j:=2) [0,0] (k:=E0 Tryz.func190 (buildC_ rb a cap g hr _ _) ?_)))
 rintro _ _ ⟨b,t,n1,n2,rfl,rfl⟩
 refine A4 (j:=5) [0,0] (k:=E4 4 3 (.iface 242 (pt b)) rfl (B4 (E':=[⟨0,[],pt rb⟩]) [] [0] (k:=A0 (A3 (A4 (j:=3) [0,0,0] (k:=E4 4 4 (.slice none 0 0) rfl (B4 (E':=[]) [] [] (k:=E9 0 [4,0,0,0,0,0] ?_))))))))
 refine B7 [] [] (k:=?_)
 exact ⟨_,_,⟨b,t,n1,n2,rfl,rfl⟩,rfl⟩
theorem crOnce (rb:Nat) (a:Option Addr) (cap:Nat) (g:Grp) (hr:Rd (inG g) a crT) (W0:World) (H:List Grp):Tri Tryz.prog 171 #[pt rb,.func (.func 172) #[pt rb] #[]] W0 (repG rb 0 0 .nilIface (.slice a 4 cap)::([g]++H)) (fun _ H'=>∃ r2 K2,crRep g r2 K2∧H'=repG rb 1 0 r2 (.slice none 0 0)::(K2++H)) :=
  onceDo_ rb .nilIface (.slice a 4 cap) (.slice none 0 0) [g] (crRep g) (fun W0 H=>buildOnceC_ rb a cap g hr W0 H) W0 H
theorem crReplace_ (rb:Nat) (a:Option Addr) (cap:Nat) (g:Grp) (hr:Rd (inG g) a crT) (l:List UInt8) (hl:l.length≤1000000) (W0:World) (H:List Grp):Tri Tryz.prog 149 #[pt rb,.string (bk l)] W0 ([(rb,.cells #[.int .u32 0,.int .i32 0,.int .u32 0,.nilIface,.slice a 4 cap] 213 (0,0))]::g::H) (fun v H'=>v=.string (bk (C1 l))∧H'=H):=by
 refine D4 17 Tryz.func149 ?_
 refine A1 (G_p [0] [0,1] (k:=A0 (A1 (A3 (A4 (j:=5) [0,0,0,0,0] (k:=E0 Tryz.func171 (crOnce rb a cap g hr _ _) ?_))))))
 rintro _ _ ⟨_,_,⟨b,t,n1,n2,rfl,rfl⟩,rfl⟩
 refine A8 [] [0,1] (k:=A0 (A1 (A3 (A4 (j:=3) [0,0,0] (k:=C4 0 3 rfl rfl (A4 (j:=5) [0] (k:=O0 0 [1,1,1,1] (S1 (t:=242) (rv:=pt b) (f:=278) (vs:=[.string (bk l)]) (av:=#[pt b,.string (bk l)]) (hm:=(fun _=>by kernel_rfl)) (hc:=genReplace_ b t n1 n2 l hl _ _) (k:=?_)))))))))
 rintro _ _ ⟨rfl,rfl⟩
 refine B4 (E':=[⟨4,[],.string (bk (C1 l))⟩]) [0] [4] (k:=A0 (B8 (I1 (H':=([(b,.cells (J1 [.string eB,.int .i64 0,.string eB,.pointer none,.slice (some ⟨t,0,none⟩) 2 2,.int .i64 2] (W2 256)) 268 (0,0))]::[(t,.cells #[.pointer none,pt n1] 263 (0,0))]::[(n1,.cells #[.string (mB #[10]),.int .i64 2,.string (mB #[10]),pt n2,.slice none 0 0] 266 (0,0))]::[(n2,.cells #[.string (mB #[10]),.int .i64 4,.string eB,.pointer none,.slice none 0 0] 266 (0,0))]::[(rb,.cells #[.int .u32 1,.int .i32 0,.int .u32 0,.iface 242 (pt b),.slice none 0 0] 213 (0,0))]::H)) (fun w h=>h.erase 5) (I1 (H':=([(b,.cells (J1 [.string eB,.int .i64 0,.string eB,.pointer none,.slice (some ⟨t,0,none⟩) 2 2,.int .i64 2] (W2 256)) 268 (0,0))]::[(t,.cells #[.pointer none,pt n1] 263 (0,0))]::[(n1,.cells #[.string (mB #[10]),.int .i64 2,.string (mB #[10]),pt n2,.slice none 0 0] 266 (0,0))]::[(n2,.cells #[.string (mB #[10]),.int .i64 4,.string eB,.pointer none,.slice none 0 0] 266 (0,0))]::H)) (fun w h=>h.erase 4) (I1 (H':=([(b,.cells (J1 [.string eB,.int .i64 0,.string eB,.pointer none,.slice (some ⟨t,0,none⟩) 2 2,.int .i64 2] (W2 256)) 268 (0,0))]::[(t,.cells #[.pointer none,pt n1] 263 (0,0))]::[(n1,.cells #[.string (mB #[10]),.int .i64 2,.string (mB #[10]),pt n2,.slice none 0 0] 266 (0,0))]::H)) (fun w h=>h.erase 3) (I1 (H':=([(b,.cells (J1 [.string eB,.int .i64 0,.string eB,.pointer none,.slice (some ⟨t,0,none⟩) 2 2,.int .i64 2] (W2 256)) 268 (0,0))]::[(t,.cells #[.pointer none,pt n1] 263 (0,0))]::H)) (fun w h=>h.erase 2) (I1 (H':=([(b,.cells (J1 [.string eB,.int .i64 0,.string eB,.pointer none,.slice (some ⟨t,0,none⟩) 2 2,.int .i64 2] (W2 256)) 268 (0,0))]::H)) (fun w h=>h.erase 1) (I1 (H':=H) (fun w h=>h.erase 0) ?_))))))))
 refine B7 [.tmp 4] [.string (bk (C1 l))] (k:=?_)
 exact ⟨rfl,rfl⟩
end Go.Proofs.YtppgfiklmfoaeaaGreatDoor
namespace Go.Proofs.YtppgfiklmfoaeaaGreatDoor
open Go.Sw Go.Sha Go.Esc Go.RowKit
theorem lit38:(⟨#[Nat.toUInt8 38]⟩:ByteArray).data.toList=[38]:=rfl
theorem sz38:(⟨#[Nat.toUInt8 38]⟩:ByteArray).size=1:=rfl
theorem toNat1 (m:Nat):Int.toNat ((m:Int)+1)=m+1:=by omega
theorem sz_drop (s:ByteArray) (k:Nat):(s.extract k s.size).size=s.size - k:=by rw [ByteArray.size_extract,Nat.min_self]
theorem w32i {x:Int} (h0:0≤x) (h1:x≤2147483647):IntKind.wrap .i32 x=x:=by
  have e:∀ y,IntKind.wrap .i32 y=if y % 4294967296<2147483648 then y % 4294967296 else y % 4294967296 - 4294967296:=by intro y; first | rfl | (simp [IntKind.wrap,IntKind.bits,IntKind.signed]; split <;> split <;> omega)
  rw [e]; split <;> omega
theorem number10_ (s:ByteArray) (hs:s.size≤1000000000000) (W0:World) (H:List Grp) (hW:T0 W0):Tri Tryz.prog 206 #[.string s,.int .i64 10,.int .i64 7] W0 H (fun v H'=>v=.int .i64 (J8 s.data.toList 10 7)∧H'=H):=by
 refine D4 42 Tryz.func206 ?_
 refine A1 (G_p [0] [0,1,2] (k:=A0 (A1 (A1 (G_p [0,0,0,0,0,0,0,0,5] [0,1,17] (k:=A0 (B0 (b:=((s.size:Int)==0)||(decide ((s.size:Int) > 7))) kr (fun hc1=>?_) (fun hc1=>?_))))))))
 ·
  simp only [Bool.or_eq_true,decide_eq_true_eq,beq_iff_eq,gt_iff_lt] at hc1
  refine A1 (B9 (E':=[⟨6,[],.int .i64 (-1)⟩]) [0] [6] (k:=A0 (B8 (A5 (B7 [.tmp 6] [.int .i64 (-1)] (k:=?_))))))
  exact ⟨congrArg (Value.int .i64) (by unfold J8; rw [if_pos (by rw [H4]; omega)]),rfl⟩
 ·
  simp only [Bool.or_eq_false_iff,decide_eq_false_iff_not,beq_eq_false_iff_ne,gt_iff_lt] at hc1
  refine A9 (A0 (A1 (A3 (A4 (j:=2) [0,0] (k:=E0 Tryz.func191 (parse10_ s (by omega) (by omega) _ _ hW) ?_)))))
  rintro _ _ ⟨⟨n,hV,hn0,hn1,rfl⟩ | ⟨hV,N,rfl⟩,rfl⟩
  ·
   have hp:=pow16 (show s.size≤7 by omega)
   refine A8 [0,0,0,0,0] [7,8] (k:=A0 (A1 (A1 (A3 (A4 (j:=1) [0] (k:=P1 (ch:=[]) (v:=.nilIface) (e:=true) true (hv:=.inl ⟨rfl,rfl⟩) (k:=A4 (j:=13) [0,0,0,3,0,0,0,5,0,0,0] (k:=N1 [(34,false)] Tryz.func192 (fun hc=>vRune_ (IntKind.wrap .i32 n) _ _) ?_))))))))
   refine A8 [0,5] [7,39] (k:=A0 (B0 (b:=((n==0)||(decide (n > 1114111)))||(!(isB (IntKind.wrap .i32 n)))) kr (fun hc2=>?_) (fun hc2=>?_)))
   ·
    simp only [Bool.or_eq_true,decide_eq_true_eq,beq_iff_eq,gt_iff_lt,Bool.not_eq_true'] at hc2
    have hbad:=hc2
    refine A1 (B9 (E':=[⟨6,[],.int .i64 (-1)⟩]) [0] [6] (k:=A0 (B8 (A5 (B7 [.tmp 6] [.int .i64 (-1)] (k:=?_))))))
    exact ⟨congrArg (Value.int .i64) (by unfold J8; rw [if_neg (by rw [H4]; omega),hV]; dsimp only; rw [if_pos]; unfold isB; by_cases hn:n=0; exact .inl hn; right; rw [← Bool.not_eq_true]; intro hb; have hr:=isB_iff.1 hb; unfold isR at hr; rcases hbad with (h | h) | h; exact hn h; omega; rw [w32i (by omega) (by omega)] at h; rw [show isB n=true from hb] at h; cases h),rfl⟩
   ·
    simp only [Bool.or_eq_false_iff,decide_eq_false_iff_not,beq_eq_false_iff_ne,gt_iff_lt,Bool.not_eq_false'] at hc2
    have hok:=hc2
    refine A9 (A0 (A1 (A3 (A4 (j:=2) [0,0] (k:=D0 41 n (by omega) (by omega) kr (B4 (E':=[⟨6,[],.int .i64 n⟩]) [0] [6] (k:=A0 (B8 ?_))))))))
    refine B7 [.tmp 6] [.int .i64 n] (k:=?_)
    exact ⟨congrArg (Value.int .i64) (by unfold J8; rw [if_neg (by rw [H4]; omega),hV]; dsimp only; rw [if_neg]; rintro (h | h); exact hok.1.1 h; have h2:=hok.2; rw [w32i (by omega) (by omega),h] at h2; cases h2),rfl⟩
  ·
   refine A8 [0,0,0,0,0] [7,8] (k:=A0 (A1 (A1 (A3 (A4 (j:=1) [0] (k:=P1 (ch:=[]) (v:=.iface 272 (pt N)) (e:=false) true (hv:=.inr ⟨⟨_,_,rfl⟩,rfl⟩) (k:=A8 [0,1,1,2,0,1,1,2,0,1,1,1,1,2] [7,39] (k:=A0 ?_))))))))
   refine C7 kr (A1 (B9 (E':=[⟨6,[],.int .i64 (-1)⟩]) [0] [6] (k:=A0 (B8 (A5 (B7 [.tmp 6] [.int .i64 (-1)] (k:=?_)))))))
   exact ⟨congrArg (Value.int .i64) (by unfold J8; rw [if_neg (by rw [H4]; omega),hV]),rfl⟩
theorem number16_ (s:ByteArray) (hs:s.size≤1000000000000) (W0:World) (H:List Grp) (hW:T0 W0):Tri Tryz.prog 206 #[.string s,.int .i64 16,.int .i64 6] W0 H (fun v H'=>v=.int .i64 (J8 s.data.toList 16 6)∧H'=H):=by
 refine D4 42 Tryz.func206 ?_
 refine A1 (G_p [0] [0,1,2] (k:=A0 (A1 (A1 (G_p [0,0,0,0,0,0,0,0,5] [0,1,17] (k:=A0 (B0 (b:=((s.size:Int)==0)||(decide ((s.size:Int) > 6))) kr (fun hc1=>?_) (fun hc1=>?_))))))))
 ·
  simp only [Bool.or_eq_true,decide_eq_true_eq,beq_iff_eq,gt_iff_lt] at hc1
  refine A1 (B9 (E':=[⟨6,[],.int .i64 (-1)⟩]) [0] [6] (k:=A0 (B8 (A5 (B7 [.tmp 6] [.int .i64 (-1)] (k:=?_))))))
  exact ⟨congrArg (Value.int .i64) (by unfold J8; rw [if_pos (by rw [H4]; omega)]),rfl⟩
 ·
  simp only [Bool.or_eq_false_iff,decide_eq_false_iff_not,beq_eq_false_iff_ne,gt_iff_lt] at hc1
  refine A9 (A0 (A1 (A3 (A4 (j:=2) [0,0] (k:=E0 Tryz.func191 (parse16_ s (by omega) (by omega) _ _ hW) ?_)))))
  rintro _ _ ⟨⟨n,hV,hn0,hn1,rfl⟩ | ⟨hV,N,rfl⟩,rfl⟩
  ·
   have hp:=pow16 (show s.size≤7 by omega)
   refine A8 [0,0,0,0,0] [7,8] (k:=A0 (A1 (A1 (A3 (A4 (j:=1) [0] (k:=P1 (ch:=[]) (v:=.nilIface) (e:=true) true (hv:=.inl ⟨rfl,rfl⟩) (k:=A4 (j:=13) [0,0,0,3,0,0,0,5,0,0,0] (k:=N1 [(34,false)] Tryz.func192 (fun hc=>vRune_ (IntKind.wrap .i32 n) _ _) ?_))))))))
   refine A8 [0,5] [7,39] (k:=A0 (B0 (b:=((n==0)||(decide (n > 1114111)))||(!(isB (IntKind.wrap .i32 n)))) kr (fun hc2=>?_) (fun hc2=>?_)))
   ·
    simp only [Bool.or_eq_true,decide_eq_true_eq,beq_iff_eq,gt_iff_lt,Bool.not_eq_true'] at hc2
    have hbad:=hc2
    refine A1 (B9 (E':=[⟨6,[],.int .i64 (-1)⟩]) [0] [6] (k:=A0 (B8 (A5 (B7 [.tmp 6] [.int .i64 (-1)] (k:=?_))))))
    exact ⟨congrArg (Value.int .i64) (by unfold J8; rw [if_neg (by rw [H4]; omega),hV]; dsimp only; rw [if_pos]; unfold isB; by_cases hn:n=0; exact .inl hn; right; rw [← Bool.not_eq_true]; intro hb; have hr:=isB_iff.1 hb; unfold isR at hr; rcases hbad with (h | h) | h; exact hn h; omega; rw [w32i (by omega) (by omega)] at h; rw [show isB n=true from hb] at h; cases h),rfl⟩
   ·
    simp only [Bool.or_eq_false_iff,decide_eq_false_iff_not,beq_eq_false_iff_ne,gt_iff_lt,Bool.not_eq_false'] at hc2
    have hok:=hc2
    refine A9 (A0 (A1 (A3 (A4 (j:=2) [0,0] (k:=D0 41 n (by omega) (by omega) kr (B4 (E':=[⟨6,[],.int .i64 n⟩]) [0] [6] (k:=A0 (B8 ?_))))))))
    refine B7 [.tmp 6] [.int .i64 n] (k:=?_)
    exact ⟨congrArg (Value.int .i64) (by unfold J8; rw [if_neg (by rw [H4]; omega),hV]; dsimp only; rw [if_neg]; rintro (h | h); exact hok.1.1 h; have h2:=hok.2; rw [w32i (by omega) (by omega),h] at h2; cases h2),rfl⟩
  ·
   refine A8 [0,0,0,0,0] [7,8] (k:=A0 (A1 (A1 (A3 (A4 (j:=1) [0] (k:=P1 (ch:=[]) (v:=.iface 272 (pt N)) (e:=false) true (hv:=.inr ⟨⟨_,_,rfl⟩,rfl⟩) (k:=A8 [0,1,1,2,0,1,1,2,0,1,1,1,1,2] [7,39] (k:=A0 ?_))))))))
   refine C7 kr (A1 (B9 (E':=[⟨6,[],.int .i64 (-1)⟩]) [0] [6] (k:=A0 (B8 (A5 (B7 [.tmp 6] [.int .i64 (-1)] (k:=?_)))))))
   exact ⟨congrArg (Value.int .i64) (by unfold J8; rw [if_neg (by rw [H4]; omega),hV]),rfl⟩
theorem reference_ (s:ByteArray) (hs:s.size≤1000000000000) (W0:World) (H:List Grp) (hW:T0 W0):Tri Tryz.prog 187 #[.string s] W0 H (fun v H'=>v=.int .i64 (Y5 s.data.toList)∧H'=H):=by
 refine D4 44 Tryz.func187 ?_
 refine A1 (B9 (E':=[⟨0,[],.string s⟩]) [0] [0] (k:=A0 (A1 (A1 (B9 (E':=[⟨0,[],.string s⟩,⟨9,[],.string s⟩]) [0] [0,9] (k:=A0 (B2 (A1 ?_))))))))
 refine G_p [0,0] [0,9,10] (k:=A0 (B0 (b:=s.toList==(mB #[97,109,112]).toList) kr (fun hc1=>?_) (fun hc1=>?_)))
 ·
  have e0:=(eqB _ _).1 hc1
  refine A1 (B9 (E':=[⟨2,[],.int .i64 38⟩]) [0] [2] (k:=A0 (B8 (B3 (A5 (B7 [.tmp 2] [.int .i64 38] (k:=?_)))))))
  exact ⟨congrArg (Value.int .i64) (by unfold Y5; rw [if_pos e0]),rfl⟩
 ·
  have e0:=(eqBf _ _).1 hc1
  refine A1 (G_p [0,0] [0,9,12] (k:=A0 (B0 (b:=s.toList==(mB #[108,116]).toList) kr (fun hc2=>?_) (fun hc2=>?_))))
  ·
   have e1:=(eqB _ _).1 hc2
   refine A1 (B9 (E':=[⟨2,[],.int .i64 60⟩]) [0] [2] (k:=A0 (B8 (B3 (A5 (B7 [.tmp 2] [.int .i64 60] (k:=?_)))))))
   exact ⟨congrArg (Value.int .i64) (by unfold Y5; rw [if_neg e0,if_pos e1]),rfl⟩
  ·
   have e1:=(eqBf _ _).1 hc2
   refine A1 (G_p [0,0] [0,9,14] (k:=A0 (B0 (b:=s.toList==(mB #[103,116]).toList) kr (fun hc3=>?_) (fun hc3=>?_))))
   ·
    have e2:=(eqB _ _).1 hc3
    refine A1 (B9 (E':=[⟨2,[],.int .i64 62⟩]) [0] [2] (k:=A0 (B8 (B3 (A5 (B7 [.tmp 2] [.int .i64 62] (k:=?_)))))))
    exact ⟨congrArg (Value.int .i64) (by unfold Y5; rw [if_neg e0,if_neg e1,if_pos e2]),rfl⟩
   ·
    have e2:=(eqBf _ _).1 hc3
    refine A1 (G_p [0,0] [0,9,16] (k:=A0 (B0 (b:=s.toList==(mB #[113,117,111,116]).toList) kr (fun hc4=>?_) (fun hc4=>?_))))
    ·
     have e3:=(eqB _ _).1 hc4
     refine A1 (B9 (E':=[⟨2,[],.int .i64 34⟩]) [0] [2] (k:=A0 (B8 (B3 (A5 (B7 [.tmp 2] [.int .i64 34] (k:=?_)))))))
     exact ⟨congrArg (Value.int .i64) (by unfold Y5; rw [if_neg e0,if_neg e1,if_neg e2,if_pos e3]),rfl⟩
    ·
     have e3:=(eqBf _ _).1 hc4
     refine A1 (G_p [0,0] [0,18] (k:=A0 (B0 (b:=s.toList==(mB #[97,112,111,115]).toList) kr (fun hc5=>?_) (fun hc5=>?_))))
     ·
      have e4:=(eqB _ _).1 hc5
      refine A1 (B9 (E':=[⟨2,[],.int .i64 39⟩]) [0] [2] (k:=A0 (B8 (B3 (A5 (B7 [.tmp 2] [.int .i64 39] (k:=?_)))))))
      exact ⟨congrArg (Value.int .i64) (by unfold Y5; rw [if_neg e0,if_neg e1,if_neg e2,if_neg e3,if_pos e4]),rfl⟩
     ·
      have e4:=(eqBf _ _).1 hc5
      refine A9 (B6 (A0 (A1 (A1 (A3 (A4 (j:=1) [0] (k:=E0 Tryz.func124 (cutP_ s (mB #[35,120]) (by omega) (by first | omega | decide) _ _) ?_)))))))
      rintro _ _ ⟨rfl,rfl⟩
      cases hsp:J2 s (mB #[35,120])
      all_goals simp only [Bool.false_eq_true,if_false,if_true]
      ·
       have hp44:¬ s.data.toList.take 2=[35,120]:=(O5 _ _).1 hsp
       refine B4 (E':=[⟨0,[],.string s⟩,⟨3,[],.string s⟩,⟨4,[],.bool false⟩]) [0,0,0,0,0] [0,3,4] (k:=A0 (A1 (G_p [0] [0,3,25] (k:=A0 (C9 kr (A9 (A0 (A1 ?_))))))))
       refine A1 (A3 (A4 (j:=1) [0] (k:=E0 Tryz.func124 (cutP_ s (mB #[35,88]) (by omega) (by first | omega | decide) _ _) ?_)))
       rintro _ _ ⟨rfl,rfl⟩
       cases hsp:J2 s (mB #[35,88])
       all_goals simp only [Bool.false_eq_true,if_false,if_true]
       ·
        have hp47:¬ s.data.toList.take 2=[35,88]:=(O5 _ _).1 hsp
        refine A8 [0,0,0,0,0] [0,5,6] (k:=A0 (A1 (G_p [0] [0,5,33] (k:=A0 (C9 kr (A9 (A0 (A1 ?_))))))))
        refine A1 (A3 (A4 (j:=1) [0] (k:=E0 Tryz.func124 (cutP_ s (mB #[35]) (by omega) (by first | omega | decide) _ _) ?_)))
        rintro _ _ ⟨rfl,rfl⟩
        cases hsp:J2 s (mB #[35])
        all_goals simp only [Bool.false_eq_true,if_false,if_true]
        ·
         have hp50:¬ s.data.toList.take 1=[35]:=(O5 _ _).1 hsp
         refine A8 [0,0,0,0,0] [7,8] (k:=A0 (A1 (G_p [0] [7,41] (k:=A0 (C9 kr (A9 (A0 (A1 ?_))))))))
         refine B9 (E':=[⟨2,[],.int .i64 (-1)⟩]) [0] [2] (k:=A0 (B8 (B7 [.tmp 2] [.int .i64 (-1)] (k:=?_))))
         exact ⟨congrArg (Value.int .i64) (by unfold Y5; rw [if_neg e0,if_neg e1,if_neg e2,if_neg e3,if_neg e4,if_neg hp44,if_neg hp47,if_neg hp50]),rfl⟩
        ·
         have hp50:s.data.toList.take 1=[35]:=(O8 _ _).1 hsp
         refine A8 [0,0,0,0,0] [7,8] (k:=A0 (A1 (G_p [0] [7,41] (k:=A0 (C7 kr (A1 (A3 (A4 (j:=1) [0] (k:=?_)))))))))
         refine E0 Tryz.func206 (number10_ (s.extract (mB #[35]).size s.size) (by first | omega | (rw [ByteArray.size_extract]; omega)) _ _ hW) ?_
         rintro _ _ ⟨rfl,rfl⟩
         refine B4 (E':=[⟨2,[],.int .i64 (J8 (s.extract (mB #[35]).size s.size).data.toList 10 7)⟩]) [0] [2] (k:=A0 (B8 (A5 (B7 [.tmp 2] [.int .i64 (J8 (s.extract (mB #[35]).size s.size).data.toList 10 7)] (k:=?_)))))
         exact ⟨congrArg (Value.int .i64) (by unfold Y5; rw [if_neg e0,if_neg e1,if_neg e2,if_neg e3,if_neg e4,if_neg hp44,if_neg hp47,if_pos hp50,O9]; rfl),rfl⟩
       ·
        have hp47:s.data.toList.take 2=[35,88]:=(O8 _ _).1 hsp
        refine A8 [0,0,0,0,0] [0,5,6] (k:=A0 (A1 (G_p [0] [0,5,33] (k:=A0 (C7 kr (A1 (A3 (A4 (j:=1) [0] (k:=?_)))))))))
        refine E0 Tryz.func206 (number16_ (s.extract (mB #[35,88]).size s.size) (by first | omega | (rw [ByteArray.size_extract]; omega)) _ _ hW) ?_
        rintro _ _ ⟨rfl,rfl⟩
        refine A8 [0] [2] (k:=A0 (B8 (A5 (B7 [.tmp 2] [.int .i64 (J8 (s.extract (mB #[35,88]).size s.size).data.toList 16 6)] (k:=?_)))))
        exact ⟨congrArg (Value.int .i64) (by unfold Y5; rw [if_neg e0,if_neg e1,if_neg e2,if_neg e3,if_neg e4,if_neg hp44,if_pos hp47,O9]; rfl),rfl⟩
      ·
       have hp44:s.data.toList.take 2=[35,120]:=(O8 _ _).1 hsp
       refine B4 (E':=[⟨0,[],.string s⟩,⟨3,[],.string (s.extract (mB #[35,120]).size s.size)⟩,⟨4,[],.bool true⟩]) [0,0,0,0,0] [0,3,4] (k:=A0 (A1 (G_p [0] [0,3,25] (k:=A0 (C7 kr (A1 (A3 (A4 (j:=1) [0] (k:=?_)))))))))
       refine E0 Tryz.func206 (number16_ (s.extract (mB #[35,120]).size s.size) (by first | omega | (rw [ByteArray.size_extract]; omega)) _ _ hW) ?_
       rintro _ _ ⟨rfl,rfl⟩
       refine A8 [0] [2] (k:=A0 (B8 (A5 (B7 [.tmp 2] [.int .i64 (J8 (s.extract (mB #[35,120]).size s.size).data.toList 16 6)] (k:=?_)))))
       exact ⟨congrArg (Value.int .i64) (by unfold Y5; rw [if_neg e0,if_neg e1,if_neg e2,if_neg e3,if_neg e4,if_pos hp44,O9]; rfl),rfl⟩
theorem unhtml_ (s:ByteArray) (hs:s.size≤10000000000) (W0:World) (H:List Grp) (hW:T0 W0):Tri Tryz.prog 169 #[.string s] W0 H (fun v H'=>v=.string ⟨(unL s.data.toList).toArray⟩∧H'=H):=by
 refine D4 41 Tryz.func169 ?_
 refine A1 (B9 (E':=[⟨0,[],.string s⟩]) [0] [0] (k:=A0 (A1 (A3 (J5 (.agg #[.pointer none,.slice none 0 0]) (fun b1=>GL_heap rfl (H':=([(b1,.cells #[.pointer none,.slice none 0 0] 87 (0,0))]::[]::H)) (fun w h=>h.flat (List.Perm.refl _)) (B4 (E':=[⟨0,[],.string s⟩,⟨3,[],pt b1⟩]) [] [0,3] (k:=A0 ?_))))))))
 refine B2 (I3 (EI:=(fun ξ:Value × Value × Grp × ByteArray × ByteArray=>[⟨0,[],.string ξ.2.2.2.2⟩,⟨3,[],pt b1⟩])) (HI:=(fun ξ:Value × Value × Grp × ByteArray × ByteArray=>([(b1,.cells #[ξ.1,ξ.2.1] 87 (0,0))]::ξ.2.2.1::H))) (Φ:=(fun ξ:Value × Value × Grp × ByteArray × ByteArray=>(Bld b1 ξ.1)∧(BOwn ξ.2.1 ξ.2.2.1 ξ.2.2.2.1)∧(ξ.2.2.2.2.size≤s.size)∧(ξ.2.2.2.1.size+4 * ξ.2.2.2.2.size≤4 * s.size)∧(ξ.2.2.2.1.data.toList++unL ξ.2.2.2.2.data.toList=unL s.data.toList))) (μ:=(fun ξ:Value × Value × Grp × ByteArray × ByteArray=>ξ.2.2.2.2.size)) (s0:=(.pointer none,.slice none 0 0,[],.empty,s)) [0,3] kr rfl ⟨bld0,bown0,(Nat.le_refl _),(by show 0+4 * s.size≤4 * s.size; omega),(by rfl)⟩ ?_)
 rintro ⟨p,v,g,t,sv⟩ ⟨hbp,hB,hz,hts,hT⟩
 dsimp only at hbp hB hz hts hT
 refine B2 (A1 (A3 (A4 (j:=1) [0] (k:=E0 Tryz.func168 (idx_ sv 38 _ _) ?_))))
 rintro _ _ ⟨rfl,rfl⟩
 rcases bIdx_spec sv (c:=38) (by decide) (by decide) with ⟨k,hk,hik,hbk,hnk⟩ | ⟨hik,hnk⟩
 all_goals rw [hik]
 ·
  have hz1:(sv.extract k sv.size).size=sv.size - k:=sz_drop sv k
  have hz0:(sv.extract 0 k).size=k:=by rw [ByteArray.size_extract]; omega
  have hz4:((sv.extract k sv.size).extract 1 (sv.extract k sv.size).size).size=sv.size - k - 1:=by rw [sz_drop,hz1]
  refine A8 [0] [0,3,4] (k:=A0 (A1 (A1 (G_p [0,0] [0,3,4,10] (k:=A0 (B0 (b:=decide (((k:Nat):Int)<0)) kr (fun hc2=>?_) (fun hc2=>?_)))))))
  ·
   simp only [decide_eq_true_eq] at hc2; omega
  ·
   skip
   refine A9 (A0 (A1 (A3 (A4 (j:=2) [0,0] (k:=O2 sv 0 ((k:Nat):Int) (by omega) (E0 Tryz.func90 (N2 b1 (p) (v) g t (sv.extract 0 k) hbp hB (by (try simp only [H9]); omega) _ _) ?_))))))
   rintro _ _ ⟨v3,g4,hB5,rfl⟩
   refine A8 [] [0,3,4] (k:=A0 (A1 (A3 (A4 (j:=2) [0,0] (k:=O2 sv ((k:Nat):Int) (sv.size:Int) (by omega) (A8 [0] [0,3] (k:=A0 (A1 ?_))))))))
   refine G_p [0] [0,3,5] (k:=A0 (A1 (A3 (A4 (j:=1) [0] (k:=E0 Tryz.func168 (idx_ (sv.extract k sv.size) 59 _ _) ?_)))))
   rintro _ _ ⟨rfl,rfl⟩
   rcases bIdx_spec (sv.extract k sv.size) (c:=59) (by decide) (by decide) with ⟨m,hm,him,hbm,hnm⟩ | ⟨him,hnm⟩
   all_goals rw [him]
   ·
    have hz2:((sv.extract k sv.size).extract (m+1) (sv.extract k sv.size).size).size=sv.size - k - (m+1):=by rw [sz_drop,hz1]
    have hz3:((sv.extract k sv.size).extract 1 m).size=m - 1:=by rw [ByteArray.size_extract]; omega
    refine B4 (E':=[⟨0,[],.string (sv.extract k sv.size)⟩,⟨3,[],pt b1⟩,⟨5,[],.int .i64 (-1)⟩,⟨6,[],.int .i64 ((m:Nat):Int)⟩]) [0] [0,3,5,6] (k:=A0 (A1 (A1 (G_p [0,0] [0,3,5,6,24] (k:=A0 (B0 (b:=decide (((m:Nat):Int) > 0)) kr (fun hc6=>?_) (fun hc6=>?_)))))))
    ·
     have hm0:=m_pos hk hbk hbm
     refine A3 (A4 (j:=2) [0,0] (k:=O2 (sv.extract k sv.size) 1 ((m:Nat):Int) (by omega) (E0 Tryz.func187 (reference_ ((sv.extract k sv.size).extract 1 m) (by omega) _ _ hW) ?_)))
     rintro _ _ ⟨rfl,rfl⟩
     refine A8 [0] [0,3,5,6] (k:=A0 (A1 (A1 (G_p [0,0] [0,3,5,6,30] (k:=A0 (B0 (b:=decide ((Y5 ((sv.extract k sv.size).extract 1 m).data.toList)<0)) kr (fun hc7=>?_) (fun hc7=>?_)))))))
     ·
      simp only [decide_eq_true_eq] at hc7
      refine A1 (A3 (E0 Tryz.func92 (writeByteC b1 (pt b1) (v3) g4 (t++(sv.extract 0 k)) (Nat.toUInt8 38) bld1 hB5 (by (try simp only [H9]); omega) _ _) ?_))
      rintro _ _ ⟨v8,g9,hB10,rfl⟩
      refine A8 [] [0,3] (k:=A0 (A1 (A3 (A4 (j:=1) [0] (k:=O2 (sv.extract k sv.size) 1 ((sv.extract k sv.size).size:Int) (by omega) (A8 [0] [0,3] (k:=A0 (E3 ?_))))))))
      refine A6 (B5 (D2 (s':=(pt b1,v8,g9,((t++(sv.extract 0 k))++⟨#[Nat.toUInt8 38]⟩),(sv.extract k sv.size).extract 1 (sv.extract k sv.size).size)) [0,3] kr rfl ⟨bld1,hB10,(by dsimp only; omega),(by dsimp only; simp only [H9,sz38]; omega),(by dsimp only; rw [← hT,(unB hk hbk hnk hm hbm hnm hm0).1 (by omega),F9,F9,ext_take,lit38]; simp only [List.append_assoc,List.cons_append,List.nil_append])⟩ (by dsimp only; omega)))
     ·
      simp only [decide_eq_false_iff_not] at hc7
      have hri:=refM_isR (t:=((sv.extract k sv.size).extract 1 m).data.toList) (by omega)
      unfold isR at hri
      refine A9 (A0 (A1 (A3 (A4 (j:=2) [0,0] (k:=F6 35 (x:=.int .i32 (IntKind.wrap .i32 (Y5 ((sv.extract k sv.size).extract 1 m).data.toList))) (y:=.int .i32 (Y5 ((sv.extract k sv.size).extract 1 m).data.toList)) (by rw [w32i (by omega) (by omega)]) (E0 Tryz.func136 (writeRune b1 (pt b1) (v3) g4 (t++(sv.extract 0 k)) (Y5 ((sv.extract k sv.size).extract 1 m).data.toList) bld1 hB5 (refM_isR (by omega)) (by (try simp only [H9]); omega) _ _) ?_))))))
      rintro _ _ ⟨v11,g12,hB13,rfl⟩
      refine A8 [] [0,3,6] (k:=A0 (A3 (A4 (j:=3) [0,0,0] (k:=D0 39 (((m:Nat):Int)+1) (by omega) (by omega) kr (O2 (sv.extract k sv.size) (((m:Nat):Int)+1) ((sv.extract k sv.size).size:Int) (by omega) (F6 40 (x:=.string ((sv.extract k sv.size).extract (Int.toNat (((m:Nat):Int)+1)) (sv.extract k sv.size).size)) (y:=.string ((sv.extract k sv.size).extract (m+1) (sv.extract k sv.size).size)) (by rw [toNat1]) (A8 [0] [0,3] (k:=B6 ?_))))))))
      refine D2 (s':=(pt b1,v11,g12,((t++(sv.extract 0 k))++encB (Y5 ((sv.extract k sv.size).extract 1 m).data.toList)),(sv.extract k sv.size).extract (m+1) (sv.extract k sv.size).size)) [0,3] kr rfl ⟨bld1,hB13,(by dsimp only; omega),(by dsimp only; have he:=encB_size (Y5 ((sv.extract k sv.size).extract 1 m).data.toList); simp only [H9]; omega),(by dsimp only; rw [← hT,(unB hk hbk hnk hm hbm hnm hm0).2 (by omega),F9,F9,R8,ext_take]; simp only [List.append_assoc])⟩ (by dsimp only; omega)
    ·
     exact absurd (m_pos hk hbk hbm) (by simp only [gt_iff_lt,decide_eq_false_iff_not] at hc6; omega)
   ·
    refine B4 (E':=[⟨0,[],.string (sv.extract k sv.size)⟩,⟨3,[],pt b1⟩,⟨5,[],.int .i64 (-1)⟩,⟨6,[],.int .i64 (-1)⟩]) [0] [0,3,5,6] (k:=A0 (A1 (A1 (G_p [0,0] [0,3,5,6,24] (k:=A0 (C9 kr (A9 (A0 ?_))))))))
    refine A1 (A1 (G_p [0,0] [0,3,5,6,30] (k:=A0 (C7 kr (A1 (A3 (E0 Tryz.func92 (writeByteC b1 (pt b1) (v3) g4 (t++(sv.extract 0 k)) (Nat.toUInt8 38) bld1 hB5 (by (try simp only [H9]); omega) _ _) ?_)))))))
    rintro _ _ ⟨v15,g16,hB17,rfl⟩
    refine A8 [] [0,3] (k:=A0 (A1 (A3 (A4 (j:=1) [0] (k:=O2 (sv.extract k sv.size) 1 ((sv.extract k sv.size).size:Int) (by omega) (A8 [0] [0,3] (k:=A0 (E3 ?_))))))))
    refine A6 (B5 (D2 (s':=(pt b1,v15,g16,((t++(sv.extract 0 k))++⟨#[Nat.toUInt8 38]⟩),(sv.extract k sv.size).extract 1 (sv.extract k sv.size).size)) [0,3] kr rfl ⟨bld1,hB17,(by dsimp only; omega),(by dsimp only; simp only [H9,sz38]; omega),(by dsimp only; rw [← hT,unA hk hbk hnk hnm,F9,F9,ext_take,lit38]; simp only [List.append_assoc,List.cons_append,List.nil_append])⟩ (by dsimp only; omega)))
 ·
  refine A8 [0] [0,3,4] (k:=A0 (A1 (A1 (G_p [0,0] [0,3,4,10] (k:=A0 (C7 kr (A1 (A3 ?_))))))))
  refine A4 (j:=1) [0] (k:=E0 Tryz.func90 (N2 b1 (p) (v) g t sv hbp hB (by (try simp only [H9]); omega) _ _) ?_)
  rintro _ _ ⟨v18,g19,hB20,rfl⟩
  refine B4 (E':=[⟨3,[],pt b1⟩]) [] [3] (k:=A0 (A1 (A3 (E0 Tryz.func53 (Y9 b1 (pt b1) (v18) g19 (t++sv) hB20 (by (try simp only [H9]); omega) _ _) ?_))))
  rintro _ _ ⟨rfl,rfl⟩
  refine B4 (E':=[⟨2,[],.string (t++sv)⟩]) [0] [2] (k:=A0 (B8 (A5 (B3 (A5 (B3 (E9 1 [] (B7 [.tmp 2] [.string (t++sv)] (k:=?_)))))))))
  exact ⟨congrArg Value.string (ba_eq (by rw [← hT,unC hnk,F9])),rfl⟩
end Go.Proofs.YtppgfiklmfoaeaaGreatDoor
namespace Go.Proofs.YtppgfiklmfoaeaaGreatDoor
open Go.Sw Go.Sha Go.Esc Go.RowKit Go.Json Go.Xml
theorem Tri_alloc {P:Program} {f:FuncId} {args:Array Value} {W0:World} {H:List Grp} {v:Nat→Value} {o:Obj} (h:∀ w,Sat W0 H w→Calls P f args w fun e w'=>e=.returned (v w.heap.size)∧w'=w.alloc o):Tri P f args W0 H (fun u H'=>∃ b,u=v b∧H'=[(b,o)]::H) :=
  fun w hs=>(h w hs).mono fun e w' ⟨he,hw⟩=>⟨_,_,he,⟨w.heap.size,rfl,rfl⟩,by subst hw; exact hs.new rfl rfl rfl rfl⟩
theorem splitW (l:List UInt8) (hl:l.length≤1000000000) (W0:World) (H:List Grp) (hX:P2 W0):Tri Tryz.prog 167 #[.string (bk l),.string (mB #[38])] W0 H (fun v H'=>∃ b,v=.slice (some ⟨b,0,none⟩) ((C6 38 l).2.length+1) ((C6 38 l).2.length+1)∧H'=[(b,.cells (strV ((C6 38 l).1::(C6 38 l).2)).toArray 9 (0,0))]::H):=by
  obtain ⟨m,h1,h2⟩:=hX.max
  have hs:=split_pieces 38 l.length l (Nat.le_refl _)
  have hc:Lib.countB (bk l) (mB #[38])=(C6 38 l).2.length:=hs.2
  have hd:(Lib.splitB (mB #[38]) 0 (Lib.countB (bk l) (mB #[38])) (bk l)).map Value.string=strV ((C6 38 l).1::(C6 38 l).2):=by
    have h3:=Lib.splitB_data (mB #[38]) 0 (Lib.countB (bk l) (mB #[38])) (bk l)
    have h4:Lib.splitK [38] 0 (Lib.countB (bk l) (mB #[38])) l=(C6 38 l).1::(C6 38 l).2:=hs.1
    rw [← h4]
    have h5:(Lib.splitB (mB #[38]) 0 (Lib.countB (bk l) (mB #[38])) (bk l)).map (·.data.toList)=Lib.splitK [38] 0 (Lib.countB (bk l) (mB #[38])) l:=h3
    rw [← h5]
    unfold strV
    rw [List.map_map]
    rfl
  refine (Tri_alloc (v:=fun b=>.slice (some ⟨b,0,none⟩) (Lib.countB (bk l) (mB #[38])+1) (Lib.countB (bk l) (mB #[38])+1)) (o:=.cells ((Lib.splitB (mB #[38]) 0 (Lib.countB (bk l) (mB #[38])) (bk l)).map Value.string).toArray 9 (0,0)) (fun w' hs=>Tryz.strings_Split (bk l) (mB #[38]) m w' (by rw [C8]; omega) (cell_base hs h1 h2) (Nat.le_refl _))).post fun v H' ⟨b,hv,hH⟩=>⟨H',⟨b,?_,?_⟩,fun _ h=>h⟩
  · rw [hv,hc]
  · rw [hH,hd]
theorem rd_tail {b:Nat} {v:Value} {cs:List Value} {e:TypeId} {fz:Nat × Nat}:Rd (inG [(b,.cells (v::cs).toArray e fz)]) (some ⟨b,1,none⟩) cs :=
  .inr ⟨b,1,_,_,_,rfl,List.mem_singleton.2 rfl,fun j u h=>by rw [List.getElem?_toArray,Nat.add_comm,List.getElem?_cons_succ]; exact h⟩
theorem rd_cut {b n:Nat} {v:Value} {cs:List Value} {e:TypeId} {fz:Nat × Nat} (hn:cs.length+1=n):Rd (inG [(b,.cells (v::cs).toArray e fz)]) (cutA (some ⟨b,0,none⟩) n 1 1) cs:=by
  cases cs with
  | nil=>exact .inl rfl
  | cons u t=>rw [Go.Sw.cut_some (by rw [← hn,List.length_cons]; omega)]; exact rd_tail
theorem cat38 (l:List UInt8):(mB #[38])++bk l=bk (38::l):=by
  apply ByteArray.ext; apply Array.ext'
  rw [ByteArray.data_append,Array.toList_append]; rfl
theorem xrefs_ (r:Nat) (q:XS) (s:List UInt8) (hs:s.length≤1000000) (W0:World) (H:List Grp) (hX:P2 W0):Tri Tryz.prog 144 #[pt r,.string (bk s)] W0 ([(r,.cells #[.string (bk q.1),.int .i64 q.2] 97 (0,0))]::H) (fun v H'=>v=.string (bk (M9 s q).1)∧H'=rdX r (M9 s q).2::H):=by
 have hW:T0 W0:=hX.base
 have hls:=V3 s
 obtain ⟨hp0,hp1,hp2⟩:=pieces_len 38 (C1 s)
 refine D4 50 Tryz.func144 ?_
 refine A1 (B9 (E':=[⟨0,[],pt r⟩,⟨1,[],.string (bk s)⟩]) [0] [0,1] (k:=A0 (A1 (A3 (L0 9 4 [.string (mB #[13,10]),.string (mB #[10]),.string (mB #[13]),.string (mB #[10])] (fun b1=>E0 Tryz.func148 (newRepC_ b1 _ _) ?_))))))
 rintro _ _ ⟨rb2,ra2,rcap2,rg2,rfl,hOwn2,rfl⟩
 have hRT2:Rd (inG rg2) ra2 crT:=by
  obtain ⟨a2,c2,e,_,h⟩:=hOwn2.shape
  injection e with e1; subst e1; exact h
 refine A4 (j:=3) [0] (k:=E0 Tryz.func149 (crReplace_ rb2 ra2 rcap2 rg2 hRT2 s (by omega) _ _) ?_)
 rintro _ _ ⟨rfl,rfl⟩
 refine A8 [0] [0,1] (k:=A0 (A1 (A1 (A3 (A4 (j:=1) [0] (k:=E0 Tryz.func167 (splitW (C1 s) (by omega) _ _ hX) ?_))))))
 rintro _ _ ⟨sb,rfl,rfl⟩
 refine GL_sliceL (ch:=[]) (a:=(some ⟨sb,0,none⟩)) (len:=((C6 38 (C1 s)).2.length+1)) (cap:=((C6 38 (C1 s)).2.length+1)) (e:=9) (sz:=1) (vl:=(some (.int .i64 1))) (vh:=none) (l:=1) (h:=((((C6 38 (C1 s)).2.length+1):Nat):Int)) (hb:=(by intro _; exact ⟨by omega,by omega,by omega⟩)) (k:=?_)
 obtain ⟨sa,hsa⟩:∃ sa,sa=cutA (some ⟨sb,0,none⟩) ((C6 38 (C1 s)).2.length+1) 1 1:=⟨_,rfl⟩
 have hrs:Rd (inG [(sb,.cells (strV ((C6 38 (C1 s)).1::(C6 38 (C1 s)).2)).toArray 9 (0,0))]) sa (strV (C6 38 (C1 s)).2):=by rw [hsa]; exact rd_cut (congrArg (·+1) (strV_len _))
 refine F6 14 (x:=.slice (cutA (some ⟨sb,0,none⟩) ((C6 38 (C1 s)).2.length+1) 1 1) ((Int.toNat ((((C6 38 (C1 s)).2.length+1):Nat):Int)) - 1) (((C6 38 (C1 s)).2.length+1) - 1)) (y:=.slice sa ((C6 38 (C1 s)).2.length) ((C6 38 (C1 s)).2.length)) (by rw [← hsa,Int.toNat_natCast,Nat.add_sub_cancel]) (A8 [0,0] [0,1,14,15,16] (k:=A0 (B2 (V6 (H':=([(sb,.cells (strV ((C6 38 (C1 s)).1::(C6 38 (C1 s)).2)).toArray 9 (0,0))]::[(b1,.cells #[.string (mB #[13,10]),.string (mB #[10]),.string (mB #[13]),.string (mB #[10])] 9 (0,0))]::[(r,.cells #[.string (bk (pcX (C6 38 (C1 s)).2 0 q).1),.int .i64 ((pcX (C6 38 (C1 s)).2 0 q).2)] 97 (0,0))]::H)) (fun w h=>by rw [pcX_0]; exact h) (I3 (EI:=(fun ξ:Nat=>[⟨0,[],pt r⟩,⟨1,[],.string (bk (C1 s))⟩,⟨14,[],.slice sa ((C6 38 (C1 s)).2.length) ((C6 38 (C1 s)).2.length)⟩,⟨15,[],.int .i64 (((C6 38 (C1 s)).2.length:Nat):Int)⟩,⟨16,[],.int .i64 ((ξ:Nat):Int)⟩])) (HI:=(fun ξ:Nat=>([(sb,.cells (strV ((C6 38 (C1 s)).1::(C6 38 (C1 s)).2)).toArray 9 (0,0))]::[(b1,.cells #[.string (mB #[13,10]),.string (mB #[10]),.string (mB #[13]),.string (mB #[10])] 9 (0,0))]::[(r,.cells #[.string (bk (pcX (C6 38 (C1 s)).2 ξ q).1),.int .i64 ((pcX (C6 38 (C1 s)).2 ξ q).2)] 97 (0,0))]::H))) (Φ:=(fun ξ:Nat=>(ξ≤(C6 38 (C1 s)).2.length))) (μ:=(fun ξ:Nat=>(C6 38 (C1 s)).2.length - ξ)) (s0:=(0)) [0,1,14,15,16] kr rfl (Nat.zero_le _) ?_)))))
 rintro k hkl
 refine A1 (G_p [0] [0,1,14,15,16,17] (k:=A0 (A1 (B0 (b:=decide (((k:Nat):Int)<(((C6 38 (C1 s)).2.length:Nat):Int))) kr (fun hc3=>?_) (fun hc3=>?_)))))
 ·
  have hk:k<(C6 38 (C1 s)).2.length:=by have:=hc3; simp only [decide_eq_true_eq] at this; omega
  refine A9 (A0 (A1 (B2 (A1 (A3 (E6 ((C6 38 (C1 s)).2.length) ((k:Nat):Int) 1 hrs (by exact ⟨by omega,by omega,by intro h; have:=congrArg List.length h; rw [strV_len] at this; simp only [List.length_nil] at this; omega⟩) ?_))))))
  obtain ⟨p,hp⟩:∃ p,p=(C6 38 (C1 s)).2[k]'hk:=⟨_,rfl⟩
  have hpl:p.length≤(C1 s).length:=hp1 p (by rw [hp]; exact List.getElem_mem hk)
  have hpz:=C8 p
  refine I0 (k * 1) (.string (bk p)) hrs (D9 0 rfl) (fun _=>(by rw [Nat.mul_one,hp]; exact strV_at hk)) (A8 [0] [0,1,6,14,15,16] (k:=A0 (A1 ?_)))
  rcases hI:idxL [59] p with _ | i
  ·
   have hbp:badX ((C6 38 (C1 s)).2[k]'hk)=true:=by rw [← hp]; exact bad_none hI
   refine A3 (A4 (j:=1) [0] (k:=F8 Tryz.func168 (idx_ (bk p) 59 _ _) (F6 21 (x:=.int .i64 (bIdx (bk p) 59)) (y:=.int .i64 (-1)) (by rw [bidx_none hI]) (A8 [0] [0,1,6,7,14,15,16] (k:=A0 (A1 (G_pD [0,0,0,1,1,1,1,1,1,1,1,1,1,1,1,2] [0,1,14,15,16,37] kr kr rfl kr (A0 ?_))))))))
   refine C7 kr (A3 (A4 (j:=1) [0] (k:=O0 0 [2] (E0 Tryz.func64 (M7 r (pcX (C6 38 (C1 s)).2 k q) 70 _ _) ?_))))
   rintro _ _ rfl
   refine A8 [] [0,1,14,15,16] (k:=B6 (A0 (A3 (A4 (j:=1) [0] (k:=D0 40 (((k:Nat):Int)+1) (by omega) (by omega) kr (B4 (E':=[⟨0,[],pt r⟩,⟨1,[],.string (bk (C1 s))⟩,⟨14,[],.slice sa ((C6 38 (C1 s)).2.length) ((C6 38 (C1 s)).2.length)⟩,⟨15,[],.int .i64 (((C6 38 (C1 s)).2.length:Nat):Int)⟩,⟨16,[],.int .i64 (((k:Nat):Int)+1)⟩]) [0] [0,1,14,15,16] (k:=E9 0 [1,1,0] (Y0 (H':=([(sb,.cells (strV ((C6 38 (C1 s)).1::(C6 38 (C1 s)).2)).toArray 9 (0,0))]::[(b1,.cells #[.string (mB #[13,10]),.string (mB #[10]),.string (mB #[13]),.string (mB #[10])] 9 (0,0))]::[(r,.cells #[.string (bk (F0 70 (pcX (C6 38 (C1 s)).2 k q)).1),.int .i64 ((F0 70 (pcX (C6 38 (C1 s)).2 k q)).2)] 97 (0,0))]::H)) kr ?_))))))))
   refine Y0 (H':=([(sb,.cells (strV ((C6 38 (C1 s)).1::(C6 38 (C1 s)).2)).toArray 9 (0,0))]::[(b1,.cells #[.string (mB #[13,10]),.string (mB #[10]),.string (mB #[13]),.string (mB #[10])] 9 (0,0))]::[(r,.cells #[.string (bk (pcX (C6 38 (C1 s)).2 (k+1) q).1),.int .i64 ((pcX (C6 38 (C1 s)).2 (k+1) q).2)] 97 (0,0))]::H)) (by rw [pcX_bad hk hbp]) (D2 (s':=(k+1)) [0,1,14,15,16] kr kr (by omega) (by omega))
  ·
   obtain ⟨_,_,hip⟩:=Y8 hI
   refine A3 (A4 (j:=1) [0] (k:=F8 Tryz.func168 (idx_ (bk p) 59 _ _) (F6 21 (x:=.int .i64 (bIdx (bk p) 59)) (y:=.int .i64 ((i:Nat):Int)) (by rw [bidx_some hI]) (A8 [0] [0,1,6,7,14,15,16] (k:=A0 (A1 (H0 (k:=A4 (j:=2) [0,0] (k:=?_)))))))))
   refine F6 23 (x:=.bool (decide (((i:Nat):Int)<0))) (y:=.bool false) (by rw [show decide (((i:Nat):Int)<0)=false from decide_eq_false (by omega)]) ?_
   have hw5:IntKind.wrap .i64 (((i:Nat):Int)+1)=((i:Nat):Int)+1:=w64 (by omega) (by omega)
   refine A4 (j:=6) [0,0,0,0] (k:=Q5 27 [(24,false)] (x:=.int .i64 (IntKind.wrap .i64 (((i:Nat):Int)+1))) (y:=.int .i64 (((i:Nat):Int)+1)) (by simp only [hw5]) (GL_sliceS (ch:=[(24,false)]) (s:=(bk p)) (vl:=none) (vh:=(some (.int .i64 (((i:Nat):Int)+1)))) (l:=0) (h:=((i:Nat):Int)+1) (hb:=(fun hc=>by first | exact ⟨by omega,by omega,by omega⟩ | exact ⟨by omega,by rw [C8]; omega,by rw [C8]; omega⟩ | (show 1+(bk (p.take (i+1))).size≤_; rw [C8,List.length_take]; omega))) (k:=Q5 28 [(24,false)] (x:=.string ((bk p).extract 0 (Int.toNat (((i:Nat):Int)+1)))) (y:=.string (bk (p.take (i+1)))) (by rw [show Int.toNat (((i:Nat):Int)+1)=i+1 by omega,ext_bkT]) (GL_concat (i:=7) (ch:=[(24,false)]) (s:=(mB #[38])) (u:=(bk (p.take (i+1)))) rfl rfl kr kr kr kr kr (fun hc=>by first | exact ⟨by omega,by omega,by omega⟩ | exact ⟨by omega,by rw [C8]; omega,by rw [C8]; omega⟩ | (show 1+(bk (p.take (i+1))).size≤_; rw [C8,List.length_take]; omega)) (Q5 29 [(24,false)] (x:=.string ((mB #[38])++(bk (p.take (i+1))))) (y:=.string (bk (38::p.take (i+1)))) (by rw [cat38]) (N1 [(24,false)] Tryz.func169 (fun hc=>unhtml_ (bk (38::p.take (i+1))) (by rw [C8]; first | omega | (rw [List.length_cons,List.length_take]; omega) | (have:=un_len (C1 s); omega)) _ _ hW) ?_))))))
   have hw6:IntKind.wrap .i64 (((i:Nat):Int)+1)=((i:Nat):Int)+1:=w64 (by omega) (by omega)
   refine A4 (j:=12) [0,0,0] (k:=Q5 33 [(24,false)] (x:=.int .i64 (IntKind.wrap .i64 (((i:Nat):Int)+1))) (y:=.int .i64 (((i:Nat):Int)+1)) (by simp only [hw6]) (GL_sliceS (ch:=[(24,false)]) (s:=(bk p)) (vl:=none) (vh:=(some (.int .i64 (((i:Nat):Int)+1)))) (l:=0) (h:=((i:Nat):Int)+1) (hb:=(fun hc=>by first | exact ⟨by omega,by omega,by omega⟩ | exact ⟨by omega,by rw [C8]; omega,by rw [C8]; omega⟩ | (show 1+(bk (p.take (i+1))).size≤_; rw [C8,List.length_take]; omega))) (k:=Q5 34 [(24,false)] (x:=.string ((bk p).extract 0 (Int.toNat (((i:Nat):Int)+1)))) (y:=.string (bk (p.take (i+1)))) (by rw [show Int.toNat (((i:Nat):Int)+1)=i+1 by omega,ext_bkT]) (GL_concat (i:=13) (ch:=[(24,false)]) (s:=(mB #[38])) (u:=(bk (p.take (i+1)))) rfl rfl kr kr kr kr kr (fun hc=>by first | exact ⟨by omega,by omega,by omega⟩ | exact ⟨by omega,by rw [C8]; omega,by rw [C8]; omega⟩ | (show 1+(bk (p.take (i+1))).size≤_; rw [C8,List.length_take]; omega)) (Q5 35 [(24,false)] (x:=.string ((mB #[38])++(bk (p.take (i+1))))) (y:=.string (bk (38::p.take (i+1)))) (by rw [cat38]) (A8 [0,3] [0,1,14,15,16,37] (k:=A0 (B0 (b:=(bk (unL (38::p.take (i+1)))).toList==(bk (38::p.take (i+1))).toList) kr (fun hc7=>?_) (fun hc7=>?_)))))))))
   ·
    have hbp:badX ((C6 38 (C1 s)).2[k]'hk)=true:=by rw [← hp,bad_some hI]; exact beq_iff_eq.2 ((eqB _ _).1 hc7)
    refine A3 (A4 (j:=1) [0] (k:=O0 0 [2] (E0 Tryz.func64 (M7 r (pcX (C6 38 (C1 s)).2 k q) 70 _ _) ?_)))
    rintro _ _ rfl
    refine A8 [] [0,1,14,15,16] (k:=B6 (A0 (A3 (A4 (j:=1) [0] (k:=D0 40 (((k:Nat):Int)+1) (by omega) (by omega) kr (B4 (E':=[⟨0,[],pt r⟩,⟨1,[],.string (bk (C1 s))⟩,⟨14,[],.slice sa ((C6 38 (C1 s)).2.length) ((C6 38 (C1 s)).2.length)⟩,⟨15,[],.int .i64 (((C6 38 (C1 s)).2.length:Nat):Int)⟩,⟨16,[],.int .i64 (((k:Nat):Int)+1)⟩]) [0] [0,1,14,15,16] (k:=E9 0 [1,1,0] (Y0 (H':=([(sb,.cells (strV ((C6 38 (C1 s)).1::(C6 38 (C1 s)).2)).toArray 9 (0,0))]::[(b1,.cells #[.string (mB #[13,10]),.string (mB #[10]),.string (mB #[13]),.string (mB #[10])] 9 (0,0))]::[(r,.cells #[.string (bk (F0 70 (pcX (C6 38 (C1 s)).2 k q)).1),.int .i64 ((F0 70 (pcX (C6 38 (C1 s)).2 k q)).2)] 97 (0,0))]::H)) kr ?_))))))))
    refine Y0 (H':=([(sb,.cells (strV ((C6 38 (C1 s)).1::(C6 38 (C1 s)).2)).toArray 9 (0,0))]::[(b1,.cells #[.string (mB #[13,10]),.string (mB #[10]),.string (mB #[13]),.string (mB #[10])] 9 (0,0))]::[(r,.cells #[.string (bk (pcX (C6 38 (C1 s)).2 (k+1) q).1),.int .i64 ((pcX (C6 38 (C1 s)).2 (k+1) q).2)] 97 (0,0))]::H)) (by rw [pcX_bad hk hbp]) (D2 (s':=(k+1)) [0,1,14,15,16] kr kr (by omega) (by omega))
   ·
    have hbp:badX ((C6 38 (C1 s)).2[k]'hk)=false:=by rw [← hp,bad_some hI]; exact beq_eq_false_iff_ne.2 ((eqBf _ _).1 hc7)
    refine A9 (B6 (A0 (A3 (A4 (j:=1) [0] (k:=D0 40 (((k:Nat):Int)+1) (by omega) (by omega) kr (A8 [0] [0,1,14,15,16] (k:=Y0 (H':=([(sb,.cells (strV ((C6 38 (C1 s)).1::(C6 38 (C1 s)).2)).toArray 9 (0,0))]::[(b1,.cells #[.string (mB #[13,10]),.string (mB #[10]),.string (mB #[13]),.string (mB #[10])] 9 (0,0))]::[(r,.cells #[.string (bk (pcX (C6 38 (C1 s)).2 (k+1) q).1),.int .i64 ((pcX (C6 38 (C1 s)).2 (k+1) q).2)] 97 (0,0))]::H)) (by rw [pcX_good hk hbp]) (D2 (s':=(k+1)) [0,1,14,15,16] kr rfl (by omega) (by omega)))))))))
 ·
  have hk:k=(C6 38 (C1 s)).2.length:=by have:=hc3; simp only [decide_eq_false_iff_not] at this; omega
  refine E3 (A6 (A6 (B5 (A0 (A1 (A3 (A4 (j:=1) [0] (k:=F8 Tryz.func169 (unhtml_ (bk (C1 s)) (by rw [C8]; first | omega | (rw [List.length_cons,List.length_take]; omega) | (have:=un_len (C1 s); omega)) _ _ hW) ?_))))))))
  refine A8 [0] [0,1] (k:=A0 (A1 (A1 (A3 (A4 (j:=1) [0] (k:=F8 Tryz.func60 (plain_ (bk (unL (C1 s))) (by rw [C8]; first | omega | (rw [List.length_cons,List.length_take]; omega) | (have:=un_len (C1 s); omega)) _ _) (A8 [0,0] [0,1,46] (k:=A0 ?_))))))))
  refine B0 (b:=!((bk (D6 (unL (C1 s)))).toList==(bk (unL (C1 s))).toList)) kr (fun hc10=>?_) (fun hc10=>?_)
  ·
   have hp9:D6 (unL (C1 s))≠unL (C1 s):=(eqBf _ _).1 (by simpa only [Bool.not_eq_true'] using hc10)
   refine A3 (A4 (j:=1) [0] (k:=O0 0 [2] (E0 Tryz.func64 (M7 r (pcX (C6 38 (C1 s)).2 k q) 70 _ _) ?_)))
   rintro _ _ rfl
   refine B4 (E':=[⟨1,[],.string (bk (unL (C1 s)))⟩]) [] [1] (k:=A0 (A1 (B9 (E':=[⟨4,[],.string (bk (unL (C1 s)))⟩]) [0,0] [4] (k:=A0 (B8 (E9 2 [0] (B7 [.tmp 4] [.string (bk (unL (C1 s)))] (k:=?_))))))))
   exact ⟨by rw [refs_yes hp9]; try rfl,by rw [refs_yes hp9,← hk]; try rfl⟩
  ·
   have hp9:D6 (unL (C1 s))=unL (C1 s):=(eqB _ _).1 (by simpa only [Bool.not_eq_false'] using hc10)
   refine A9 (A0 (A1 (B9 (E':=[⟨4,[],.string (bk (unL (C1 s)))⟩]) [0,0] [4] (k:=A0 (B8 (E9 2 [2] (B7 [.tmp 4] [.string (bk (unL (C1 s)))] (k:=?_))))))))
   exact ⟨by rw [refs_no hp9]; try rfl,by rw [refs_no hp9,← hk]; try rfl⟩
end Go.Proofs.YtppgfiklmfoaeaaGreatDoor
namespace Go.Proofs.YtppgfiklmfoaeaaGreatDoor
open Go.Sw Go.Sha Go.Esc Go.RowKit Go.Json Go.Xml
theorem xattrs_ (r:Nat) (q:XS) (hl:q.1.length≤1000000) (W0:World) (H:List Grp) (hX:P2 W0):Tri Tryz.prog 104 #[pt r] W0 ([(r,.cells #[.string (bk q.1),.int .i64 q.2] 97 (0,0))]::H) (fun v H'=>∃ a cap g,v=.slice a (E8 (q.1.length+1) [] q).1.length cap∧Go.Sw.Own 137 4 (.slice a (E8 (q.1.length+1) [] q).1.length cap) g (E8 (q.1.length+1) [] q).1.length (atV (E8 (q.1.length+1) [] q).1)∧H'=rdX r (E8 (q.1.length+1) [] q).2::g::H):=by
 refine D4 74 Tryz.func104 ?_
 refine A1 (B9 (E':=[⟨0,[],pt r⟩]) [0] [0] (k:=A0 (A1 (G_p [0] [0,3] (k:=A0 (A1 (B2 (V6 (H':=([(r,.cells #[.string (bk q.1),.int .i64 q.2] 97 (0,0))]::[]::H)) (fun w h=>Sat.flat h (List.Perm.refl _)) ?_))))))))
 refine I3 (EI:=(fun ξ:Nat × List AT × XS × Nat × Option Addr × Nat × Grp=>[⟨0,[],pt r⟩,⟨3,[],.slice ξ.2.2.2.2.1 ξ.2.2.2.1 ξ.2.2.2.2.2.1⟩])) (HI:=(fun ξ:Nat × List AT × XS × Nat × Option Addr × Nat × Grp=>([(r,.cells #[.string (bk ξ.2.2.1.1),.int .i64 ξ.2.2.1.2] 97 (0,0))]::ξ.2.2.2.2.2.2::H))) (Φ:=(fun ξ:Nat × List AT × XS × Nat × Option Addr × Nat × Grp=>(E8 (q.1.length+1) [] q=E8 ξ.1 ξ.2.1 ξ.2.2.1)∧(ξ.2.2.1.2=0→ξ.2.2.1.1.length<ξ.1)∧(ξ.2.2.1.1.length≤1000000)∧(Go.Sw.Own 137 4 (.slice ξ.2.2.2.2.1 ξ.2.2.2.1 ξ.2.2.2.2.2.1) ξ.2.2.2.2.2.2 ξ.2.2.2.1 (atV ξ.2.1))∧(ξ.2.2.2.1=ξ.2.1.length)∧(ξ.2.2.2.1+ξ.1≤1000002))) (μ:=(fun ξ:Nat × List AT × XS × Nat × Option Addr × Nat × Grp=>ξ.1)) (s0:=((q.1.length+1),[],q,0,none,0,[])) [0,3] kr rfl ⟨rfl,(fun _=>Nat.lt_succ_self _),hl,Go.Sw.Own.nil,rfl,(by show 0+(q.1.length+1)≤_; omega)⟩ ?_
 rintro ⟨n,acc,q2,nl,ra,rc,rg⟩ ⟨hT,hn,hl2,hO,hnl,hb⟩
 dsimp only at hT hn hl2 hO hnl hb
 refine A1 (A1 ?_)
 by_cases hq0:q2.2=0
 ·
  have hnq:=hn hq0
  obtain ⟨m,rfl⟩:∃ m,n=m+1:=⟨n - 1,by omega⟩
  have hbl:=X7 q2.1
  have hqe:(eqX (blk q2.1,q2.2)).1.length≤(blk q2.1).length:=eqX_le (blk q2.1,q2.2)
  refine A3 (A4 (j:=3) [0,0,0] (k:=C4 0 1 rfl rfl (A4 (j:=5) [0] (k:=F6 9 (x:=.bool (q2.2==0)) (y:=.bool true) (by rw [show (q2.2==0)=true by simpa using hq0]) (A4 (j:=7) [0,0] (k:=Z2 (ch:=[(10,true)]) (f:=100) (fst:=#[]) (caps:=#[]) (vs:=[pt r]) (hf:=Tryz.func100) (hsure:=Q0 kr) (hc:=xskip2_ r q2 _ _) (k:=?_)))))))
  rintro _ _ (⟨hs1,rfl,rfl⟩ | ⟨hs1,rfl,rfl⟩)
  ·
   have hsk:(blk q2.1).length<q2.1.length:=hs1
   refine A4 (j:=13) [2,0,0,0,0] (k:=C2 (ch:=[(14,true)]) (b:=r) (off:=0) (v:=.string (bk (blk q2.1,q2.2).1)) (hA:=At.grp 0 0 rfl rfl) (k:=N1 [(14,true)] Tryz.func77 (fun hc=>jhas_ (bk (blk q2.1,q2.2).1) (mB #[62]) _ _) (A4 (j:=21) [0,2,0,0,0,0] (k:=C2 (ch:=[(22,true)]) (b:=r) (off:=0) (v:=.string (bk (blk q2.1,q2.2).1)) (hA:=At.grp 0 0 rfl rfl) (k:=N1 [(22,true)] Tryz.func77 (fun hc=>jhas_ (bk (blk q2.1,q2.2).1) (mB #[47,62]) _ _) (A8 [0,6] [0,3,29] (k:=A0 (B0 (b:=(!(J2 (bk (blk q2.1,q2.2).1) (mB #[62])))&&(!(J2 (bk (blk q2.1,q2.2).1) (mB #[47,62])))) kr (fun hc2=>?_) (fun hc2=>?_)))))))))
   ·
    simp only [Bool.and_eq_true,Bool.not_eq_true'] at hc2
    have hp1:¬ [62].isPrefixOf (blk q2.1)=true:=fun hn=>(O5 _ _).1 hc2.1 (pre_iff.2 hn)
    have hp2:¬ [47,62].isPrefixOf (blk q2.1)=true:=fun hn=>(O5 _ _).1 hc2.2 (pre_iff.2 hn)
    refine A9 (A0 (B2 (A1 (A3 (J5 (.agg #[.string eB,.string eB,.string eB,.bool false]) (fun b3=>A8 [] [0,3,4] (k:=A0 (A1 ?_))))))))
    refine A3 (A4 (j:=1) [0] (k:=O0 0 [1] (E0 (vs:=[pt r]) Tryz.func103 (xqual_ r (blk q2.1,q2.2) (by first | (show (blk q2.1).length≤_; omega) | (show (List.drop 1 (eqX (blk q2.1,q2.2)).1).length≤_; rw [List.length_drop]; omega)) _ _) ?_)))
    rintro _ _ ⟨rfl,rfl⟩
    refine A4 (j:=7) [0,0,0,0,0] (k:=E4 1 0 (.string (bk (A7 (blk q2.1,q2.2)).1.pre)) rfl (A4 (j:=9) [0] (k:=E4 1 1 (.string (bk (A7 (blk q2.1,q2.2)).1.name)) rfl (A4 (j:=11) [0] (k:=E4 1 3 (.bool ((A7 (blk q2.1,q2.2)).1.has)) rfl (A8 [] [0,3,4] (k:=A0 (A1 ?_))))))))
    refine A3 (A4 (j:=1) [0] (k:=E0 Tryz.func100 (xskip_ r ((A7 (blk q2.1,q2.2)).2) _ _) ?_))
    rintro _ _ ⟨rfl,rfl⟩
    refine A8 [] [0,3,4] (k:=A0 (A1 (A3 (A4 (j:=1) [0] (k:=E0 Tryz.func62 (xmust_ r (blk ((A7 (blk q2.1,q2.2)).2).1,((A7 (blk q2.1,q2.2)).2).2) [61] _ _) ?_)))))
    rintro _ _ rfl
    refine A8 [] [0,3,4] (k:=A0 (A1 (A3 (A4 (j:=1) [0] (k:=E0 Tryz.func100 (xskip_ r (D3 [61] (blk ((A7 (blk q2.1,q2.2)).2).1,((A7 (blk q2.1,q2.2)).2).2)) _ _) ?_)))))
    rintro _ _ ⟨rfl,rfl⟩
    refine B4 (E':=[⟨0,[],pt r⟩,⟨3,[],.slice ra nl rc⟩,⟨4,[],pt b3⟩]) [] [0,3,4] (k:=A0 (A1 (S0 (T:=Unit) (fun _:Unit=>[⟨0,[],pt r⟩,⟨3,[],.slice ra nl rc⟩,⟨4,[],pt b3⟩]) (fun _:Unit=>([(r,.cells #[.string (bk ((E7 (eqX (blk q2.1,q2.2))).2).1),.int .i64 (((E7 (eqX (blk q2.1,q2.2))).2).2)] 97 (0,0))]::[(b3,.cells #[.string (bk (A7 (blk q2.1,q2.2)).1.pre),.string (bk (A7 (blk q2.1,q2.2)).1.name),.string (bk (E7 (eqX (blk q2.1,q2.2))).1),.bool ((A7 (blk q2.1,q2.2)).1.has)] 137 (0,0))]::rg::H)) (fun _:Unit=>True) ?_ ?_)))
    ·
     refine B2 (A1 (A3 (A4 (j:=1) [0] (k:=E0 Tryz.func102 (xtake_ r (blk (D3 [61] (blk ((A7 (blk q2.1,q2.2)).2).1,((A7 (blk q2.1,q2.2)).2).2)).1,(D3 [61] (blk ((A7 (blk q2.1,q2.2)).2).1,((A7 (blk q2.1,q2.2)).2).2)).2) [34] _ _) ?_))))
     rintro _ _ (⟨hk6,rfl,rfl⟩ | ⟨hk6,rfl,rfl⟩)
     ·
      have hk6:[34].isPrefixOf (blk (D3 [61] (blk ((A7 (blk q2.1,q2.2)).2).1,((A7 (blk q2.1,q2.2)).2).2)).1,(D3 [61] (blk ((A7 (blk q2.1,q2.2)).2).1,((A7 (blk q2.1,q2.2)).2).2)).2).1=true:=hk6
      have hq1:=hk6
      refine A8 [0] [0,3,4,47] (k:=A0 (C7 kr (A3 (A4 (j:=1) [0] (k:=E0 (vs:=[pt r,.string (mB #[34])]) Tryz.func141 (xuntil_ r ((blk (D3 [61] (blk ((A7 (blk q2.1,q2.2)).2).1,((A7 (blk q2.1,q2.2)).2).2)).1,(D3 [61] (blk ((A7 (blk q2.1,q2.2)).2).1,((A7 (blk q2.1,q2.2)).2).2)).2).1.drop 1,(blk (D3 [61] (blk ((A7 (blk q2.1,q2.2)).2).1,((A7 (blk q2.1,q2.2)).2).2)).1,(D3 [61] (blk ((A7 (blk q2.1,q2.2)).2).1,((A7 (blk q2.1,q2.2)).2).2)).2).2) [34] (by first | (show (blk q2.1).length≤_; omega) | (show (List.drop 1 (eqX (blk q2.1,q2.2)).1).length≤_; rw [List.length_drop]; omega)) _ _ hX) ?_)))))
      rintro _ _ ⟨rfl,rfl⟩
      refine A4 (j:=3) [0] (k:=E4 1 2 (.string (bk (H3 [34] ((blk (D3 [61] (blk ((A7 (blk q2.1,q2.2)).2).1,((A7 (blk q2.1,q2.2)).2).2)).1,(D3 [61] (blk ((A7 (blk q2.1,q2.2)).2).1,((A7 (blk q2.1,q2.2)).2).2)).2).1.drop 1,(blk (D3 [61] (blk ((A7 (blk q2.1,q2.2)).2).1,((A7 (blk q2.1,q2.2)).2).2)).1,(D3 [61] (blk ((A7 (blk q2.1,q2.2)).2).1,((A7 (blk q2.1,q2.2)).2).2)).2).2)).1)) rfl (A8 [] [0,3,4] (k:=B6 (Q1 (E':=[⟨0,[],pt r⟩,⟨3,[],.slice ra nl rc⟩,⟨4,[],pt b3⟩]) kr ?_))))
      have hq9:(E7 (eqX (blk q2.1,q2.2)))=H3 [34] ((blk (D3 [61] (blk ((A7 (blk q2.1,q2.2)).2).1,((A7 (blk q2.1,q2.2)).2).2)).1,(D3 [61] (blk ((A7 (blk q2.1,q2.2)).2).1,((A7 (blk q2.1,q2.2)).2).2)).2).1.drop 1,(blk (D3 [61] (blk ((A7 (blk q2.1,q2.2)).2).1,((A7 (blk q2.1,q2.2)).2).2)).1,(D3 [61] (blk ((A7 (blk q2.1,q2.2)).2).1,((A7 (blk q2.1,q2.2)).2).2)).2).2):=quote_1 hq1
      refine Y0 (H':=([(r,.cells #[.string (bk ((H3 [34] ((blk (D3 [61] (blk ((A7 (blk q2.1,q2.2)).2).1,((A7 (blk q2.1,q2.2)).2).2)).1,(D3 [61] (blk ((A7 (blk q2.1,q2.2)).2).1,((A7 (blk q2.1,q2.2)).2).2)).2).1.drop 1,(blk (D3 [61] (blk ((A7 (blk q2.1,q2.2)).2).1,((A7 (blk q2.1,q2.2)).2).2)).1,(D3 [61] (blk ((A7 (blk q2.1,q2.2)).2).1,((A7 (blk q2.1,q2.2)).2).2)).2).2)).2).1),.int .i64 (((H3 [34] ((blk (D3 [61] (blk ((A7 (blk q2.1,q2.2)).2).1,((A7 (blk q2.1,q2.2)).2).2)).1,(D3 [61] (blk ((A7 (blk q2.1,q2.2)).2).1,((A7 (blk q2.1,q2.2)).2).2)).2).1.drop 1,(blk (D3 [61] (blk ((A7 (blk q2.1,q2.2)).2).1,((A7 (blk q2.1,q2.2)).2).2)).1,(D3 [61] (blk ((A7 (blk q2.1,q2.2)).2).1,((A7 (blk q2.1,q2.2)).2).2)).2).2)).2).2)] 97 (0,0))]::[(b3,.cells #[.string (bk (A7 (blk q2.1,q2.2)).1.pre),.string (bk (A7 (blk q2.1,q2.2)).1.name),.string (bk (H3 [34] ((blk (D3 [61] (blk ((A7 (blk q2.1,q2.2)).2).1,((A7 (blk q2.1,q2.2)).2).2)).1,(D3 [61] (blk ((A7 (blk q2.1,q2.2)).2).1,((A7 (blk q2.1,q2.2)).2).2)).2).1.drop 1,(blk (D3 [61] (blk ((A7 (blk q2.1,q2.2)).2).1,((A7 (blk q2.1,q2.2)).2).2)).1,(D3 [61] (blk ((A7 (blk q2.1,q2.2)).2).1,((A7 (blk q2.1,q2.2)).2).2)).2).2)).1),.bool ((A7 (blk q2.1,q2.2)).1.has)] 137 (0,0))]::rg::H)) kr (Y0 (H':=([(r,.cells #[.string (bk ((E7 (eqX (blk q2.1,q2.2))).2).1),.int .i64 (((E7 (eqX (blk q2.1,q2.2))).2).2)] 97 (0,0))]::[(b3,.cells #[.string (bk (A7 (blk q2.1,q2.2)).1.pre),.string (bk (A7 (blk q2.1,q2.2)).1.name),.string (bk (E7 (eqX (blk q2.1,q2.2))).1),.bool ((A7 (blk q2.1,q2.2)).1.has)] 137 (0,0))]::rg::H)) (by rw [hq9]; try rfl) (G8 (()) [0,3,4] kr (fun w h=>h) trivial))
     ·
      have hk6:¬ [34].isPrefixOf (blk (D3 [61] (blk ((A7 (blk q2.1,q2.2)).2).1,((A7 (blk q2.1,q2.2)).2).2)).1,(D3 [61] (blk ((A7 (blk q2.1,q2.2)).2).1,((A7 (blk q2.1,q2.2)).2).2)).2).1=true:=hk6
      have hq1:=hk6
      refine A8 [0] [0,3,4,47] (k:=A0 (C9 kr (A1 (A3 (A4 (j:=1) [0] (k:=E0 Tryz.func102 (xtake_ r (blk (D3 [61] (blk ((A7 (blk q2.1,q2.2)).2).1,((A7 (blk q2.1,q2.2)).2).2)).1,(D3 [61] (blk ((A7 (blk q2.1,q2.2)).2).1,((A7 (blk q2.1,q2.2)).2).2)).2) [39] _ _) ?_))))))
      rintro _ _ (⟨hk7,rfl,rfl⟩ | ⟨hk7,rfl,rfl⟩)
      ·
       have hk7:[39].isPrefixOf (blk (D3 [61] (blk ((A7 (blk q2.1,q2.2)).2).1,((A7 (blk q2.1,q2.2)).2).2)).1,(D3 [61] (blk ((A7 (blk q2.1,q2.2)).2).1,((A7 (blk q2.1,q2.2)).2).2)).2).1=true:=hk7
       have hq2:=hk7
       refine A8 [0] [0,3,4,53] (k:=A0 (C7 kr (A3 (A4 (j:=1) [0] (k:=E0 (vs:=[pt r,.string (mB #[39])]) Tryz.func141 (xuntil_ r ((blk (D3 [61] (blk ((A7 (blk q2.1,q2.2)).2).1,((A7 (blk q2.1,q2.2)).2).2)).1,(D3 [61] (blk ((A7 (blk q2.1,q2.2)).2).1,((A7 (blk q2.1,q2.2)).2).2)).2).1.drop 1,(blk (D3 [61] (blk ((A7 (blk q2.1,q2.2)).2).1,((A7 (blk q2.1,q2.2)).2).2)).1,(D3 [61] (blk ((A7 (blk q2.1,q2.2)).2).1,((A7 (blk q2.1,q2.2)).2).2)).2).2) [39] (by first | (show (blk q2.1).length≤_; omega) | (show (List.drop 1 (eqX (blk q2.1,q2.2)).1).length≤_; rw [List.length_drop]; omega)) _ _ hX) ?_)))))
       rintro _ _ ⟨rfl,rfl⟩
       refine A4 (j:=3) [0] (k:=E4 1 2 (.string (bk (H3 [39] ((blk (D3 [61] (blk ((A7 (blk q2.1,q2.2)).2).1,((A7 (blk q2.1,q2.2)).2).2)).1,(D3 [61] (blk ((A7 (blk q2.1,q2.2)).2).1,((A7 (blk q2.1,q2.2)).2).2)).2).1.drop 1,(blk (D3 [61] (blk ((A7 (blk q2.1,q2.2)).2).1,((A7 (blk q2.1,q2.2)).2).2)).1,(D3 [61] (blk ((A7 (blk q2.1,q2.2)).2).1,((A7 (blk q2.1,q2.2)).2).2)).2).2)).1)) rfl (A8 [] [0,3,4] (k:=B6 (Q1 (E':=[⟨0,[],pt r⟩,⟨3,[],.slice ra nl rc⟩,⟨4,[],pt b3⟩]) kr ?_))))
       have hq9:(E7 (eqX (blk q2.1,q2.2)))=H3 [39] ((blk (D3 [61] (blk ((A7 (blk q2.1,q2.2)).2).1,((A7 (blk q2.1,q2.2)).2).2)).1,(D3 [61] (blk ((A7 (blk q2.1,q2.2)).2).1,((A7 (blk q2.1,q2.2)).2).2)).2).1.drop 1,(blk (D3 [61] (blk ((A7 (blk q2.1,q2.2)).2).1,((A7 (blk q2.1,q2.2)).2).2)).1,(D3 [61] (blk ((A7 (blk q2.1,q2.2)).2).1,((A7 (blk q2.1,q2.2)).2).2)).2).2):=quote_2 hq1 hq2
       refine Y0 (H':=([(r,.cells #[.string (bk ((H3 [39] ((blk (D3 [61] (blk ((A7 (blk q2.1,q2.2)).2).1,((A7 (blk q2.1,q2.2)).2).2)).1,(D3 [61] (blk ((A7 (blk q2.1,q2.2)).2).1,((A7 (blk q2.1,q2.2)).2).2)).2).1.drop 1,(blk (D3 [61] (blk ((A7 (blk q2.1,q2.2)).2).1,((A7 (blk q2.1,q2.2)).2).2)).1,(D3 [61] (blk ((A7 (blk q2.1,q2.2)).2).1,((A7 (blk q2.1,q2.2)).2).2)).2).2)).2).1),.int .i64 (((H3 [39] ((blk (D3 [61] (blk ((A7 (blk q2.1,q2.2)).2).1,((A7 (blk q2.1,q2.2)).2).2)).1,(D3 [61] (blk ((A7 (blk q2.1,q2.2)).2).1,((A7 (blk q2.1,q2.2)).2).2)).2).1.drop 1,(blk (D3 [61] (blk ((A7 (blk q2.1,q2.2)).2).1,((A7 (blk q2.1,q2.2)).2).2)).1,(D3 [61] (blk ((A7 (blk q2.1,q2.2)).2).1,((A7 (blk q2.1,q2.2)).2).2)).2).2)).2).2)] 97 (0,0))]::[(b3,.cells #[.string (bk (A7 (blk q2.1,q2.2)).1.pre),.string (bk (A7 (blk q2.1,q2.2)).1.name),.string (bk (H3 [39] ((blk (D3 [61] (blk ((A7 (blk q2.1,q2.2)).2).1,((A7 (blk q2.1,q2.2)).2).2)).1,(D3 [61] (blk ((A7 (blk q2.1,q2.2)).2).1,((A7 (blk q2.1,q2.2)).2).2)).2).1.drop 1,(blk (D3 [61] (blk ((A7 (blk q2.1,q2.2)).2).1,((A7 (blk q2.1,q2.2)).2).2)).1,(D3 [61] (blk ((A7 (blk q2.1,q2.2)).2).1,((A7 (blk q2.1,q2.2)).2).2)).2).2)).1),.bool ((A7 (blk q2.1,q2.2)).1.has)] 137 (0,0))]::rg::H)) kr (Y0 (H':=([(r,.cells #[.string (bk ((E7 (eqX (blk q2.1,q2.2))).2).1),.int .i64 (((E7 (eqX (blk q2.1,q2.2))).2).2)] 97 (0,0))]::[(b3,.cells #[.string (bk (A7 (blk q2.1,q2.2)).1.pre),.string (bk (A7 (blk q2.1,q2.2)).1.name),.string (bk (E7 (eqX (blk q2.1,q2.2))).1),.bool ((A7 (blk q2.1,q2.2)).1.has)] 137 (0,0))]::rg::H)) (by rw [hq9]; try rfl) (G8 (()) [0,3,4] kr (fun w h=>h) trivial))
      ·
       have hk7:¬ [39].isPrefixOf (blk (D3 [61] (blk ((A7 (blk q2.1,q2.2)).2).1,((A7 (blk q2.1,q2.2)).2).2)).1,(D3 [61] (blk ((A7 (blk q2.1,q2.2)).2).1,((A7 (blk q2.1,q2.2)).2).2)).2).1=true:=hk7
       have hq2:=hk7
       refine A8 [0] [0,3,4,53] (k:=A0 (C9 kr (A3 (A4 (j:=1) [0] (k:=E0 Tryz.func64 (M7 r (blk (D3 [61] (blk ((A7 (blk q2.1,q2.2)).2).1,((A7 (blk q2.1,q2.2)).2).2)).1,(D3 [61] (blk ((A7 (blk q2.1,q2.2)).2).1,((A7 (blk q2.1,q2.2)).2).2)).2) 70 _ _) ?_)))))
       rintro _ _ rfl
       refine A8 [] [0,3,4] (k:=B6 (Q1 (E':=[⟨0,[],pt r⟩,⟨3,[],.slice ra nl rc⟩,⟨4,[],pt b3⟩]) kr ?_))
       have hq9:(E7 (eqX (blk q2.1,q2.2)))=([],F0 70 (blk (D3 [61] (blk ((A7 (blk q2.1,q2.2)).2).1,((A7 (blk q2.1,q2.2)).2).2)).1,(D3 [61] (blk ((A7 (blk q2.1,q2.2)).2).1,((A7 (blk q2.1,q2.2)).2).2)).2)):=quote_3 hq1 hq2
       refine Y0 (H':=([(r,.cells #[.string (bk ((E7 (eqX (blk q2.1,q2.2))).2).1),.int .i64 (((E7 (eqX (blk q2.1,q2.2))).2).2)] 97 (0,0))]::[(b3,.cells #[.string (bk (A7 (blk q2.1,q2.2)).1.pre),.string (bk (A7 (blk q2.1,q2.2)).1.name),.string (bk (E7 (eqX (blk q2.1,q2.2))).1),.bool ((A7 (blk q2.1,q2.2)).1.has)] 137 (0,0))]::rg::H)) (by rw [hq9]; try rfl) (G8 (()) [0,3,4] kr (fun w h=>h) trivial)
    ·
     rintro _ _
     refine A0 (A1 (A1 (A3 (A4 (j:=1) [0] (k:=C4 1 2 rfl rfl (E0 Tryz.func143 (hasW [60] (E7 (eqX (blk q2.1,q2.2))).1 (by have:=(quote_le (eqX (blk q2.1,q2.2))).1; omega) _ _ hX) ?_))))))
     rintro _ _ ⟨rfl,rfl⟩
     refine A8 [] [0,3,4,61] (k:=A0 (B0 (b:=(idxL [60] (E7 (eqX (blk q2.1,q2.2))).1).isSome) kr (fun hc8=>?_) (fun hc8=>?_)))
     ·
      have hc9:(idxL [60] (E7 (eqX (blk q2.1,q2.2))).1).isSome=true:=hc8
      refine A3 (A4 (j:=1) [0] (k:=E0 Tryz.func64 (M7 r ((E7 (eqX (blk q2.1,q2.2))).2) 70 _ _) ?_))
      rintro _ _ rfl
      refine A8 [] [0,3,4] (k:=A0 (A1 (A3 (A4 (j:=2) [0,0] (k:=C4 1 2 rfl rfl (E0 Tryz.func144 (xrefs_ r (F0 70 ((E7 (eqX (blk q2.1,q2.2))).2)) ((E7 (eqX (blk q2.1,q2.2))).1) (by have:=(quote_le (eqX (blk q2.1,q2.2))).1; omega) _ _ hX) ?_))))))
      rintro _ _ ⟨rfl,rfl⟩
      refine A4 (j:=5) [0] (k:=E4 1 2 (.string (bk (M9 ((E7 (eqX (blk q2.1,q2.2))).1) (F0 70 ((E7 (eqX (blk q2.1,q2.2))).2))).1)) rfl (A8 [] [0,3,4] (k:=A0 (A3 (A4 (j:=1) [0] (k:=I7 1 0 4 rfl (L0 137 1 [.string (bk (A7 (blk q2.1,q2.2)).1.pre),.string (bk (A7 (blk q2.1,q2.2)).1.name),.string (bk (M9 ((E7 (eqX (blk q2.1,q2.2))).1) (F0 70 ((E7 (eqX (blk q2.1,q2.2))).2))).1),.bool ((A7 (blk q2.1,q2.2)).1.has)] (fun b9=>O4 (inf:=Tryz.t137) 1 0 3 rfl rfl hO (by omega) (by show (nl+1) * 56≤140737488355328; omega) (fun v10 g11 hO12=>?_)))))))))
      obtain ⟨a13,cap14,rfl,hcap15,hrd16⟩:=hO12.shape
      refine A8 [0] [0,3] (k:=B6 (E9 2 [1,2] (D2 (s':=(m,(acc++[AT.mk (A7 (blk q2.1,q2.2)).1 (M9 (E7 (eqX (blk q2.1,q2.2))).1 (F0 70 (E7 (eqX (blk q2.1,q2.2))).2)).1]),(M9 ((E7 (eqX (blk q2.1,q2.2))).1) (F0 70 ((E7 (eqX (blk q2.1,q2.2))).2))).2,(nl+1),a13,cap14,g11)) [0,3] kr kr ⟨(by dsimp only; rw [hT,attrs_go hq0 hsk hp1 hp2,attr_yes hc9]),(by dsimp only; intro _; have h9:=attrX_le (blk q2.1,q2.2); rw [attr_yes hc9] at h9; dsimp only at h9; omega),(by dsimp only; have h9:=attrX_le (blk q2.1,q2.2); rw [attr_yes hc9] at h9; dsimp only at h9; omega),(by dsimp only; rw [atV_app]; exact hO12),(by dsimp only; rw [List.length_append,hnl]; rfl),(by dsimp only; omega)⟩ (by dsimp only; omega))))
     ·
      have hc9:(idxL [60] (E7 (eqX (blk q2.1,q2.2))).1).isSome=false:=hc8
      refine A9 (A0 (A1 (A3 (A4 (j:=2) [0,0] (k:=C4 1 2 rfl rfl (E0 Tryz.func144 (xrefs_ r ((E7 (eqX (blk q2.1,q2.2))).2) ((E7 (eqX (blk q2.1,q2.2))).1) (by have:=(quote_le (eqX (blk q2.1,q2.2))).1; omega) _ _ hX) ?_))))))
      rintro _ _ ⟨rfl,rfl⟩
      refine A4 (j:=5) [0] (k:=E4 1 2 (.string (bk (M9 ((E7 (eqX (blk q2.1,q2.2))).1) ((E7 (eqX (blk q2.1,q2.2))).2)).1)) rfl (A8 [] [0,3,4] (k:=A0 (A3 (A4 (j:=1) [0] (k:=I7 1 0 4 rfl (L0 137 1 [.string (bk (A7 (blk q2.1,q2.2)).1.pre),.string (bk (A7 (blk q2.1,q2.2)).1.name),.string (bk (M9 ((E7 (eqX (blk q2.1,q2.2))).1) ((E7 (eqX (blk q2.1,q2.2))).2)).1),.bool ((A7 (blk q2.1,q2.2)).1.has)] (fun b17=>O4 (inf:=Tryz.t137) 1 0 3 rfl rfl hO (by omega) (by show (nl+1) * 56≤140737488355328; omega) (fun v18 g19 hO20=>?_)))))))))
      obtain ⟨a21,cap22,rfl,hcap23,hrd24⟩:=hO20.shape
      refine A8 [0] [0,3] (k:=B6 (E9 2 [1,2] (D2 (s':=(m,(acc++[AT.mk (A7 (blk q2.1,q2.2)).1 (M9 (E7 (eqX (blk q2.1,q2.2))).1 (E7 (eqX (blk q2.1,q2.2))).2).1]),(M9 ((E7 (eqX (blk q2.1,q2.2))).1) ((E7 (eqX (blk q2.1,q2.2))).2)).2,(nl+1),a21,cap22,g19)) [0,3] kr kr ⟨(by dsimp only; rw [hT,attrs_go hq0 hsk hp1 hp2,attr_no hc9]),(by dsimp only; intro _; have h9:=attrX_le (blk q2.1,q2.2); rw [attr_no hc9] at h9; dsimp only at h9; omega),(by dsimp only; have h9:=attrX_le (blk q2.1,q2.2); rw [attr_no hc9] at h9; dsimp only at h9; omega),(by dsimp only; rw [atV_app]; exact hO20),(by dsimp only; rw [List.length_append,hnl]; rfl),(by dsimp only; omega)⟩ (by dsimp only; omega))))
   ·
    simp only [Bool.and_eq_false_iff,Bool.not_eq_false'] at hc2
    have hps:[62].isPrefixOf (blk q2.1)=true∨[47,62].isPrefixOf (blk q2.1)=true:=hc2.imp (fun h=>pre_iff.1 ((O8 (bk (blk q2.1)) (mB #[62])).1 h)) (fun h=>pre_iff.1 ((O8 (bk (blk q2.1)) (mB #[47,62])).1 h))
    refine E3 (A6 (A6 (B5 (A0 (A1 (B9 (E':=[⟨2,[],.slice ra nl rc⟩]) [0,0] [2] (k:=A0 (B8 ?_))))))))
    refine B7 [.tmp 2] [.slice ra nl rc] (k:=?_)
    subst hnl; rw [hT,attrs_stop hq0 (.inr hps)]; exact ⟨_,_,_,rfl,hO,rfl⟩
  ·
   have hsk:¬ (blk q2.1).length<q2.1.length:=hs1
   refine A8 [2,0,1,1,1,1,1,1,3,0,1,1,1,1,1,1,3] [0,3,29] (k:=A0 (C9 kr (E3 (A6 (A6 (B5 (A0 (A1 ?_))))))))
   refine B9 (E':=[⟨2,[],.slice ra nl rc⟩]) [0,0] [2] (k:=A0 (B8 (B7 [.tmp 2] [.slice ra nl rc] (k:=?_))))
   subst hnl; rw [hT,attrs_stop hq0 (.inl hsk)]; exact ⟨_,_,_,rfl,hO,rfl⟩
 ·
  refine A3 (A4 (j:=3) [0,0,0] (k:=C4 0 1 rfl rfl (A4 (j:=5) [0] (k:=F6 9 (x:=.bool (q2.2==0)) (y:=.bool false) (by rw [show (q2.2==0)=false by simpa using hq0]) (A8 [0,1,1,3,0,1,1,1,1,1,1,3,0,1,1,1,1,1,1,3] [0,3,29] (k:=A0 (C9 kr (E3 ?_))))))))
  refine A6 (A6 (B5 (A0 (A1 (B9 (E':=[⟨2,[],.slice ra nl rc⟩]) [0,0] [2] (k:=A0 (B8 (B7 [.tmp 2] [.slice ra nl rc] (k:=?_)))))))))
  subst hnl; rw [hT,attrs_ne hq0]; exact ⟨_,_,_,rfl,hO,rfl⟩
end Go.Proofs.YtppgfiklmfoaeaaGreatDoor
namespace Go.Proofs.YtppgfiklmfoaeaaGreatDoor
open Go.Sw Go.Sha Go.Esc Go.RowKit Go.Json Go.Xml
theorem xclone_ (kb kc:Nat) (km:SM) (W0:World) (H:List Grp):Tri Tryz.prog 145 #[.map (some kb)] W0 ([(kb,.map (F2 km) kc)]::H) (fun v H'=>∃ b,v=.map (some b)∧H'=[(b,.map (F2 km) kc)]::[(kb,.map (F2 km) kc)]::H):=by
 refine D4 9 Tryz.func145 ?_
 refine A1 (B9 (E':=[⟨0,[],.map (some kb)⟩]) [0] [0] (k:=A0 (A1 (A1 (G_p [0,0] [0,4] (k:=A0 (C9 kr (A9 ?_))))))))
 refine A0 (A1 (A3 (A4 (j:=2) [0,0] (k:=GL_cloneX (i:=2) (ch:=[]) (f:=170) (t:=100) (r:=kb) (clock:=kc) (es:=F2 km) rfl rfl rfl kr kr Tryz.func170 kr rfl kr kr kr kr kr (At.grp 0 0 rfl rfl) (fun b1=>GL_assert (i:=3) (ch:=[]) (xt:=20) (t:=100) (k:=9) (e:=9) (v:=.map (some b1)) rfl rfl kr kr kr kr kr (B4 (E':=[⟨2,[],.map (some b1)⟩]) [0] [2] (k:=A0 (B8 ?_))))))))
 refine B7 [.tmp 2] [.map (some b1)] (k:=?_)
 exact ⟨_,rfl,rfl⟩
theorem xspaces_ (r:Nat) (q:XS) (ats:List AT) (a:Option Addr) (c:Nat) (S:Nat→Obj→Prop) (hrd:Rd S a (atV ats)) (hal:ats.length≤1000002) (ms mc:Nat) (M:SM) (sp:SPX) (hM:SpR M sp) (W0:World) (H:List Grp) (hS:∀ y o,S y o→At W0 H y o):Tri Tryz.prog 105 #[pt r,.slice a ats.length c,.map (some ms)] W0 ([(r,.cells #[.string (bk q.1),.int .i64 q.2] 97 (0,0))]::[(ms,.map (F2 M) mc)]::H) (fun v H'=>∃ mo Mo co,v=.map (some mo)∧SpR Mo (L7 ats [] sp q).1∧H'=rdX r (L7 ats [] sp q).2::[(mo,.map (F2 Mo) co)]::[(ms,.map (F2 M) mc)]::H):=by
 refine D4 61 Tryz.func105 ?_
 refine A1 (G_p [0] [0,1,2] (k:=A0 (A1 (A3 (A4 (j:=1) [0] (k:=O0 0 [1] (E0 Tryz.func145 (xclone_ ms mc M _ _) ?_)))))))
 rintro _ _ ⟨mo,rfl,rfl⟩
 refine A8 [0] [0,1,7] (k:=A0 (A1 (A3 (GL_makeMap (i:=0) (ch:=[]) rfl rfl kr kr kr (fun b1=>A8 [0] [0,1,7,8] (k:=A0 (A1 (A1 ?_))))))))
 refine G_p [0,0,0] [0,7,8,15,16,17] (k:=A0 (B2 (G_pkT 0 [3,1,0,0] ([(r,.cells #[.string (bk q.1),.int .i64 q.2] 97 (0,0))]::[(mo,.map (F2 M) mc)]::[(b1,.map (F2 ([])) 0)]::[(ms,.map (F2 M) mc)]::H) (I3 (EI:=(fun ξ:Nat × XS × SPX × List (List UInt8) × SM × Nat × SM × Nat=>[⟨0,[],pt r⟩,⟨7,[],.map (some mo)⟩,⟨8,[],.map (some b1)⟩,⟨15,[],.slice a ats.length c⟩,⟨16,[],.int .i64 ((ats.length:Nat):Int)⟩,⟨17,[],.int .i64 ((ξ.1:Nat):Int)⟩])) (HI:=(fun ξ:Nat × XS × SPX × List (List UInt8) × SM × Nat × SM × Nat=>([(r,.cells #[.string (bk ξ.2.1.1),.int .i64 ξ.2.1.2] 97 (0,0))]::[(mo,.map (F2 ξ.2.2.2.2.1) ξ.2.2.2.2.2.1)]::[(b1,.map (F2 ξ.2.2.2.2.2.2.1) ξ.2.2.2.2.2.2.2)]::[(ms,.map (F2 M) mc)]::H))) (Φ:=(fun ξ:Nat × XS × SPX × List (List UInt8) × SM × Nat × SM × Nat=>(ξ.1≤ats.length)∧((L7 ats [] sp q)=L7 (ats.drop ξ.1) ξ.2.2.2.1 ξ.2.2.1 ξ.2.1)∧(SpR ξ.2.2.2.2.1 ξ.2.2.1)∧(SeR ξ.2.2.2.2.2.2.1 ξ.2.2.2.1))) (μ:=(fun ξ:Nat × XS × SPX × List (List UInt8) × SM × Nat × SM × Nat=>ats.length - ξ.1)) (s0:=(0,q,sp,[],M,mc,[],0)) [0,7,8,15,16,17] kr kr ⟨(Nat.zero_le _),rfl,hM,SeR.nil⟩ ?_))))
 rintro ⟨k,q2,sp2,seen,Mo,co,Ms,cs⟩ ⟨hkl,hT,hMo,hMs⟩
 dsimp only at hkl hT hMo hMs
 refine A1 (G_p [0] [0,7,8,15,16,17,18] (k:=A0 (A1 (B0 (b:=decide (((k:Nat):Int)<((ats.length:Nat):Int))) kr (fun hc2=>?_) (fun hc2=>?_)))))
 ·
  have hk:k<ats.length:=by have:=hc2; simp only [decide_eq_true_eq] at this; omega
  refine A9 (A0 (A1 (B2 (A1 (A3 (E6 ats.length ((k:Nat):Int) 4 hrd (by exact ⟨by omega,by omega,by intro h; have:=congrArg List.length h; rw [atV_len] at this; simp only [List.length_nil] at this; omega⟩) ?_))))))
  obtain ⟨x,hx⟩:∃ x,x=ats[k]'hk:=⟨_,rfl⟩
  refine G9 (ch:=[]) (a:=a) (q:=k * 4) (S:=S) (cs:=(atV ats)) (l:=[.string (bk x.q.pre),.string (bk x.q.name),.string (bk x.value),.bool x.q.has]) (hrd:=hrd) (hS:=(fun y o h=>At.cons (At.cons (At.cons (At.cons (hS y o h)))))) (hl:=List.cons_ne_nil _ _) (hv:=(fun _=>(elt4 (by rw [hx]; exact atV_at hk)))) (k:=J5 (.agg #[.string eB,.string eB,.string eB,.bool false]) (fun b3=>E4 0 0 (.agg #[.string (bk x.q.pre),.string (bk x.q.name),.string (bk x.value),.bool x.q.has]) rfl (A8 [] [0,7,8,10,15,16,17] (k:=A0 (A1 (A3 (A4 (j:=1) [0] (k:=C4 0 1 rfl rfl ?_))))))))
  refine A8 [0] [0,7,8,10,11,15,16,17] (k:=A0 (A1 (A1 (A3 (A4 (j:=1) [0] (k:=C4 0 3 rfl rfl (A4 (j:=5) [0,0,0] (k:=C2 (ch:=[(26,true)]) (b:=b3) (off:=1) (v:=.string (bk x.q.name)) (hA:=At.grp 0 0 rfl rfl) (k:=?_)))))))))
  refine A8 [0,6] [0,7,8,10,11,15,16,17,30] (k:=A0 (B0 (b:=(!x.q.has)&&((bk x.q.name).toList==(mB #[120,109,108,110,115]).toList)) kr (fun hc4=>?_) (fun hc4=>?_)))
  ·
   have hd:P7 x=some []:=by have h:=hc4; simp only [Bool.and_eq_true,Bool.not_eq_true'] at h; exact decl_own h.1 ((eqB _ _).1 h.2)
   refine G_p [0] [0,7,8,10,11,15,16,17] (k:=A0 (A1 (A1 (A3 (A4 (j:=2) [0,0] (k:=?_))))))
   by_cases hps:([]:List UInt8)∈seen
   ·
    refine Y3 (ch:=[]) (kt:=9) (et:=4) (r:=b1) (c:=cs) (m:=Ms) (k:=eB) (z:=.bool false) (ov:=(some (.bool true))) (hA:=At.grp 3 0 rfl rfl) (hg:=(fun _=>(by have h:=hMs ([]:List UInt8); rw [if_pos hps] at h; exact h))) (kk:=B4 (E':=[⟨0,[],pt r⟩,⟨7,[],.map (some mo)⟩,⟨8,[],.map (some b1)⟩,⟨10,[],pt b3⟩,⟨11,[],.string eB⟩,⟨15,[],.slice a ats.length c⟩,⟨16,[],.int .i64 ((ats.length:Nat):Int)⟩,⟨17,[],.int .i64 ((k:Nat):Int)⟩,⟨50,[],.bool true⟩]) [0,1,1,1,1,1,1,1,2] [0,7,8,10,11,15,16,17,50] (k:=A0 (C7 kr (A3 (A4 (j:=1) [0] (k:=O0 0 [1] (E0 Tryz.func64 (M7 r q2 70 _ _) ?_)))))))
    rintro _ _ rfl
    refine A8 [] [0,7,8,10,11,15,16,17] (k:=A0 (A1 (A3 (A4 (j:=2) [0,0] (k:=M2 (ch:=[]) (kt:=9) (et:=4) (r:=b1) (c:=cs) (j:=3) (q:=0) (m:=Ms) (k:=eB) (v:=.bool true) (H':=([(r,.cells #[.string (bk (F0 70 q2).1),.int .i64 ((F0 70 q2).2)] 97 (0,0))]::[(b3,.cells #[.string (bk x.q.pre),.string (bk x.q.name),.string (bk x.value),.bool x.q.has] 137 (0,0))]::[(mo,.map (F2 Mo) co)]::[(b1,.map (F2 (J6 Ms cs eB (.bool true))) (if T3 Ms eB then cs else cs+1))]::[(ms,.map (F2 M) mc)]::H)) (hop:=.inl rfl) (kk:=A8 [] [0,7,8,10,11,15,16,17] (k:=A0 (A3 ?_))))))))
    refine A4 (j:=3) [0,0,0] (k:=C4 1 2 rfl rfl (M2 (ch:=[]) (kt:=9) (et:=9) (r:=mo) (c:=co) (j:=2) (q:=0) (m:=Mo) (k:=eB) (v:=.string (bk x.value)) (H':=([(r,.cells #[.string (bk (F0 70 q2).1),.int .i64 ((F0 70 q2).2)] 97 (0,0))]::[(b3,.cells #[.string (bk x.q.pre),.string (bk x.q.name),.string (bk x.value),.bool x.q.has] 137 (0,0))]::[(mo,.map (F2 (J6 Mo co eB (.string (bk x.value)))) (if T3 Mo eB then co else co+1))]::[(b1,.map (F2 (J6 Ms cs eB (.bool true))) (if T3 Ms eB then cs else cs+1))]::[(ms,.map (F2 M) mc)]::H)) (hop:=.inl rfl) (kk:=A8 [] [0,7,8,15,16,17] (k:=B6 (A0 (A3 (A4 (j:=1) [0] (k:=D0 59 (((k:Nat):Int)+1) (by omega) (by omega) kr ?_))))))))
    refine A8 [0] [0,7,8,15,16,17] (k:=E9 1 [0,1,1,1] (D2 (s':=((k+1),(F0 70 q2),((([]:List UInt8),x.value)::sp2),(([]:List UInt8)::seen),(J6 Mo co eB (.string (bk x.value))),(if T3 Mo eB then co else co+1),(J6 Ms cs eB (.bool true)),(if T3 Ms eB then cs else cs+1))) [0,7,8,15,16,17] kr kr ⟨(by dsimp only; omega),(by dsimp only; rw [hT,M1 hk,← hx,sp_step hd,if_pos (.inl hps)]),(hMo.put _ _ _),(hMs.put _ _)⟩ (by dsimp only; omega)))
   ·
    refine Y3 (ch:=[]) (kt:=9) (et:=4) (r:=b1) (c:=cs) (m:=Ms) (k:=eB) (z:=.bool false) (ov:=none) (hA:=At.grp 3 0 rfl rfl) (hg:=(fun _=>(by have h:=hMs ([]:List UInt8); rw [if_neg hps] at h; exact h))) (kk:=A4 (j:=5) [0,0] (k:=C2 (ch:=[(42,false)]) (b:=b3) (off:=3) (v:=.bool x.q.has) (hA:=At.grp 0 0 rfl rfl) (k:=A4 (j:=8) [0,0] (k:=C2 (ch:=[(45,true),(42,false)]) (b:=b3) (off:=2) (v:=.string (bk x.value)) (hA:=At.grp 0 0 rfl rfl) (k:=B4 (E':=[⟨0,[],pt r⟩,⟨7,[],.map (some mo)⟩,⟨8,[],.map (some b1)⟩,⟨10,[],pt b3⟩,⟨11,[],.string eB⟩,⟨15,[],.slice a ats.length c⟩,⟨16,[],.int .i64 ((ats.length:Nat):Int)⟩,⟨17,[],.int .i64 ((k:Nat):Int)⟩,⟨50,[],.bool (x.q.has&&((bk x.value).toList==eB.toList))⟩]) [0,6,3] [0,7,8,10,11,15,16,17,50] (k:=A0 (B0 (b:=x.q.has&&((bk x.value).toList==eB.toList)) kr (fun hc6=>?_) (fun hc6=>?_))))))))
    ·
     have hem:x.q.has=true∧x.value=[]:=by have h:=hc6; simp only [Bool.and_eq_true] at h; exact ⟨h.1,(eqB _ _).1 h.2⟩
     refine A3 (A4 (j:=1) [0] (k:=O0 0 [1] (E0 Tryz.func64 (M7 r q2 70 _ _) ?_)))
     rintro _ _ rfl
     refine A8 [] [0,7,8,10,11,15,16,17] (k:=A0 (A1 (A3 (A4 (j:=2) [0,0] (k:=M2 (ch:=[]) (kt:=9) (et:=4) (r:=b1) (c:=cs) (j:=3) (q:=0) (m:=Ms) (k:=eB) (v:=.bool true) (H':=([(r,.cells #[.string (bk (F0 70 q2).1),.int .i64 ((F0 70 q2).2)] 97 (0,0))]::[(b3,.cells #[.string (bk x.q.pre),.string (bk x.q.name),.string (bk x.value),.bool x.q.has] 137 (0,0))]::[(mo,.map (F2 Mo) co)]::[(b1,.map (F2 (J6 Ms cs eB (.bool true))) (if T3 Ms eB then cs else cs+1))]::[(ms,.map (F2 M) mc)]::H)) (hop:=.inl rfl) (kk:=A8 [] [0,7,8,10,11,15,16,17] (k:=A0 (A3 ?_))))))))
     refine A4 (j:=3) [0,0,0] (k:=C4 1 2 rfl rfl (M2 (ch:=[]) (kt:=9) (et:=9) (r:=mo) (c:=co) (j:=2) (q:=0) (m:=Mo) (k:=eB) (v:=.string (bk x.value)) (H':=([(r,.cells #[.string (bk (F0 70 q2).1),.int .i64 ((F0 70 q2).2)] 97 (0,0))]::[(b3,.cells #[.string (bk x.q.pre),.string (bk x.q.name),.string (bk x.value),.bool x.q.has] 137 (0,0))]::[(mo,.map (F2 (J6 Mo co eB (.string (bk x.value)))) (if T3 Mo eB then co else co+1))]::[(b1,.map (F2 (J6 Ms cs eB (.bool true))) (if T3 Ms eB then cs else cs+1))]::[(ms,.map (F2 M) mc)]::H)) (hop:=.inl rfl) (kk:=A8 [] [0,7,8,15,16,17] (k:=B6 (A0 (A3 (A4 (j:=1) [0] (k:=D0 59 (((k:Nat):Int)+1) (by omega) (by omega) kr ?_))))))))
     refine A8 [0] [0,7,8,15,16,17] (k:=E9 1 [0,1,1,1] (D2 (s':=((k+1),(F0 70 q2),((([]:List UInt8),x.value)::sp2),(([]:List UInt8)::seen),(J6 Mo co eB (.string (bk x.value))),(if T3 Mo eB then co else co+1),(J6 Ms cs eB (.bool true)),(if T3 Ms eB then cs else cs+1))) [0,7,8,15,16,17] kr kr ⟨(by dsimp only; omega),(by dsimp only; rw [hT,M1 hk,← hx,sp_step hd,if_pos (.inr hem)]),(hMo.put _ _ _),(hMs.put _ _)⟩ (by dsimp only; omega)))
    ·
     have hem:¬ (x.q.has=true∧x.value=[]):=fun h=>by have h2:=hc6; rw [h.1,show ((bk x.value).toList==eB.toList)=true from (eqB _ _).2 h.2] at h2; exact Bool.noConfusion h2
     refine A9 (A0 (A1 (A3 (A4 (j:=2) [0,0] (k:=M2 (ch:=[]) (kt:=9) (et:=4) (r:=b1) (c:=cs) (j:=3) (q:=0) (m:=Ms) (k:=eB) (v:=.bool true) (H':=([(b3,.cells #[.string (bk x.q.pre),.string (bk x.q.name),.string (bk x.value),.bool x.q.has] 137 (0,0))]::[(r,.cells #[.string (bk q2.1),.int .i64 q2.2] 97 (0,0))]::[(mo,.map (F2 Mo) co)]::[(b1,.map (F2 (J6 Ms cs eB (.bool true))) (if T3 Ms eB then cs else cs+1))]::[(ms,.map (F2 M) mc)]::H)) (hop:=.inl rfl) (kk:=A8 [] [0,7,8,10,11,15,16,17] (k:=A0 (A3 ?_))))))))
     refine A4 (j:=3) [0,0,0] (k:=C4 0 2 rfl rfl (M2 (ch:=[]) (kt:=9) (et:=9) (r:=mo) (c:=co) (j:=2) (q:=0) (m:=Mo) (k:=eB) (v:=.string (bk x.value)) (H':=([(b3,.cells #[.string (bk x.q.pre),.string (bk x.q.name),.string (bk x.value),.bool x.q.has] 137 (0,0))]::[(r,.cells #[.string (bk q2.1),.int .i64 q2.2] 97 (0,0))]::[(mo,.map (F2 (J6 Mo co eB (.string (bk x.value)))) (if T3 Mo eB then co else co+1))]::[(b1,.map (F2 (J6 Ms cs eB (.bool true))) (if T3 Ms eB then cs else cs+1))]::[(ms,.map (F2 M) mc)]::H)) (hop:=.inl rfl) (kk:=A8 [] [0,7,8,15,16,17] (k:=B6 (A0 (A3 (A4 (j:=1) [0] (k:=D0 59 (((k:Nat):Int)+1) (by omega) (by omega) kr ?_))))))))
     refine A8 [0] [0,7,8,15,16,17] (k:=E9 1 [1,1,1,1] (D2 (s':=((k+1),q2,((([]:List UInt8),x.value)::sp2),(([]:List UInt8)::seen),(J6 Mo co eB (.string (bk x.value))),(if T3 Mo eB then co else co+1),(J6 Ms cs eB (.bool true)),(if T3 Ms eB then cs else cs+1))) [0,7,8,15,16,17] kr kr ⟨(by dsimp only; omega),(by dsimp only; rw [hT,M1 hk,← hx,sp_step hd,if_neg (fun h=>h.elim hps hem)]),(hMo.put _ _ _),(hMs.put _ _)⟩ (by dsimp only; omega)))
  ·
   have hn1:¬ (x.q.has=false∧x.q.name=T1):=fun h=>by have h2:=hc4; rw [h.1,show ((bk x.q.name).toList==(mB #[120,109,108,110,115]).toList)=true from (eqB _ _).2 h.2] at h2; exact Bool.noConfusion h2
   refine A1 (A3 (A4 (j:=1) [0] (k:=C4 0 0 rfl rfl (A4 (j:=5) [0,0,0] (k:=C2 (ch:=[(34,false)]) (b:=b3) (off:=3) (v:=.bool x.q.has) (hA:=At.grp 0 0 rfl rfl) (k:=A8 [0,5] [0,7,8,10,11,15,16,17,38] (k:=A0 (B0 (b:=(!((bk x.q.pre).toList==(mB #[120,109,108,110,115]).toList))||(!x.q.has)) kr (fun hc9=>?_) (fun hc9=>?_)))))))))
   ·
    have hd:P7 x=none:=decl_none hn1 (fun h=>by have h2:=hc9; rw [h.1,show ((bk x.q.pre).toList==(mB #[120,109,108,110,115]).toList)=true from (eqB _ _).2 h.2] at h2; exact Bool.noConfusion h2)
    refine E3 (A6 (B5 (A0 (A3 (A4 (j:=1) [0] (k:=D0 59 (((k:Nat):Int)+1) (by omega) (by omega) kr (B4 (E':=[⟨0,[],pt r⟩,⟨7,[],.map (some mo)⟩,⟨8,[],.map (some b1)⟩,⟨15,[],.slice a ats.length c⟩,⟨16,[],.int .i64 ((ats.length:Nat):Int)⟩,⟨17,[],.int .i64 (((k:Nat):Int)+1)⟩]) [0] [0,7,8,15,16,17] (k:=E9 1 [1,1,1,1] ?_))))))))
    refine D2 (s':=((k+1),q2,sp2,seen,Mo,co,Ms,cs)) [0,7,8,15,16,17] kr kr ⟨(by dsimp only; omega),(by dsimp only; rw [hT,M1 hk,← hx,sp_step_no hd]),hMo,hMs⟩ (by dsimp only; omega)
   ·
    have hd:P7 x=some x.q.name:=by have h:=hc9; simp only [Bool.or_eq_false_iff,Bool.not_eq_false'] at h; exact decl_pre h.2 ((eqB _ _).1 h.1)
    refine A9 (A0 (A1 (A1 (A3 (A4 (j:=2) [0,0] (k:=?_))))))
    by_cases hps:x.q.name∈seen
    ·
     refine Y3 (ch:=[]) (kt:=9) (et:=4) (r:=b1) (c:=cs) (m:=Ms) (k:=(bk x.q.name)) (z:=.bool false) (ov:=(some (.bool true))) (hA:=At.grp 3 0 rfl rfl) (hg:=(fun _=>(by have h:=hMs x.q.name; rw [if_pos hps] at h; exact h))) (kk:=B4 (E':=[⟨0,[],pt r⟩,⟨7,[],.map (some mo)⟩,⟨8,[],.map (some b1)⟩,⟨10,[],pt b3⟩,⟨11,[],.string (bk x.q.name)⟩,⟨15,[],.slice a ats.length c⟩,⟨16,[],.int .i64 ((ats.length:Nat):Int)⟩,⟨17,[],.int .i64 ((k:Nat):Int)⟩,⟨50,[],.bool true⟩]) [0,1,1,1,1,1,1,1,2] [0,7,8,10,11,15,16,17,50] (k:=A0 (C7 kr (A3 (A4 (j:=1) [0] (k:=O0 0 [1] (E0 Tryz.func64 (M7 r q2 70 _ _) ?_)))))))
     rintro _ _ rfl
     refine A8 [] [0,7,8,10,11,15,16,17] (k:=A0 (A1 (A3 (A4 (j:=2) [0,0] (k:=M2 (ch:=[]) (kt:=9) (et:=4) (r:=b1) (c:=cs) (j:=3) (q:=0) (m:=Ms) (k:=(bk x.q.name)) (v:=.bool true) (H':=([(r,.cells #[.string (bk (F0 70 q2).1),.int .i64 ((F0 70 q2).2)] 97 (0,0))]::[(b3,.cells #[.string (bk x.q.pre),.string (bk x.q.name),.string (bk x.value),.bool x.q.has] 137 (0,0))]::[(mo,.map (F2 Mo) co)]::[(b1,.map (F2 (J6 Ms cs (bk x.q.name) (.bool true))) (if T3 Ms (bk x.q.name) then cs else cs+1))]::[(ms,.map (F2 M) mc)]::H)) (hop:=.inl rfl) (kk:=A8 [] [0,7,8,10,11,15,16,17] (k:=A0 (A3 ?_))))))))
     refine A4 (j:=3) [0,0,0] (k:=C4 1 2 rfl rfl (M2 (ch:=[]) (kt:=9) (et:=9) (r:=mo) (c:=co) (j:=2) (q:=0) (m:=Mo) (k:=(bk x.q.name)) (v:=.string (bk x.value)) (H':=([(r,.cells #[.string (bk (F0 70 q2).1),.int .i64 ((F0 70 q2).2)] 97 (0,0))]::[(b3,.cells #[.string (bk x.q.pre),.string (bk x.q.name),.string (bk x.value),.bool x.q.has] 137 (0,0))]::[(mo,.map (F2 (J6 Mo co (bk x.q.name) (.string (bk x.value)))) (if T3 Mo (bk x.q.name) then co else co+1))]::[(b1,.map (F2 (J6 Ms cs (bk x.q.name) (.bool true))) (if T3 Ms (bk x.q.name) then cs else cs+1))]::[(ms,.map (F2 M) mc)]::H)) (hop:=.inl rfl) (kk:=A8 [] [0,7,8,15,16,17] (k:=B6 (A0 (A3 (A4 (j:=1) [0] (k:=D0 59 (((k:Nat):Int)+1) (by omega) (by omega) kr ?_))))))))
     refine A8 [0] [0,7,8,15,16,17] (k:=E9 1 [0,1,1,1] (D2 (s':=((k+1),(F0 70 q2),((x.q.name,x.value)::sp2),(x.q.name::seen),(J6 Mo co (bk x.q.name) (.string (bk x.value))),(if T3 Mo (bk x.q.name) then co else co+1),(J6 Ms cs (bk x.q.name) (.bool true)),(if T3 Ms (bk x.q.name) then cs else cs+1))) [0,7,8,15,16,17] kr kr ⟨(by dsimp only; omega),(by dsimp only; rw [hT,M1 hk,← hx,sp_step hd,if_pos (.inl hps)]),(hMo.put _ _ _),(hMs.put _ _)⟩ (by dsimp only; omega)))
    ·
     refine Y3 (ch:=[]) (kt:=9) (et:=4) (r:=b1) (c:=cs) (m:=Ms) (k:=(bk x.q.name)) (z:=.bool false) (ov:=none) (hA:=At.grp 3 0 rfl rfl) (hg:=(fun _=>(by have h:=hMs x.q.name; rw [if_neg hps] at h; exact h))) (kk:=A4 (j:=5) [0,0] (k:=C2 (ch:=[(42,false)]) (b:=b3) (off:=3) (v:=.bool x.q.has) (hA:=At.grp 0 0 rfl rfl) (k:=A4 (j:=8) [0,0] (k:=C2 (ch:=[(45,true),(42,false)]) (b:=b3) (off:=2) (v:=.string (bk x.value)) (hA:=At.grp 0 0 rfl rfl) (k:=B4 (E':=[⟨0,[],pt r⟩,⟨7,[],.map (some mo)⟩,⟨8,[],.map (some b1)⟩,⟨10,[],pt b3⟩,⟨11,[],.string (bk x.q.name)⟩,⟨15,[],.slice a ats.length c⟩,⟨16,[],.int .i64 ((ats.length:Nat):Int)⟩,⟨17,[],.int .i64 ((k:Nat):Int)⟩,⟨50,[],.bool (x.q.has&&((bk x.value).toList==eB.toList))⟩]) [0,6,3] [0,7,8,10,11,15,16,17,50] (k:=A0 (B0 (b:=x.q.has&&((bk x.value).toList==eB.toList)) kr (fun hc12=>?_) (fun hc12=>?_))))))))
     ·
      have hem:x.q.has=true∧x.value=[]:=by have h:=hc12; simp only [Bool.and_eq_true] at h; exact ⟨h.1,(eqB _ _).1 h.2⟩
      refine A3 (A4 (j:=1) [0] (k:=O0 0 [1] (E0 Tryz.func64 (M7 r q2 70 _ _) ?_)))
      rintro _ _ rfl
      refine A8 [] [0,7,8,10,11,15,16,17] (k:=A0 (A1 (A3 (A4 (j:=2) [0,0] (k:=M2 (ch:=[]) (kt:=9) (et:=4) (r:=b1) (c:=cs) (j:=3) (q:=0) (m:=Ms) (k:=(bk x.q.name)) (v:=.bool true) (H':=([(r,.cells #[.string (bk (F0 70 q2).1),.int .i64 ((F0 70 q2).2)] 97 (0,0))]::[(b3,.cells #[.string (bk x.q.pre),.string (bk x.q.name),.string (bk x.value),.bool x.q.has] 137 (0,0))]::[(mo,.map (F2 Mo) co)]::[(b1,.map (F2 (J6 Ms cs (bk x.q.name) (.bool true))) (if T3 Ms (bk x.q.name) then cs else cs+1))]::[(ms,.map (F2 M) mc)]::H)) (hop:=.inl rfl) (kk:=A8 [] [0,7,8,10,11,15,16,17] (k:=A0 (A3 ?_))))))))
      refine A4 (j:=3) [0,0,0] (k:=C4 1 2 rfl rfl (M2 (ch:=[]) (kt:=9) (et:=9) (r:=mo) (c:=co) (j:=2) (q:=0) (m:=Mo) (k:=(bk x.q.name)) (v:=.string (bk x.value)) (H':=([(r,.cells #[.string (bk (F0 70 q2).1),.int .i64 ((F0 70 q2).2)] 97 (0,0))]::[(b3,.cells #[.string (bk x.q.pre),.string (bk x.q.name),.string (bk x.value),.bool x.q.has] 137 (0,0))]::[(mo,.map (F2 (J6 Mo co (bk x.q.name) (.string (bk x.value)))) (if T3 Mo (bk x.q.name) then co else co+1))]::[(b1,.map (F2 (J6 Ms cs (bk x.q.name) (.bool true))) (if T3 Ms (bk x.q.name) then cs else cs+1))]::[(ms,.map (F2 M) mc)]::H)) (hop:=.inl rfl) (kk:=A8 [] [0,7,8,15,16,17] (k:=B6 (A0 (A3 (A4 (j:=1) [0] (k:=D0 59 (((k:Nat):Int)+1) (by omega) (by omega) kr ?_))))))))
      refine A8 [0] [0,7,8,15,16,17] (k:=E9 1 [0,1,1,1] (D2 (s':=((k+1),(F0 70 q2),((x.q.name,x.value)::sp2),(x.q.name::seen),(J6 Mo co (bk x.q.name) (.string (bk x.value))),(if T3 Mo (bk x.q.name) then co else co+1),(J6 Ms cs (bk x.q.name) (.bool true)),(if T3 Ms (bk x.q.name) then cs else cs+1))) [0,7,8,15,16,17] kr kr ⟨(by dsimp only; omega),(by dsimp only; rw [hT,M1 hk,← hx,sp_step hd,if_pos (.inr hem)]),(hMo.put _ _ _),(hMs.put _ _)⟩ (by dsimp only; omega)))
     ·
      have hem:¬ (x.q.has=true∧x.value=[]):=fun h=>by have h2:=hc12; rw [h.1,show ((bk x.value).toList==eB.toList)=true from (eqB _ _).2 h.2] at h2; exact Bool.noConfusion h2
      refine A9 (A0 (A1 (A3 (A4 (j:=2) [0,0] (k:=M2 (ch:=[]) (kt:=9) (et:=4) (r:=b1) (c:=cs) (j:=3) (q:=0) (m:=Ms) (k:=(bk x.q.name)) (v:=.bool true) (H':=([(b3,.cells #[.string (bk x.q.pre),.string (bk x.q.name),.string (bk x.value),.bool x.q.has] 137 (0,0))]::[(r,.cells #[.string (bk q2.1),.int .i64 q2.2] 97 (0,0))]::[(mo,.map (F2 Mo) co)]::[(b1,.map (F2 (J6 Ms cs (bk x.q.name) (.bool true))) (if T3 Ms (bk x.q.name) then cs else cs+1))]::[(ms,.map (F2 M) mc)]::H)) (hop:=.inl rfl) (kk:=A8 [] [0,7,8,10,11,15,16,17] (k:=A0 (A3 ?_))))))))
      refine A4 (j:=3) [0,0,0] (k:=C4 0 2 rfl rfl (M2 (ch:=[]) (kt:=9) (et:=9) (r:=mo) (c:=co) (j:=2) (q:=0) (m:=Mo) (k:=(bk x.q.name)) (v:=.string (bk x.value)) (H':=([(b3,.cells #[.string (bk x.q.pre),.string (bk x.q.name),.string (bk x.value),.bool x.q.has] 137 (0,0))]::[(r,.cells #[.string (bk q2.1),.int .i64 q2.2] 97 (0,0))]::[(mo,.map (F2 (J6 Mo co (bk x.q.name) (.string (bk x.value)))) (if T3 Mo (bk x.q.name) then co else co+1))]::[(b1,.map (F2 (J6 Ms cs (bk x.q.name) (.bool true))) (if T3 Ms (bk x.q.name) then cs else cs+1))]::[(ms,.map (F2 M) mc)]::H)) (hop:=.inl rfl) (kk:=A8 [] [0,7,8,15,16,17] (k:=B6 (A0 (A3 (A4 (j:=1) [0] (k:=D0 59 (((k:Nat):Int)+1) (by omega) (by omega) kr ?_))))))))
      refine A8 [0] [0,7,8,15,16,17] (k:=E9 1 [1,1,1,1] (D2 (s':=((k+1),q2,((x.q.name,x.value)::sp2),(x.q.name::seen),(J6 Mo co (bk x.q.name) (.string (bk x.value))),(if T3 Mo (bk x.q.name) then co else co+1),(J6 Ms cs (bk x.q.name) (.bool true)),(if T3 Ms (bk x.q.name) then cs else cs+1))) [0,7,8,15,16,17] kr kr ⟨(by dsimp only; omega),(by dsimp only; rw [hT,M1 hk,← hx,sp_step hd,if_neg (fun h=>h.elim hps hem)]),(hMo.put _ _ _),(hMs.put _ _)⟩ (by dsimp only; omega)))
 ·
  have hk:ats.length≤k:=by have:=hc2; simp only [decide_eq_false_iff_not] at this; omega
  refine E3 (A6 (A6 (B5 (A0 (A1 (B9 (E':=[⟨6,[],.map (some mo)⟩]) [0,0] [6] (k:=A0 (B8 ?_))))))))
  refine E9 1 [0,0,1] (B7 [.tmp 6] [.map (some mo)] (k:=?_))
  rw [hT,List.drop_eq_nil_of_le hk]; exact ⟨_,_,_,rfl,hMo,rfl⟩
theorem xspace_ (r:Nat) (q:XS) (p:List UInt8) (has:Bool) (ms mc:Nat) (M:SM) (sp:SPX) (hM:SpR M sp) (W0:World) (H:List Grp):Tri Tryz.prog 106 #[pt r,.string (bk p),.bool has,.map (some ms)] W0 ([(r,.cells #[.string (bk q.1),.int .i64 q.2] 97 (0,0))]::[(ms,.map (F2 M) mc)]::H) (fun v H'=>v=.string (bk (J9 p has sp q).1)∧H'=rdX r (J9 p has sp q).2::[(ms,.map (F2 M) mc)]::H):=by
 refine D4 25 Tryz.func106 ?_
 refine A1 (G_p [0] [0,1,2,3] (k:=A0 (A1 (A3 (A4 (j:=2) [0,0] (k:=?_))))))
 rcases hlk:lookX sp p with _ | v
 ·
  refine Y3 (ch:=[]) (kt:=9) (et:=9) (r:=ms) (c:=mc) (m:=M) (k:=(bk p)) (z:=.string eB) (ov:=none) (hA:=At.grp 1 0 rfl rfl) (hg:=(fun _=>(by have h:=hM p; rw [hlk] at h; exact h))) (kk:=A8 [0,0,0,0,0] [0,2,9,10] (k:=A0 (A1 (A1 (G_p [0,0,0,0,6] [0,9,21] (k:=A0 (B0 (b:=has&&true) kr (fun hc1=>?_) (fun hc1=>?_))))))))
  ·
   have hh:has=true:=by have h:=hc1; rwa [Bool.and_true] at h
   refine A3 (A4 (j:=1) [0] (k:=E0 Tryz.func64 (M7 r q 70 _ _) ?_))
   rintro _ _ rfl
   refine B4 (E':=[⟨9,[],.string eB⟩]) [] [9] (k:=A0 (A1 (B9 (E':=[⟨8,[],.string eB⟩]) [0,0] [8] (k:=A0 (B8 (B7 [.tmp 8] [.string eB] (k:=?_)))))))
   exact ⟨by rw [space_none hlk hh]; try rfl,by rw [space_none hlk hh]; try rfl⟩
  ·
   have hh:has=false:=by have h:=hc1; rwa [Bool.and_true] at h
   refine A9 (A0 (A1 (B9 (E':=[⟨8,[],.string eB⟩]) [0,0] [8] (k:=A0 (B8 (B7 [.tmp 8] [.string eB] (k:=?_)))))))
   exact ⟨by rw [space_own hlk hh]; try rfl,by rw [space_own hlk hh]; try rfl⟩
 ·
  refine Y3 (ch:=[]) (kt:=9) (et:=9) (r:=ms) (c:=mc) (m:=M) (k:=(bk p)) (z:=.string eB) (ov:=(some (.string (bk v)))) (hA:=At.grp 1 0 rfl rfl) (hg:=(fun _=>(by have h:=hM p; rw [hlk] at h; exact h))) (kk:=A8 [0,0,0,0,0] [0,2,9,10] (k:=A0 (A1 (A1 (G_p [0,0,0,0,6] [0,9,21] (k:=A0 (B0 (b:=has&&false) kr (fun hc2=>?_) (fun hc2=>?_))))))))
  ·
   rw [Bool.and_false] at hc2; exact Bool.noConfusion hc2
  ·
   skip
   refine A9 (A0 (A1 (B9 (E':=[⟨8,[],.string (bk v)⟩]) [0,0] [8] (k:=A0 (B8 (B7 [.tmp 8] [.string (bk v)] (k:=?_)))))))
   exact ⟨by rw [space_some hlk]; try rfl,by rw [space_some hlk]; try rfl⟩
end Go.Proofs.YtppgfiklmfoaeaaGreatDoor
namespace Go.Proofs.YtppgfiklmfoaeaaGreatDoor
open Go.Sw Go.Sha Go.Esc Go.RowKit Go.Json Go.Xml
def sameA (x y:XA):Bool:=y.space==x.space&&y.name==x.name
theorem sameA_eq (x y:XA):(((bk y.space).toList==(bk x.space).toList)&&((bk y.name).toList==(bk x.name).toList))=sameA x y:=by
  unfold sameA
  have h:∀ a b:List UInt8,((bk a).toList==(bk b).toList)=(a==b):=by
    intro a b
    by_cases e:a=b
    · subst e; rw [(eqB _ _).2 rfl]; simp
    · rw [(eqBf (bk a) (bk b)).2 e,beq_eq_false_iff_ne.2 e]
  rw [h,h]
theorem elt3 {cs l:List Value} {q:Nat} (h:(cs.drop q).take 3=l):∀ m (hm:m<l.length),cs[q+m]? = some l[m]:=by
  intro m hm
  subst h
  have h4:m<3:=by rw [List.length_take] at hm; omega
  rw [← List.getElem?_eq_getElem hm,List.getElem?_take_of_lt h4,List.getElem?_drop]
theorem xsameF_ (y x:XA) (xb:Nat) (W0:World) (H:List Grp):Tri Tryz.prog 108 #[.agg #[.string (bk y.space),.string (bk y.name),.string (bk y.value)],pt xb] W0 ([(xb,.cells #[.string (bk x.space),.string (bk x.name),.string (bk x.value)] 75 (0,0))]::H) (fun v H'=>v=.bool (sameA x y)∧H'=([(xb,.cells #[.string (bk x.space),.string (bk x.name),.string (bk x.value)] 75 (0,0))]::H)):=by
 refine D4 16 Tryz.func108 ?_
 refine A1 (A3 (N4 (.agg #[.string (bk y.space),.string (bk y.name),.string (bk y.value)]) (fun b1=>B4 (E':=[⟨1,[],pt xb⟩,⟨2,[],pt b1⟩]) [0] [1,2] (k:=A0 (A1 (A3 (A4 (j:=1) [0] (k:=C4 0 0 rfl rfl ?_))))))))
 refine A4 (j:=3) [0] (k:=C4 1 0 rfl rfl (A4 (j:=7) [0,0,0] (k:=C2 (ch:=[(9,true)]) (b:=b1) (off:=1) (v:=.string (bk y.name)) (hA:=At.grp 0 0 rfl rfl) (k:=A4 (j:=9) [0] (k:=C2 (ch:=[(9,true)]) (b:=xb) (off:=1) (v:=.string (bk x.name)) (hA:=At.grp 1 0 rfl rfl) (k:=A8 [0,6,0] [3] (k:=A0 (B8 ?_))))))))
 refine E9 1 [1] (B7 [.tmp 3] [.bool (((bk y.space).toList==(bk x.space).toList)&&((bk y.name).toList==(bk x.name).toList))] (k:=?_))
 exact ⟨congrArg Value.bool (sameA_eq x y),rfl⟩
theorem xindexF_ (out:List XA) (a:Option Addr) (c:Nat) (S:Nat→Obj→Prop) (hrd:Rd S a (xaV out)) (hol:out.length≤1000002) (x:XA) (xb:Nat) (W0:World) (H:List Grp) (hS:∀ y o,S y o→At W0 H y o):Tri Tryz.prog 146 #[.slice a out.length c,.func (.func 108) #[] #[pt xb]] W0 ([(xb,.cells #[.string (bk x.space),.string (bk x.name),.string (bk x.value)] 75 (0,0))]::H) (fun v H'=>∃ n:Int,v=.int .i64 n∧(out.any (sameA x)=decide (n ≥ 0))∧H'=([(xb,.cells #[.string (bk x.space),.string (bk x.name),.string (bk x.value)] 75 (0,0))]::H)):=by
 refine D4 19 Tryz.func146 ?_
 refine A1 (G_p [0] [0,1] (k:=A0 (A1 (A1 (G_p [0,0,0] [0,1,7,8] (k:=A0 (B2 (I3 (EI:=(fun ξ:Nat=>[⟨0,[],.slice a out.length c⟩,⟨1,[],.func (.func 108) #[] #[pt xb]⟩,⟨7,[],.int .i64 ((out.length:Nat):Int)⟩,⟨8,[],.int .i64 ((ξ:Nat):Int)⟩])) (HI:=(fun ξ:Nat=>([(xb,.cells #[.string (bk x.space),.string (bk x.name),.string (bk x.value)] 75 (0,0))]::H))) (Φ:=(fun ξ:Nat=>(ξ≤out.length)∧((out.take ξ).any (sameA x)=false))) (μ:=(fun ξ:Nat=>out.length - ξ)) (s0:=(0)) [0,1,7,8] kr rfl ⟨(Nat.zero_le _),rfl⟩ ?_))))))))
 rintro k ⟨hkl,hno⟩
 try dsimp only at hkl hno
 refine A1 (G_p [0] [0,1,7,8,9] (k:=A0 (A1 (B0 (b:=decide (((k:Nat):Int)<((out.length:Nat):Int))) kr (fun hc1=>?_) (fun hc1=>?_)))))
 ·
  have hk:k<out.length:=by have:=hc1; simp only [decide_eq_true_eq] at this; omega
  refine A9 (A0 (A1 (B2 (A1 (G_p [0,0] [0,1,5,7,8] (k:=A0 (A1 (A3 ?_))))))))
  refine A4 (j:=3) [0,0,0] (k:=E6 out.length ((k:Nat):Int) 3 hrd (by exact ⟨by omega,by omega,by intro h; have:=congrArg List.length h; rw [Q6] at this; simp only [List.length_nil] at this; omega⟩) ?_)
  obtain ⟨y,hy⟩:∃ y,y=out[k]'hk:=⟨_,rfl⟩
  refine G9 (ch:=[]) (a:=a) (q:=k * 3) (S:=S) (cs:=(xaV out)) (l:=[.string (bk y.space),.string (bk y.name),.string (bk y.value)]) (hrd:=hrd) (hS:=(fun y o h=>At.cons (hS y o h))) (hl:=List.cons_ne_nil _ _) (hv:=(fun _=>(elt3 (by rw [hy]; exact W7 hk)))) (k:=Z2 (ch:=[]) (f:=108) (fst:=#[]) (caps:=#[pt xb]) (vs:=[.agg #[.string (bk y.space),.string (bk y.name),.string (bk y.value)]]) (hf:=Tryz.func108) (hsure:=Q0 kr) (hc:=xsameF_ y x xb _ _) (k:=?_))
  rintro _ _ ⟨rfl,rfl⟩
  refine A8 [] [0,1,5,7,8,16] (k:=A0 (B0 (b:=(sameA x y)) kr (fun hc2=>?_) (fun hc2=>?_)))
  ·
   have hsm:sameA x y=true:=hc2
   refine A1 (B9 (E':=[⟨4,[],.int .i64 ((k:Nat):Int)⟩]) [0,0] [4] (k:=A0 (B8 (B3 (A5 (A5 (B3 (A5 ?_))))))))
   refine B7 [.tmp 4] [.int .i64 ((k:Nat):Int)] (k:=?_)
   exact ⟨_,rfl,by rw [any_at hk (by rw [← hy]; exact hsm)]; exact (decide_eq_true (Int.natCast_nonneg k)).symm,rfl⟩
  ·
   have hsm:sameA x y=false:=hc2
   refine A9 (B6 (A0 (A3 (A4 (j:=1) [0] (k:=D0 18 (((k:Nat):Int)+1) (by omega) (by omega) kr (A8 [0] [0,1,7,8] (k:=D2 (s':=(k+1)) [0,1,7,8] kr rfl ⟨(by omega),(by rw [any_take hk,hno,← hy,hsm]; rfl)⟩ (by omega))))))))
 ·
  have hk:out.length≤k:=by have:=hc1; simp only [decide_eq_false_iff_not] at this; omega
  refine E3 (A6 (A6 (B5 (A0 (A1 (B9 (E':=[⟨4,[],.int .i64 (-1)⟩]) [0] [4] (k:=A0 (B8 ?_))))))))
  refine B7 [.tmp 4] [.int .i64 (-1)] (k:=?_)
  exact ⟨_,rfl,by rw [List.take_of_length_le hk] at hno; rw [hno]; rfl,rfl⟩
theorem xhasF_ (out:List XA) (a:Option Addr) (c:Nat) (S:Nat→Obj→Prop) (hrd:Rd S a (xaV out)) (hol:out.length≤1000002) (x:XA) (xb:Nat) (W0:World) (H:List Grp) (hS:∀ y o,S y o→At W0 H y o):Tri Tryz.prog 107 #[.slice a out.length c,.func (.func 108) #[] #[pt xb]] W0 ([(xb,.cells #[.string (bk x.space),.string (bk x.name),.string (bk x.value)] 75 (0,0))]::H) (fun v H'=>v=.bool (out.any (sameA x))∧H'=([(xb,.cells #[.string (bk x.space),.string (bk x.name),.string (bk x.value)] 75 (0,0))]::H)):=by
 refine D4 9 Tryz.func107 ?_
 refine A1 (G_p [0] [0,1] (k:=A0 (A1 (A3 (A4 (j:=2) [0,0] (k:=E0 Tryz.func146 (xindexF_ out a c S hrd hol x xb _ _ hS) ?_))))))
 rintro _ _ ⟨n,rfl,hn,rfl⟩
 refine B4 (E':=[⟨4,[],.bool (decide (n ≥ 0))⟩]) [0,0] [4] (k:=A0 (B8 (B7 [.tmp 4] [.bool (decide (n ≥ 0))] (k:=?_))))
 exact ⟨by rw [hn]; try rfl,rfl⟩
end Go.Proofs.YtppgfiklmfoaeaaGreatDoor
namespace Go.Sw
theorem GL_storeO {P:Program} {ops:Array Oper} {i:Nat} {Q:E5} {n:Fr} {E:Env} {W0:World} {H:List Grp} {o:Oper} {ch:List (Nat × Bool)} {t et:TypeId} {x y:Operand} {a:Option Addr} {sz len cap q:Nat} {cs cs':List Value} {v:Value} {g:Grp} {j:Nat}
    (ho:ops[i]? = some o) (hop:o.op=.store t x y) (hx:evO E ch x=some (.pointer (some (eltA a q)))) (hy:evO E ch y=some v)
    (hsz:S3 P t=some v.cells.size) (h1:(v.cells.toList.all Value.oneCell')=true) (hvc:v.cells.toList=[v])
    (hch:D5 ops E o.guard=some ch) (hd:F3 n ch o.dst=true) (hsure:L6 E ch=true)
    (hj:H[j]? = some g) (hO:Own et sz (.slice a len cap) g len cs) (hq:q<cs.length) (hcs:cs.set q v=cs')
    (k:∀ g',Own et sz (.slice a len cap) g' len cs'→GL false P ops (i+1) Q n (Env.put E o.dst ch undef) W0 (H.set j g')):GL false P ops i Q n E W0 H:=by
  obtain ⟨hl,⟨he,rfl,hn⟩ | ⟨b,cap',junk,he,rfl,hc,hjk⟩⟩:=hO
  · rw [hn] at hl; simp at hl; rw [hl] at hq; simp at hq
  · injection he with e1 e2 e3
    subst e1 e3 hcs
    have hel:eltA (some ⟨b,0,none⟩) q=⟨b,q,none⟩:=by show Addr.add ⟨b,0,none⟩ q=_; rw [N6,Nat.zero_add]
    rw [hel] at hx
    have hv1:v.cells.size=1:=by rw [← Array.length_toList,hvc]; rfl
    refine O1 (b:=b) (off:=q) (v:=v) (c:=(cs++junk).toArray) (c':=((cs.set q v)++junk).toArray) (e:=et) (fz:=(0,0)) (j:=j) (m:=0) ho hop hx hy hsz h1 hch hd hsure hj rfl (by rw [hv1,List.size_toArray,List.length_append]; omega) (fun _ _=>thaw0) ?_ rfl (k _ ⟨by rw [List.length_set]; exact hl,.inr ⟨b,cap,junk,rfl,rfl,hc,by rw [List.length_append,List.length_set,← List.length_append]; exact hjk⟩⟩)
    rw [hvc]
    have e1:cs++junk=cs.take q++[cs[q]]++(cs.drop (q+1)++junk):=by
      rw [← List.append_assoc]
      congr 1
      rw [List.append_assoc,List.singleton_append,← List.drop_eq_getElem_cons hq,List.take_append_drop]
    have e2:cs.set q v++junk=cs.take q++[v]++(cs.drop (q+1)++junk):=by
      rw [← List.append_assoc,List.set_eq_take_append_cons_drop,if_pos hq]
      simp
    have e3:(cs.take q).length=q:=by rw [List.length_take]; omega
    rw [e1,e2]
    have:=W8 [v] (cs.take q) (cs.drop (q+1)++junk) [cs[q]] rfl
    rw [e3] at this
    exact this
end Go.Sw
namespace Go.Sw
theorem G1 {P:Program} {ops:Array Oper} {i:Nat} {Q:E5} {n:Fr} {E:Env} {W0:World} {H:List Grp} {o:Oper} {ch:List (Nat × Bool)} {t et:TypeId} {x y:Operand} {a:Option Addr} {sz len cap q:Nat} {cs cs' l:List Value} {v:Value} {g:Grp} {j:Nat}
    (ho:ops[i]? = some o:=by exact rfl) (hop:o.op=.store t x y:=by exact rfl) (hx:evO E ch x=some (.pointer (some (eltA a q))):=by kernel_rfl) (hy:evO E ch y=some v:=by kernel_rfl)
    (hsz:S3 P t=some v.cells.size:=by kernel_rfl) (h1:(v.cells.toList.all Value.oneCell')=true) (hvc:v.cells.toList=l:=by exact rfl)
    (hch:D5 ops E o.guard=some ch:=by kernel_rfl) (hd:F3 n ch o.dst=true:=by kernel_rfl) (hsure:L6 E ch=true:=by kernel_rfl)
    (hj:H[j]? = some g:=by exact rfl) (hO:Own et sz (.slice a len cap) g len cs) (hq:q+l.length≤cs.length) (h0:l≠[]) (hcs:cs.take q++l++cs.drop (q+l.length)=cs')
    (k:∀ g',Own et sz (.slice a len cap) g' len cs'→GL false P ops (i+1) Q n (Env.put E o.dst ch undef) W0 (H.set j g')):GL false P ops i Q n E W0 H:=by
  have hl0:0<l.length:=List.length_pos_iff.2 h0
  have hlc:cs'.length=cs.length:=by rw [← hcs]; simp only [List.length_append,List.length_take,List.length_drop]; omega
  obtain ⟨hl,⟨he,rfl,hn⟩ | ⟨b,cap',junk,he,rfl,hc,hjk⟩⟩:=hO
  · rw [hn] at hl; simp at hl; rw [hl] at hq; simp at hq; exact absurd hq.2 h0
  · injection he with e1 e2 e3
    subst e1 e3
    have hel:eltA (some ⟨b,0,none⟩) q=⟨b,q,none⟩:=by show Addr.add ⟨b,0,none⟩ q=_; rw [N6,Nat.zero_add]
    rw [hel] at hx
    have hv1:v.cells.size=l.length:=by rw [← Array.length_toList,hvc]
    refine O1 (b:=b) (off:=q) (v:=v) (c:=(cs++junk).toArray) (c':=(cs'++junk).toArray) (e:=et) (fz:=(0,0)) (j:=j) (m:=0) ho hop hx hy hsz h1 hch hd hsure hj rfl (by rw [hv1,List.size_toArray,List.length_append]; omega) (fun _ _=>thaw0) ?_ rfl (k _ ⟨by rw [hlc]; exact hl,.inr ⟨b,cap,junk,rfl,rfl,hc,by rw [List.length_append,hlc,← List.length_append]; exact hjk⟩⟩)
    rw [hvc]
    have e1:cs++junk=cs.take q++(cs.drop q).take l.length++(cs.drop (q+l.length)++junk):=by
      rw [← List.append_assoc]
      congr 1
      rw [List.append_assoc,← List.drop_drop,List.take_append_drop,List.take_append_drop]
    have e2:cs'++junk=cs.take q++l++(cs.drop (q+l.length)++junk):=by
      rw [← hcs]; simp only [List.append_assoc]
    have e3:(cs.take q).length=q:=by rw [List.length_take]; omega
    rw [e1,e2]
    have:=W8 l (cs.take q) (cs.drop (q+l.length)++junk) ((cs.drop q).take l.length) (by rw [List.length_take,List.length_drop]; omega)
    rw [e3] at this
    exact this
theorem I2 {cs z l:List Value} {q:Nat} (hq:cs.length=q) (hz:z.length=l.length):(cs++z).take q++l++(cs++z).drop (q+l.length)=cs++l:=by
  subst hq
  rw [List.take_left,List.drop_eq_nil_of_le (by rw [List.length_append]; omega),List.append_nil]
end Go.Sw
namespace Go.Xml
open Go.Sw Go.Esc Go.Json
def lastT (ks:List XN):Nat:=match ks.getLast? with
  | some v=>v.text.length
  | none=>0
theorem X5 (l:List XN) (v:XN):lastT (l++[v])=v.text.length:=by unfold lastT; rw [List.getLast?_concat]
theorem add_nil (ks:List XN):addX ks []=ks:=if_pos rfl
theorem add_last {l:List XN} {v:XN} {s:List UInt8} (hs:s≠[]) (hv:v.name=[]):addX (l++[v]) s=l++[.mk v.space [] v.attrs v.kids (v.text++s)]:=by
  unfold addX
  rw [if_neg hs,List.getLast?_concat,List.dropLast_concat]
  cases v with
  | mk sp nm at_ kk t=>cases hv; rfl
theorem add_new {ks:List XN} {s:List UInt8} (hs:s≠[]) (h:ks=[]∨∃ l v,ks=l++[v]∧v.name≠[]):addX ks s=ks++[.mk [] [] [] [] s]:=by
  unfold addX
  rw [if_neg hs]
  rcases h with rfl | ⟨l,v,rfl,hv⟩
  · rfl
  · rw [List.getLast?_concat]
    cases v with
    | mk sp nm at_ kk t =>
      cases nm with
      | nil=>exact absurd rfl hv
      | cons b r=>rfl
theorem lastT_add (ks:List XN) (s:List UInt8):lastT (addX ks s)≤lastT ks+s.length:=by
  by_cases hs:s=[]
  · subst hs; rw [add_nil]; exact Nat.le_add_right _ _
  · rcases List.eq_nil_or_concat ks with rfl | ⟨l,v,e⟩
    · rw [add_new hs (.inl rfl)]; exact Nat.le_add_left _ _
    · rw [List.concat_eq_append] at e; subst e
      by_cases hv:v.name=[]
      · rw [add_last hs hv,X5,X5]; show (v.text++s).length≤_; rw [List.length_append]; exact Nat.le_refl _
      · rw [add_new hs (.inr ⟨l,v,rfl,hv⟩),X5]; exact Nat.le_add_left _ _
theorem kid_cells {ta tn:TypeId} {v:XN} {c:List Value} {g:Grp} (h:XRep ta tn v c g):c[1]? = some (.string (bk v.name))∧c[4]? = some (.string (bk v.text)):=by
  cases h; exact ⟨rfl,rfl⟩
theorem kid_text {ta tn:TypeId} {v:XN} {c:List Value} {g:Grp} (h:XRep ta tn v c g) (hv:v.name=[]) (s:List UInt8):XRep ta tn (.mk v.space [] v.attrs v.kids (v.text++s)) (c.set 4 (.string (bk (v.text++s)))) g:=by
  cases h with
  | mk h1 h2 h3=>cases hv; exact .mk h1 h2 h3
theorem bk_app (a b:List UInt8):bk a++bk b=bk (a++b):=by
  apply ByteArray.ext; apply Array.ext'
  rw [ByteArray.data_append,Array.toList_append]
theorem add_len (ks:List XN) (s:List UInt8):(addX ks s).length≤ks.length+1:=by
  by_cases hs:s=[]
  · subst hs; rw [add_nil]; exact Nat.le_succ _
  · rcases List.eq_nil_or_concat ks with rfl | ⟨l,v,e⟩
    · rw [add_new hs (.inl rfl)]; exact Nat.le_refl _
    · rw [List.concat_eq_append] at e; subst e
      by_cases hv:v.name=[]
      · rw [add_last hs hv,List.length_append,List.length_append]; exact Nat.le_succ _
      · rw [add_new hs (.inr ⟨l,v,rfl,hv⟩),List.length_append]; exact Nat.le_refl _
end Go.Xml
namespace Go.Proofs.YtppgfiklmfoaeaaGreatDoor
open Go.Sw Go.Sha Go.Esc Go.RowKit Go.Json Go.Xml
theorem xtext_ (nb:Nat) (v0 v1 v2 v4:Value) (ks:List XN) (kn:Nat) (ka:Option Addr) (kc:Nat) (kg gs:Grp) (cs:List Value) (hkn:kn=ks.length) (hO:Go.Sw.Own 55 5 (.slice ka kn kc) kg kn cs) (hP:XRepL 75 55 ks cs gs) (s:List UInt8) (hs:s.length≤1000000000) (hb:kn≤1000002) (hlt:lastT ks≤1000000000000) (W0:World) (H:List Grp):Tri Tryz.prog 147 #[pt nb,.string (bk s)] W0 ([(nb,.cells #[v0,v1,v2,.slice ka kn kc,v4] 55 (0,0))]::kg::H) (fun _ H'=>∃ kn' ka' kc' kg' cs',kn'=(addX ks s).length∧Go.Sw.Own 55 5 (.slice ka' kn' kc') kg' kn' cs'∧XRepL 75 55 (addX ks s) cs' gs∧H'=[(nb,.cells #[v0,v1,v2,.slice ka' kn' kc',v4] 55 (0,0))]::kg'::H):=by
 have hcl:=hP.len
 refine D4 52 Tryz.func147 ?_
 refine A1 (A3 (A4 (j:=3) [0,0,0] (k:=C4 0 3 rfl rfl (A4 (j:=6) [0,0] (k:=D0 10 (((kn:Nat):Int) - 1) (by omega) (by omega) kr (A8 [0] [0,1,4] (k:=A0 (B2 ?_))))))))
 refine A1 (G_p [0,0,0] [0,1,4,23] (k:=A0 (B0 (b:=(bk s).toList==eB.toList) kr (fun hc2=>?_) (fun hc2=>?_))))
 ·
  have hs0:s=[]:=(eqB _ _).1 hc2
  refine A9 (B6 (B7 [] [] (k:=?_)))
  subst hs0; rw [add_nil]; exact ⟨_,_,_,_,_,hkn,hO,hP,rfl⟩
 ·
  have hs0:s≠[]:=(eqBf _ _).1 hc2
  refine A1 ?_
  by_cases hk0:ks=[]
  ·
   have hn0:kn=0:=by rw [hkn,hk0]; rfl
   refine A3 (A4 (j:=2) [0,0] (k:=F6 28 (x:=.bool (decide ((((kn:Nat):Int) - 1) ≥ 0))) (y:=.bool false) (by rw [show decide (((kn:Nat):Int) - 1 ≥ 0)=false from decide_eq_false (by omega)]) (A8 [0,1,1,1,1,1,1,1,1,1,3,0] [0,1,4,26] (k:=A0 (C9 kr (S0 (T:=Option Addr × Nat × Grp) (fun ξ:Option Addr × Nat × Grp=>[]) (fun ξ:Option Addr × Nat × Grp=>([(nb,.cells #[v0,v1,v2,.slice ξ.1 (kn+1) ξ.2.1,v4] 55 (0,0))]::ξ.2.2::H)) (fun ξ:Option Addr × Nat × Grp=>(Go.Sw.Own 55 5 (.slice ξ.1 (kn+1) ξ.2.1) ξ.2.2 (kn+1) (cs++[.string eB,.string eB,.slice none 0 0,.slice none 0 0,.string (bk s)]))) ?_ ?_))))))
   ·
    refine H8 H kr (G5 (fuel:=13) [(0,0)] (fun w h=>(h.pk 2 [])) (k:=L2 (ad:=⟨nb,0,none⟩) 1 (hL:=(fun w h=>(h.pk 2 []))) (k:=G5 (fuel:=9) [(2,0),(4,0),(5,0)] (fun w h=>(h.pk 2 [])) (k:=L1 3 7 (k:=?_) (k':=?_)))))
    ·
     refine C4 0 3 rfl rfl (C0 kr (fun w h=>(h.pk 2 [])) (Y4 (v:=.int .i64 ((kn:Nat):Int)) 6 (hL:=(fun w h=>(h.pk 2 []))) (k:=D7 7 (k:=L0 55 1 zN (fun b3=>C0 kr (fun w h=>(h.pk 3 [])) (N8 ([(b3,.cells zN.toArray 55 (0,0))]::H) (fun w h=>(h.pk 1 [])) (D7 8 (k:=O4 (inf:=Tryz.t55) 1 0 2 rfl rfl hO (by omega) (by show (kn+1) * 96≤140737488355328; omega) (fun v4 g5 hO6=>?_)))))))))
     obtain ⟨a7,cap8,rfl,hcap9,hrd10⟩:=hO6.shape
     refine C0 kr (fun w h=>(h.pk 2 [0])) (L2 (ad:=⟨nb,0,none⟩) 11 (hL:=(fun w h=>(h.pk 2 [0]))) (k:=G5 (fuel:=3) [(12,0)] (fun w h=>(h.pk 2 [0])) (k:=L1 9 13 (k:=?_) (k':=?_))))
     ·
      refine E6 (a:=a7) (S:=(inG g5)) (cs:=(cs++zN)) (kn+1) ((kn:Nat):Int) 5 (H7 hO6) (by exact ⟨by omega,by omega,by intro h; have h2:=congrArg List.length h; rw [List.length_append] at h2; simp at h2⟩) (C0 kr (fun w h=>(h.pk 2 [0])) (L1 10 13 (k:=?_) (k':=?_)))
      ·
       refine G1 (ch:=[]) (a:=a7) (q:=kn * 5) (len:=(kn+1)) (cap:=cap8) (v:=.agg #[.string eB,.string eB,.slice none 0 0,.slice none 0 0,.string (bk s)]) (g:=g5) (j:=2) (cs:=(cs++zN)) (cs':=(cs++[.string eB,.string eB,.slice none 0 0,.slice none 0 0,.string (bk s)])) (l:=[.string eB,.string eB,.slice none 0 0,.slice none 0 0,.string (bk s)]) (h1:=kr) (hO:=hO6) (hq:=(by rw [List.length_append,(show cs.length=kn * 5 by omega)]; exact Nat.le_refl _)) (h0:=List.cons_ne_nil _ _) (hcs:=I2 (z:=zN) (l:=[.string eB,.string eB,.slice none 0 0,.slice none 0 0,.string (bk s)]) (show cs.length=kn * 5 by omega) rfl) (k:=(fun g11 hO12=>?_))
       refine C0 kr (fun w h=>(h.pk 2 [0])) (D7 13 (k:=E4 1 3 (.slice a7 (kn+1) cap8) rfl (C0 kr (fun w h=>(h.pk 2 [0])) (G3 (E':=[]) [] (k:=G8 (a7,cap8,g11) [] kr (fun w h=>h.pkT 1 [1,1]) hO12)))))
      ·
       refine E4 1 3 (.slice a7 (kn+1) cap8) rfl (C0 kr (fun w h=>(h.pk 2 [0])) (D7 10 (k:=G1 (ch:=[]) (a:=a7) (q:=kn * 5) (len:=(kn+1)) (cap:=cap8) (v:=.agg #[.string eB,.string eB,.slice none 0 0,.slice none 0 0,.string (bk s)]) (g:=g5) (j:=2) (cs:=(cs++zN)) (cs':=(cs++[.string eB,.string eB,.slice none 0 0,.slice none 0 0,.string (bk s)])) (l:=[.string eB,.string eB,.slice none 0 0,.slice none 0 0,.string (bk s)]) (h1:=kr) (hO:=hO6) (hq:=(by rw [List.length_append,(show cs.length=kn * 5 by omega)]; exact Nat.le_refl _)) (h0:=List.cons_ne_nil _ _) (hcs:=I2 (z:=zN) (l:=[.string eB,.string eB,.slice none 0 0,.slice none 0 0,.string (bk s)]) (show cs.length=kn * 5 by omega) rfl) (k:=(fun g13 hO14=>?_)))))
       refine C0 kr (fun w h=>(h.pk 2 [0])) (G3 (E':=[]) [] (k:=G8 (a7,cap8,g13) [] kr (fun w h=>h.pkT 1 [1,1]) hO14))
     ·
      refine E4 1 3 (.slice a7 (kn+1) cap8) rfl (C0 kr (fun w h=>(h.pk 2 [0])) (D7 9 (k:=E6 (a:=a7) (S:=(inG g5)) (cs:=(cs++zN)) (kn+1) ((kn:Nat):Int) 5 (H7 hO6) (by exact ⟨by omega,by omega,by intro h; have h2:=congrArg List.length h; rw [List.length_append] at h2; simp at h2⟩) (C0 kr (fun w h=>(h.pk 2 [0])) (D7 10 (k:=G1 (ch:=[]) (a:=a7) (q:=kn * 5) (len:=(kn+1)) (cap:=cap8) (v:=.agg #[.string eB,.string eB,.slice none 0 0,.slice none 0 0,.string (bk s)]) (g:=g5) (j:=2) (cs:=(cs++zN)) (cs':=(cs++[.string eB,.string eB,.slice none 0 0,.slice none 0 0,.string (bk s)])) (l:=[.string eB,.string eB,.slice none 0 0,.slice none 0 0,.string (bk s)]) (h1:=kr) (hO:=hO6) (hq:=(by rw [List.length_append,(show cs.length=kn * 5 by omega)]; exact Nat.le_refl _)) (h0:=List.cons_ne_nil _ _) (hcs:=I2 (z:=zN) (l:=[.string eB,.string eB,.slice none 0 0,.slice none 0 0,.string (bk s)]) (show cs.length=kn * 5 by omega) rfl) (k:=(fun g15 hO16=>?_))))))))
      refine C0 kr (fun w h=>(h.pk 2 [0])) (G3 (E':=[]) [] (k:=G8 (a7,cap8,g15) [] kr (fun w h=>h.pkT 1 [1,1]) hO16))
    ·
     refine L0 55 1 zN (fun b17=>C0 kr (fun w h=>(h.pk 3 [])) (N8 ([(b17,.cells zN.toArray 55 (0,0))]::H) (fun w h=>(h.pk 1 [])) (D7 3 (k:=C4 1 3 rfl rfl (C0 kr (fun w h=>(h.pk 2 [0])) (Y4 (v:=.int .i64 ((kn:Nat):Int)) 6 (hL:=(fun w h=>(h.pk 2 [0]))) (k:=D7 8 (k:=O4 (inf:=Tryz.t55) 1 0 2 rfl rfl hO (by omega) (by show (kn+1) * 96≤140737488355328; omega) (fun v18 g19 hO20=>?_)))))))))
     obtain ⟨a21,cap22,rfl,hcap23,hrd24⟩:=hO20.shape
     refine C0 kr (fun w h=>(h.pk 2 [0])) (L2 (ad:=⟨nb,0,none⟩) 11 (hL:=(fun w h=>(h.pk 2 [0]))) (k:=G5 (fuel:=3) [(12,0)] (fun w h=>(h.pk 2 [0])) (k:=L1 9 13 (k:=?_) (k':=?_))))
     ·
      refine E6 (a:=a21) (S:=(inG g19)) (cs:=(cs++zN)) (kn+1) ((kn:Nat):Int) 5 (H7 hO20) (by exact ⟨by omega,by omega,by intro h; have h2:=congrArg List.length h; rw [List.length_append] at h2; simp at h2⟩) (C0 kr (fun w h=>(h.pk 2 [0])) (L1 10 13 (k:=?_) (k':=?_)))
      ·
       refine G1 (ch:=[]) (a:=a21) (q:=kn * 5) (len:=(kn+1)) (cap:=cap22) (v:=.agg #[.string eB,.string eB,.slice none 0 0,.slice none 0 0,.string (bk s)]) (g:=g19) (j:=2) (cs:=(cs++zN)) (cs':=(cs++[.string eB,.string eB,.slice none 0 0,.slice none 0 0,.string (bk s)])) (l:=[.string eB,.string eB,.slice none 0 0,.slice none 0 0,.string (bk s)]) (h1:=kr) (hO:=hO20) (hq:=(by rw [List.length_append,(show cs.length=kn * 5 by omega)]; exact Nat.le_refl _)) (h0:=List.cons_ne_nil _ _) (hcs:=I2 (z:=zN) (l:=[.string eB,.string eB,.slice none 0 0,.slice none 0 0,.string (bk s)]) (show cs.length=kn * 5 by omega) rfl) (k:=(fun g25 hO26=>?_))
       refine C0 kr (fun w h=>(h.pk 2 [0])) (D7 13 (k:=E4 1 3 (.slice a21 (kn+1) cap22) rfl (C0 kr (fun w h=>(h.pk 2 [0])) (G3 (E':=[]) [] (k:=G8 (a21,cap22,g25) [] kr (fun w h=>h.pkT 1 [1,1]) hO26)))))
      ·
       refine E4 1 3 (.slice a21 (kn+1) cap22) rfl (C0 kr (fun w h=>(h.pk 2 [0])) (D7 10 (k:=G1 (ch:=[]) (a:=a21) (q:=kn * 5) (len:=(kn+1)) (cap:=cap22) (v:=.agg #[.string eB,.string eB,.slice none 0 0,.slice none 0 0,.string (bk s)]) (g:=g19) (j:=2) (cs:=(cs++zN)) (cs':=(cs++[.string eB,.string eB,.slice none 0 0,.slice none 0 0,.string (bk s)])) (l:=[.string eB,.string eB,.slice none 0 0,.slice none 0 0,.string (bk s)]) (h1:=kr) (hO:=hO20) (hq:=(by rw [List.length_append,(show cs.length=kn * 5 by omega)]; exact Nat.le_refl _)) (h0:=List.cons_ne_nil _ _) (hcs:=I2 (z:=zN) (l:=[.string eB,.string eB,.slice none 0 0,.slice none 0 0,.string (bk s)]) (show cs.length=kn * 5 by omega) rfl) (k:=(fun g27 hO28=>?_)))))
       refine C0 kr (fun w h=>(h.pk 2 [0])) (G3 (E':=[]) [] (k:=G8 (a21,cap22,g27) [] kr (fun w h=>h.pkT 1 [1,1]) hO28))
     ·
      refine E4 1 3 (.slice a21 (kn+1) cap22) rfl (C0 kr (fun w h=>(h.pk 2 [0])) (D7 9 (k:=E6 (a:=a21) (S:=(inG g19)) (cs:=(cs++zN)) (kn+1) ((kn:Nat):Int) 5 (H7 hO20) (by exact ⟨by omega,by omega,by intro h; have h2:=congrArg List.length h; rw [List.length_append] at h2; simp at h2⟩) (C0 kr (fun w h=>(h.pk 2 [0])) (D7 10 (k:=G1 (ch:=[]) (a:=a21) (q:=kn * 5) (len:=(kn+1)) (cap:=cap22) (v:=.agg #[.string eB,.string eB,.slice none 0 0,.slice none 0 0,.string (bk s)]) (g:=g19) (j:=2) (cs:=(cs++zN)) (cs':=(cs++[.string eB,.string eB,.slice none 0 0,.slice none 0 0,.string (bk s)])) (l:=[.string eB,.string eB,.slice none 0 0,.slice none 0 0,.string (bk s)]) (h1:=kr) (hO:=hO20) (hq:=(by rw [List.length_append,(show cs.length=kn * 5 by omega)]; exact Nat.le_refl _)) (h0:=List.cons_ne_nil _ _) (hcs:=I2 (z:=zN) (l:=[.string eB,.string eB,.slice none 0 0,.slice none 0 0,.string (bk s)]) (show cs.length=kn * 5 by omega) rfl) (k:=(fun g29 hO30=>?_))))))))
      refine C0 kr (fun w h=>(h.pk 2 [0])) (G3 (E':=[]) [] (k:=G8 (a21,cap22,g29) [] kr (fun w h=>h.pkT 1 [1,1]) hO30))
   ·
    rintro ⟨xa,xc,xg⟩ hxo
    dsimp only at hxo
    refine B6 (B7 [] [] (k:=?_))
    exact ⟨_,_,_,_,_,by rw [add_new hs0 (.inl hk0),List.length_append,hkn]; rfl,hxo,by rw [add_new hs0 (.inl hk0)]; have h2:=hP.snoc (XRep.text s); rwa [List.append_nil] at h2,rfl⟩
  ·
   obtain ⟨l0,v,cs0,c,g0,g1,e1,e2,e3,hP0,hPv⟩:=hP.last hk0
   have hcl0:=hP0.len
   have hvl:=hPv.len
   have hkl:kn=l0.length+1:=by rw [hkn,e1,List.length_append]; rfl
   refine A3 (A4 (j:=2) [0,0] (k:=F6 28 (x:=.bool (decide ((((kn:Nat):Int) - 1) ≥ 0))) (y:=.bool true) (by rw [show decide (((kn:Nat):Int) - 1 ≥ 0)=true from decide_eq_true (by omega)]) (A4 (j:=6) [0,0,0,0] (k:=C2 (ch:=[(29,true)]) (b:=nb) (off:=3) (v:=.slice ka kn kc) (hA:=At.grp 0 0 rfl rfl) (k:=A4 (j:=8) [0] (k:=J0 (ch:=[(29,true)]) (a:=ka) (len:=kn) (cap:=kc) (kd:=.i64) (j:=((kn:Nat):Int) - 1) (e:=55) (sz:=5) (S:=(inG kg)) (cs:=cs) (hrd:=H7 hO) (hb:=(fun hc=>by exact ⟨by omega,by omega,by intro h; have h2:=congrArg List.length h; rw [hcl,List.length_nil] at h2; omega⟩)) (k:=?_)))))))
   have hw31:Addr.add (eltA ka ((Int.toNat (((kn:Nat):Int) - 1)) * 5)) 1=eltA ka ((Int.toNat (((kn:Nat):Int) - 1)) * 5+1):=eltA_add _ _ _
   refine A4 (j:=10) [0] (k:=Q5 36 [(29,true)] (x:=.pointer (some (Addr.add (eltA ka ((Int.toNat (((kn:Nat):Int) - 1)) * 5)) 1))) (y:=.pointer (some (eltA ka ((Int.toNat (((kn:Nat):Int) - 1)) * 5+1)))) (by simp only [hw31]) (GL_loadS (i:=10) (ch:=[(29,true)]) (a:=ka) (q:=(Int.toNat (((kn:Nat):Int) - 1)) * 5+1) (S:=(inG kg)) (cs:=cs) (v:=.string (bk v.name)) rfl rfl kr kr kr kr kr (H7 hO) (D9 1 rfl) (fun hc=>(by rw [e2,show Int.toNat (((kn:Nat):Int) - 1) * 5+1=cs0.length+1 by omega,List.getElem?_append_right (by omega),Nat.add_sub_cancel_left]; exact (kid_cells hPv).1)) ?_))
   refine A8 [0,2,0] [0,1,4,26] (k:=A0 (B0 (b:=(bk v.name).toList==eB.toList) kr (fun hc32=>?_) (fun hc32=>?_)))
   ·
    have hv:v.name=[]:=(eqB _ _).1 hc32
    refine A3 (A4 (j:=3) [0,0,0] (k:=C4 0 3 rfl rfl (A4 (j:=5) [0] (k:=E6 (a:=ka) (S:=(inG kg)) (cs:=cs) kn (((kn:Nat):Int) - 1) 5 (H7 hO) (by exact ⟨by omega,by omega,by intro h; have h2:=congrArg List.length h; rw [hcl,List.length_nil] at h2; omega⟩) ?_))))
    have hw33:Addr.add (eltA ka ((Int.toNat (((kn:Nat):Int) - 1)) * 5)) 4=eltA ka ((Int.toNat (((kn:Nat):Int) - 1)) * 5+4):=eltA_add _ _ _
    refine A4 (j:=7) [0] (k:=F6 46 (x:=.pointer (some (Addr.add (eltA ka ((Int.toNat (((kn:Nat):Int) - 1)) * 5)) 4))) (y:=.pointer (some (eltA ka ((Int.toNat (((kn:Nat):Int) - 1)) * 5+4)))) (by simp only [hw33]) (I0 (a:=ka) (S:=(inG kg)) (cs:=cs) ((Int.toNat (((kn:Nat):Int) - 1)) * 5+4) (.string (bk v.text)) (H7 hO) (D9 1 rfl) (fun _=>(by rw [e2,show Int.toNat (((kn:Nat):Int) - 1) * 5+4=cs0.length+4 by omega,List.getElem?_append_right (by omega),Nat.add_sub_cancel_left]; exact (kid_cells hPv).2)) ?_))
    refine A4 (j:=9) [0] (k:=K5 (bk v.text) (bk s) (by intro _; rw [C8,C8]; have h2:=X5 l0 v; rw [← e1] at h2; omega) (F6 49 (x:=.string ((bk v.text)++(bk s))) (y:=.string (bk (v.text++s))) (by rw [bk_app]) (E6 (a:=ka) (S:=(inG kg)) (cs:=cs) kn (((kn:Nat):Int) - 1) 5 (H7 hO) (by exact ⟨by omega,by omega,by intro h; have h2:=congrArg List.length h; rw [hcl,List.length_nil] at h2; omega⟩) ?_)))
    have hw34:Addr.add (eltA ka ((Int.toNat (((kn:Nat):Int) - 1)) * 5)) 4=eltA ka ((Int.toNat (((kn:Nat):Int) - 1)) * 5+4):=eltA_add _ _ _
    refine A4 (j:=12) [0] (k:=F6 51 (x:=.pointer (some (Addr.add (eltA ka ((Int.toNat (((kn:Nat):Int) - 1)) * 5)) 4))) (y:=.pointer (some (eltA ka ((Int.toNat (((kn:Nat):Int) - 1)) * 5+4)))) (by simp only [hw34]) (GL_storeO (i:=12) (ch:=[]) (a:=ka) (q:=(Int.toNat (((kn:Nat):Int) - 1)) * 5+4) (len:=kn) (cap:=kc) (v:=.string (bk (v.text++s))) (g:=kg) (j:=1) (cs:=cs) (cs':=(cs0++c.set 4 (.string (bk (v.text++s))))) rfl rfl kr kr kr kr rfl kr kr kr rfl hO (by omega) (by rw [e2,show (Int.toNat (((kn:Nat):Int) - 1)) * 5+4=cs0.length+4 by omega,List.set_append_right _ _ (by omega),Nat.add_sub_cancel_left]) (fun g35 hO36=>?_)))
    refine B4 (E':=[]) [] [] (k:=B6 (B7 [] [] (k:=?_)))
    exact ⟨_,_,_,_,_,by rw [e1,add_last hs0 hv,List.length_append]; exact hkl,hO36,by rw [e1,add_last hs0 hv,e3]; exact hP0.snoc (kid_text hPv hv s),rfl⟩
   ·
    have hv:v.name≠[]:=(eqBf _ _).1 hc32
    refine S0 (T:=Option Addr × Nat × Grp) (fun ξ:Option Addr × Nat × Grp=>[]) (fun ξ:Option Addr × Nat × Grp=>([(nb,.cells #[v0,v1,v2,.slice ξ.1 (kn+1) ξ.2.1,v4] 55 (0,0))]::ξ.2.2::H)) (fun ξ:Option Addr × Nat × Grp=>(Go.Sw.Own 55 5 (.slice ξ.1 (kn+1) ξ.2.1) ξ.2.2 (kn+1) (cs++[.string eB,.string eB,.slice none 0 0,.slice none 0 0,.string (bk s)]))) ?_ ?_
    ·
     refine H8 H kr (G5 (fuel:=13) [(0,0)] (fun w h=>(h.pk 2 [])) (k:=L2 (ad:=⟨nb,0,none⟩) 1 (hL:=(fun w h=>(h.pk 2 []))) (k:=G5 (fuel:=9) [(2,0),(4,0),(5,0)] (fun w h=>(h.pk 2 [])) (k:=L1 3 7 (k:=?_) (k':=?_)))))
     ·
      refine C4 0 3 rfl rfl (C0 kr (fun w h=>(h.pk 2 [])) (Y4 (v:=.int .i64 ((kn:Nat):Int)) 6 (hL:=(fun w h=>(h.pk 2 []))) (k:=D7 7 (k:=L0 55 1 zN (fun b37=>C0 kr (fun w h=>(h.pk 3 [])) (N8 ([(b37,.cells zN.toArray 55 (0,0))]::H) (fun w h=>(h.pk 1 [])) (D7 8 (k:=O4 (inf:=Tryz.t55) 1 0 2 rfl rfl hO (by omega) (by show (kn+1) * 96≤140737488355328; omega) (fun v38 g39 hO40=>?_)))))))))
      obtain ⟨a41,cap42,rfl,hcap43,hrd44⟩:=hO40.shape
      refine C0 kr (fun w h=>(h.pk 2 [0])) (L2 (ad:=⟨nb,0,none⟩) 11 (hL:=(fun w h=>(h.pk 2 [0]))) (k:=G5 (fuel:=3) [(12,0)] (fun w h=>(h.pk 2 [0])) (k:=L1 9 13 (k:=?_) (k':=?_))))
      ·
       refine E6 (a:=a41) (S:=(inG g39)) (cs:=(cs++zN)) (kn+1) ((kn:Nat):Int) 5 (H7 hO40) (by exact ⟨by omega,by omega,by intro h; have h2:=congrArg List.length h; rw [List.length_append] at h2; simp at h2⟩) (C0 kr (fun w h=>(h.pk 2 [0])) (L1 10 13 (k:=?_) (k':=?_)))
       ·
        refine G1 (ch:=[]) (a:=a41) (q:=kn * 5) (len:=(kn+1)) (cap:=cap42) (v:=.agg #[.string eB,.string eB,.slice none 0 0,.slice none 0 0,.string (bk s)]) (g:=g39) (j:=2) (cs:=(cs++zN)) (cs':=(cs++[.string eB,.string eB,.slice none 0 0,.slice none 0 0,.string (bk s)])) (l:=[.string eB,.string eB,.slice none 0 0,.slice none 0 0,.string (bk s)]) (h1:=kr) (hO:=hO40) (hq:=(by rw [List.length_append,(show cs.length=kn * 5 by omega)]; exact Nat.le_refl _)) (h0:=List.cons_ne_nil _ _) (hcs:=I2 (z:=zN) (l:=[.string eB,.string eB,.slice none 0 0,.slice none 0 0,.string (bk s)]) (show cs.length=kn * 5 by omega) rfl) (k:=(fun g45 hO46=>?_))
        refine C0 kr (fun w h=>(h.pk 2 [0])) (D7 13 (k:=E4 1 3 (.slice a41 (kn+1) cap42) rfl (C0 kr (fun w h=>(h.pk 2 [0])) (G3 (E':=[]) [] (k:=G8 (a41,cap42,g45) [] kr (fun w h=>h.pkT 1 [1,1]) hO46)))))
       ·
        refine E4 1 3 (.slice a41 (kn+1) cap42) rfl (C0 kr (fun w h=>(h.pk 2 [0])) (D7 10 (k:=G1 (ch:=[]) (a:=a41) (q:=kn * 5) (len:=(kn+1)) (cap:=cap42) (v:=.agg #[.string eB,.string eB,.slice none 0 0,.slice none 0 0,.string (bk s)]) (g:=g39) (j:=2) (cs:=(cs++zN)) (cs':=(cs++[.string eB,.string eB,.slice none 0 0,.slice none 0 0,.string (bk s)])) (l:=[.string eB,.string eB,.slice none 0 0,.slice none 0 0,.string (bk s)]) (h1:=kr) (hO:=hO40) (hq:=(by rw [List.length_append,(show cs.length=kn * 5 by omega)]; exact Nat.le_refl _)) (h0:=List.cons_ne_nil _ _) (hcs:=I2 (z:=zN) (l:=[.string eB,.string eB,.slice none 0 0,.slice none 0 0,.string (bk s)]) (show cs.length=kn * 5 by omega) rfl) (k:=(fun g47 hO48=>?_)))))
        refine C0 kr (fun w h=>(h.pk 2 [0])) (G3 (E':=[]) [] (k:=G8 (a41,cap42,g47) [] kr (fun w h=>h.pkT 1 [1,1]) hO48))
      ·
       refine E4 1 3 (.slice a41 (kn+1) cap42) rfl (C0 kr (fun w h=>(h.pk 2 [0])) (D7 9 (k:=E6 (a:=a41) (S:=(inG g39)) (cs:=(cs++zN)) (kn+1) ((kn:Nat):Int) 5 (H7 hO40) (by exact ⟨by omega,by omega,by intro h; have h2:=congrArg List.length h; rw [List.length_append] at h2; simp at h2⟩) (C0 kr (fun w h=>(h.pk 2 [0])) (D7 10 (k:=G1 (ch:=[]) (a:=a41) (q:=kn * 5) (len:=(kn+1)) (cap:=cap42) (v:=.agg #[.string eB,.string eB,.slice none 0 0,.slice none 0 0,.string (bk s)]) (g:=g39) (j:=2) (cs:=(cs++zN)) (cs':=(cs++[.string eB,.string eB,.slice none 0 0,.slice none 0 0,.string (bk s)])) (l:=[.string eB,.string eB,.slice none 0 0,.slice none 0 0,.string (bk s)]) (h1:=kr) (hO:=hO40) (hq:=(by rw [List.length_append,(show cs.length=kn * 5 by omega)]; exact Nat.le_refl _)) (h0:=List.cons_ne_nil _ _) (hcs:=I2 (z:=zN) (l:=[.string eB,.string eB,.slice none 0 0,.slice none 0 0,.string (bk s)]) (show cs.length=kn * 5 by omega) rfl) (k:=(fun g49 hO50=>?_))))))))
       refine C0 kr (fun w h=>(h.pk 2 [0])) (G3 (E':=[]) [] (k:=G8 (a41,cap42,g49) [] kr (fun w h=>h.pkT 1 [1,1]) hO50))
     ·
      refine L0 55 1 zN (fun b51=>C0 kr (fun w h=>(h.pk 3 [])) (N8 ([(b51,.cells zN.toArray 55 (0,0))]::H) (fun w h=>(h.pk 1 [])) (D7 3 (k:=C4 1 3 rfl rfl (C0 kr (fun w h=>(h.pk 2 [0])) (Y4 (v:=.int .i64 ((kn:Nat):Int)) 6 (hL:=(fun w h=>(h.pk 2 [0]))) (k:=D7 8 (k:=O4 (inf:=Tryz.t55) 1 0 2 rfl rfl hO (by omega) (by show (kn+1) * 96≤140737488355328; omega) (fun v52 g53 hO54=>?_)))))))))
      obtain ⟨a55,cap56,rfl,hcap57,hrd58⟩:=hO54.shape
      refine C0 kr (fun w h=>(h.pk 2 [0])) (L2 (ad:=⟨nb,0,none⟩) 11 (hL:=(fun w h=>(h.pk 2 [0]))) (k:=G5 (fuel:=3) [(12,0)] (fun w h=>(h.pk 2 [0])) (k:=L1 9 13 (k:=?_) (k':=?_))))
      ·
       refine E6 (a:=a55) (S:=(inG g53)) (cs:=(cs++zN)) (kn+1) ((kn:Nat):Int) 5 (H7 hO54) (by exact ⟨by omega,by omega,by intro h; have h2:=congrArg List.length h; rw [List.length_append] at h2; simp at h2⟩) (C0 kr (fun w h=>(h.pk 2 [0])) (L1 10 13 (k:=?_) (k':=?_)))
       ·
        refine G1 (ch:=[]) (a:=a55) (q:=kn * 5) (len:=(kn+1)) (cap:=cap56) (v:=.agg #[.string eB,.string eB,.slice none 0 0,.slice none 0 0,.string (bk s)]) (g:=g53) (j:=2) (cs:=(cs++zN)) (cs':=(cs++[.string eB,.string eB,.slice none 0 0,.slice none 0 0,.string (bk s)])) (l:=[.string eB,.string eB,.slice none 0 0,.slice none 0 0,.string (bk s)]) (h1:=kr) (hO:=hO54) (hq:=(by rw [List.length_append,(show cs.length=kn * 5 by omega)]; exact Nat.le_refl _)) (h0:=List.cons_ne_nil _ _) (hcs:=I2 (z:=zN) (l:=[.string eB,.string eB,.slice none 0 0,.slice none 0 0,.string (bk s)]) (show cs.length=kn * 5 by omega) rfl) (k:=(fun g59 hO60=>?_))
        refine C0 kr (fun w h=>(h.pk 2 [0])) (D7 13 (k:=E4 1 3 (.slice a55 (kn+1) cap56) rfl (C0 kr (fun w h=>(h.pk 2 [0])) (G3 (E':=[]) [] (k:=G8 (a55,cap56,g59) [] kr (fun w h=>h.pkT 1 [1,1]) hO60)))))
       ·
        refine E4 1 3 (.slice a55 (kn+1) cap56) rfl (C0 kr (fun w h=>(h.pk 2 [0])) (D7 10 (k:=G1 (ch:=[]) (a:=a55) (q:=kn * 5) (len:=(kn+1)) (cap:=cap56) (v:=.agg #[.string eB,.string eB,.slice none 0 0,.slice none 0 0,.string (bk s)]) (g:=g53) (j:=2) (cs:=(cs++zN)) (cs':=(cs++[.string eB,.string eB,.slice none 0 0,.slice none 0 0,.string (bk s)])) (l:=[.string eB,.string eB,.slice none 0 0,.slice none 0 0,.string (bk s)]) (h1:=kr) (hO:=hO54) (hq:=(by rw [List.length_append,(show cs.length=kn * 5 by omega)]; exact Nat.le_refl _)) (h0:=List.cons_ne_nil _ _) (hcs:=I2 (z:=zN) (l:=[.string eB,.string eB,.slice none 0 0,.slice none 0 0,.string (bk s)]) (show cs.length=kn * 5 by omega) rfl) (k:=(fun g61 hO62=>?_)))))
        refine C0 kr (fun w h=>(h.pk 2 [0])) (G3 (E':=[]) [] (k:=G8 (a55,cap56,g61) [] kr (fun w h=>h.pkT 1 [1,1]) hO62))
      ·
       refine E4 1 3 (.slice a55 (kn+1) cap56) rfl (C0 kr (fun w h=>(h.pk 2 [0])) (D7 9 (k:=E6 (a:=a55) (S:=(inG g53)) (cs:=(cs++zN)) (kn+1) ((kn:Nat):Int) 5 (H7 hO54) (by exact ⟨by omega,by omega,by intro h; have h2:=congrArg List.length h; rw [List.length_append] at h2; simp at h2⟩) (C0 kr (fun w h=>(h.pk 2 [0])) (D7 10 (k:=G1 (ch:=[]) (a:=a55) (q:=kn * 5) (len:=(kn+1)) (cap:=cap56) (v:=.agg #[.string eB,.string eB,.slice none 0 0,.slice none 0 0,.string (bk s)]) (g:=g53) (j:=2) (cs:=(cs++zN)) (cs':=(cs++[.string eB,.string eB,.slice none 0 0,.slice none 0 0,.string (bk s)])) (l:=[.string eB,.string eB,.slice none 0 0,.slice none 0 0,.string (bk s)]) (h1:=kr) (hO:=hO54) (hq:=(by rw [List.length_append,(show cs.length=kn * 5 by omega)]; exact Nat.le_refl _)) (h0:=List.cons_ne_nil _ _) (hcs:=I2 (z:=zN) (l:=[.string eB,.string eB,.slice none 0 0,.slice none 0 0,.string (bk s)]) (show cs.length=kn * 5 by omega) rfl) (k:=(fun g63 hO64=>?_))))))))
       refine C0 kr (fun w h=>(h.pk 2 [0])) (G3 (E':=[]) [] (k:=G8 (a55,cap56,g63) [] kr (fun w h=>h.pkT 1 [1,1]) hO64))
    ·
     rintro ⟨xa,xc,xg⟩ hxo
     dsimp only at hxo
     refine B6 (B7 [] [] (k:=?_))
     exact ⟨_,_,_,_,_,by rw [add_new hs0 (.inr ⟨l0,v,e1,hv⟩),List.length_append,hkn]; rfl,hxo,by rw [add_new hs0 (.inr ⟨l0,v,e1,hv⟩)]; have h2:=hP.snoc (XRep.text s); rwa [List.append_nil] at h2,rfl⟩
end Go.Proofs.YtppgfiklmfoaeaaGreatDoor
namespace Go.Xml
open Go.Esc Go.Json
section
variable {el : XS → XN × XS} {n : Nat} {ks : List XN} {q : XS}
theorem cont_fault (h:q.2≠0):F7 el n ks q=(ks,q):=cont_ne h
theorem cont_end (h0:q.2=0) (h:[60,47].isPrefixOf q.1=true):F7 el (n+1) ks q=(ks,(q.1.drop 2,q.2)):=by
  rw [F7,if_neg (fun hn=>hn h0),P9 h,if_pos rfl]; rfl
theorem cont_cdata (h0:q.2=0) (h1:¬ [60,47].isPrefixOf q.1=true) (h:[60,33,91,67,68,65,84,65,91].isPrefixOf q.1=true):F7 el (n+1) ks q=F7 el n (addX ks (C1 (H3 [93,93,62] (q.1.drop 9,q.2)).1)) (H3 [93,93,62] (q.1.drop 9,q.2)).2:=by
  rw [F7,if_neg (fun hn=>hn h0),M5 h1,P9 h]; rfl
theorem cont_aside (h0:q.2=0) (h1:¬ [60,47].isPrefixOf q.1=true) (h2:¬ [60,33,91,67,68,65,84,65,91].isPrefixOf q.1=true) (h:(H6 q).1=true):F7 el (n+1) ks q=F7 el n ks (H6 q).2:=by
  rw [F7,if_neg (fun hn=>hn h0),M5 h1,M5 h2]
  simp only [Bool.false_eq_true,if_false]
  rw [if_pos h]
theorem cont_el (h0:q.2=0) (h1:¬ [60,47].isPrefixOf q.1=true) (h2:¬ [60,33,91,67,68,65,84,65,91].isPrefixOf q.1=true) (h3:(H6 q).1=false) (h:[60].isPrefixOf q.1=true):F7 el (n+1) ks q=F7 el n (ks++[(el (q.1.drop 1,q.2)).1]) (el (q.1.drop 1,q.2)).2:=by
  rw [F7,if_neg (fun hn=>hn h0),M5 h1,M5 h2]
  simp only [Bool.false_eq_true,if_false]
  rw [h3]
  simp only [Bool.false_eq_true,if_false]
  rw [P9 h,if_pos rfl]; rfl
theorem cont_rest (h0:q.2=0) (h1:¬ [60,47].isPrefixOf q.1=true) (h2:¬ [60,33,91,67,68,65,84,65,91].isPrefixOf q.1=true) (h3:(H6 q).1=false) (h4:¬ [60].isPrefixOf q.1=true):F7 el (n+1) ks q=match idxL [60] q.1 with
      | none=>(ks,F0 70 q)
      | some i=>if (idxL [93,93,62] (q.1.take i)).isSome then (ks,F0 70 q) else F7 el n (addX ks (M9 (q.1.take i) (q.1.drop i,q.2)).1) (M9 (q.1.take i) (q.1.drop i,q.2)).2:=by
  rw [F7,if_neg (fun hn=>hn h0),M5 h1,M5 h2]
  simp only [Bool.false_eq_true,if_false]
  rw [h3]
  simp only [Bool.false_eq_true,if_false]
  rw [M5 h4]
  simp only [Bool.false_eq_true,if_false]
  rfl
theorem cont_none (h0:q.2=0) (h1:¬ [60,47].isPrefixOf q.1=true) (h2:¬ [60,33,91,67,68,65,84,65,91].isPrefixOf q.1=true) (h3:(H6 q).1=false) (h4:¬ [60].isPrefixOf q.1=true) (h:idxL [60] q.1=none):F7 el (n+1) ks q=(ks,F0 70 q):=by
  rw [cont_rest h0 h1 h2 h3 h4,h]
theorem cont_bad (h0:q.2=0) (h1:¬ [60,47].isPrefixOf q.1=true) (h2:¬ [60,33,91,67,68,65,84,65,91].isPrefixOf q.1=true) (h3:(H6 q).1=false) (h4:¬ [60].isPrefixOf q.1=true) {i:Nat} (h:idxL [60] q.1=some i) (hb:(idxL [93,93,62] (q.1.take i)).isSome=true):F7 el (n+1) ks q=(ks,F0 70 q):=by
  rw [cont_rest h0 h1 h2 h3 h4,h]; exact if_pos hb
theorem cont_text (h0:q.2=0) (h1:¬ [60,47].isPrefixOf q.1=true) (h2:¬ [60,33,91,67,68,65,84,65,91].isPrefixOf q.1=true) (h3:(H6 q).1=false) (h4:¬ [60].isPrefixOf q.1=true) {i:Nat} (h:idxL [60] q.1=some i) (hb:(idxL [93,93,62] (q.1.take i)).isSome=false):F7 el (n+1) ks q=F7 el n (addX ks (M9 (q.1.take i) (q.1.drop i,q.2)).1) (M9 (q.1.take i) (q.1.drop i,q.2)).2:=by
  rw [cont_rest h0 h1 h2 h3 h4,h]; exact if_neg (by rw [hb]; exact Bool.false_ne_true)
end
theorem aside_false {q:XS} (h:(H6 q).1=false):H6 q=(false,q):=by
  unfold H6 at h ⊢
  split at h
  · cases h
  · rename_i h1
    rw [if_neg h1]
    split at h
    · cases h
    · rename_i h2; rw [if_neg h2]
theorem refs_v (s:List UInt8) (q:XS):(M9 s q).1=unL (C1 s):=rfl
theorem el_text (lv:Nat) (sp:SPX) (q:XS):(elX lv sp q).1.text=[]:=by
  rw [elX_eq]
  dsimp only
  split
  · rfl
  · cases lv with
    | zero=>rfl
    | succ lv=>dsimp only; split <;> rfl
theorem pre_le {w l:List UInt8} (h:w.isPrefixOf l=true):w.length≤l.length:=(List.isPrefixOf_iff_prefix.1 h).length_le
theorem idx_pos {l:List UInt8} {i:Nat} (h:idxL [60] l=some i) (h0:¬ [60].isPrefixOf l=true):0<i∧i<l.length:=by
  refine ⟨?_,(Y8 h).2.2⟩
  rcases Nat.eq_zero_or_pos i with rfl | hi
  · have:=idx_pre h
    rw [List.drop_zero] at this
    exact absurd this h0
  · exact hi
theorem until_sum (w:List UInt8) (q:XS):(H3 w q).1.length+(H3 w q).2.1.length≤q.1.length:=by
  unfold H3
  cases h:idxL w q.1 with
  | none=>dsimp only; rw [W5]; simp
  | some i=>dsimp only; rw [List.length_take,List.length_drop]; omega
theorem tag_le (n:Nat) (acc:List AT):∀ (q:XS),(tagX n acc q).2.2.1.length≤q.1.length:=by
  have ha:∀ (n:Nat) (acc:List AT) (q:XS),(E8 n acc q).2.1.length≤q.1.length:=by
    intro n
    induction n with
    | zero=>intro acc q; exact Nat.le_refl _
    | succ n ih =>
      intro acc q
      rw [E8]
      split
      · exact Nat.le_refl _
      · split
        · have h1:=ih (acc++[(W6 (K6 q).2).1]) (W6 (K6 q).2).2
          have h2:=attrX_le (K6 q).2
          have h3:=skip_le q
          omega
        · exact skip_le q
  intro q
  unfold tagX
  dsimp only
  have h1:=ha n acc q
  have h2:=take_le [47,62] (E8 n acc q).2
  split
  · omega
  · have h3:=must_le [62] (G2 [47,62] (E8 n acc q).2).2
    omega
theorem attrs_le (n:Nat) (acc:List AT) (q:XS):(E8 n acc q).2.1.length≤q.1.length∧(E8 n acc q).1.length≤acc.length+n:=by
  induction n generalizing acc q with
  | zero=>exact ⟨Nat.le_refl _,Nat.le_refl _⟩
  | succ n ih =>
    rw [E8]
    split
    · exact ⟨Nat.le_refl _,Nat.le_add_right _ _⟩
    · split
      · have h1:=ih (acc++[(W6 (K6 q).2).1]) (W6 (K6 q).2).2
        have h2:=attrX_le (K6 q).2
        have h3:=skip_le q
        rw [List.length_append,List.length_cons,List.length_nil] at h1
        exact ⟨by omega,by omega⟩
      · exact ⟨skip_le q,Nat.le_add_right _ _⟩
theorem marks_le:∀ (ats:List AT) (out:List XA) (sp:SPX) (q:XS),(N3 ats out sp q).2.1=q.1∧(N3 ats out sp q).1.length≤out.length+ats.length
  | [],_,_,_=>⟨rfl,Nat.le_refl _⟩
  | a::r,out,sp,q=>by
    rw [N3]
    split
    · have:=marks_le r out sp q; exact ⟨this.1,by rw [List.length_cons]; omega⟩
    · have hs:(if a.q.has=true then J9 a.q.pre true sp q else ([],q)).2.1=q.1:=by
        split
        · exact space_le _ _ _ _
        · rfl
      dsimp only
      generalize (if a.q.has=true then J9 a.q.pre true sp q else ([],q))=y at hs ⊢
      refine ⟨?_,?_⟩
      · rw [(marks_le r _ sp _).1]
        split
        · exact hs
        · exact hs
      · refine Nat.le_trans (marks_le r _ sp _).2 ?_
        rw [List.length_append,List.length_cons,List.length_nil,List.length_cons]; omega
theorem cont_le {el:XS→XN × XS} (hel:∀ q,(el q).2.1.length≤q.1.length):∀ (n:Nat) (ks:List XN) (q:XS),(F7 el n ks q).2.1.length≤q.1.length
  | 0,_,_=>Nat.le_refl _
  | n+1,ks,q=>by
    by_cases h0:q.2=0
    · by_cases h1:[60,47].isPrefixOf q.1=true
      · rw [cont_end h0 h1]; show (q.1.drop 2).length≤_; rw [List.length_drop]; omega
      · by_cases h2:[60,33,91,67,68,65,84,65,91].isPrefixOf q.1=true
        · rw [cont_cdata h0 h1 h2]
          have h3:=cont_le hel n (addX ks (C1 (H3 [93,93,62] (q.1.drop 9,q.2)).1)) (H3 [93,93,62] (q.1.drop 9,q.2)).2
          have h4:=R1 [93,93,62] (q.1.drop 9,q.2)
          have h5:(q.1.drop 9).length≤q.1.length:=by rw [List.length_drop]; omega
          dsimp only at h4
          omega
        · cases h3:(H6 q).1 with
          | true=>rw [cont_aside h0 h1 h2 h3]; have h4:=cont_le hel n ks (H6 q).2; have h5:=Z0 q; omega
          | false =>
            by_cases h4:[60].isPrefixOf q.1=true
            · rw [cont_el h0 h1 h2 h3 h4]
              have h5:=cont_le hel n (ks++[(el (q.1.drop 1,q.2)).1]) (el (q.1.drop 1,q.2)).2
              have h6:=hel (q.1.drop 1,q.2)
              have h7:(q.1.drop 1).length≤q.1.length:=by rw [List.length_drop]; omega
              dsimp only at h6
              omega
            · cases hi:idxL [60] q.1 with
              | none=>rw [cont_none h0 h1 h2 h3 h4 hi]; exact Nat.le_refl _
              | some i =>
                cases hb:(idxL [93,93,62] (q.1.take i)).isSome with
                | true=>rw [cont_bad h0 h1 h2 h3 h4 hi hb]; exact Nat.le_refl _
                | false =>
                  rw [cont_text h0 h1 h2 h3 h4 hi hb]
                  have h5:=cont_le hel n (addX ks (M9 (q.1.take i) (q.1.drop i,q.2)).1) (M9 (q.1.take i) (q.1.drop i,q.2)).2
                  rw [refs_len] at h5
                  have h7:(q.1.drop i).length≤q.1.length:=by rw [List.length_drop]; omega
                  dsimp only at h5
                  omega
    · rw [cont_ne h0]; exact Nat.le_refl _
theorem close_le (a:QN) (k:List XN × XS) (s:List UInt8) (m:List XA):(S7 a k s m).2.1.length≤k.2.1.length:=by
  unfold S7
  dsimp only
  have h1:=qual_le k.2
  have h2:=skip_le (A7 k.2).2
  have h3:=must_le [62] (K6 (A7 k.2).2).2
  split
  · rw [W5]; omega
  · omega
theorem el_le:∀ (lv:Nat) (sp:SPX) (q:XS),(elX lv sp q).2.1.length≤q.1.length:=by
  intro lv
  induction lv with
  | zero =>
    intro sp q
    rw [elX_eq]
    dsimp only
    have h1:=qual_le q
    have h2:=tag_le ((A7 q).2.1.length+1) [] (A7 q).2
    split
    · dsimp only; omega
    · rw [W5,(marks_le _ _ _ _).1,space_le,sp_le]; omega
  | succ lv ih =>
    intro sp q
    rw [elX_eq]
    dsimp only
    have h1:=qual_le q
    have h2:=tag_le ((A7 q).2.1.length+1) [] (A7 q).2
    split
    · dsimp only; omega
    · split
      · dsimp only; rw [(marks_le _ _ _ _).1,space_le,sp_le]; omega
      · refine Nat.le_trans (close_le _ _ _ _) ?_
        refine Nat.le_trans (cont_le (ih _) _ _ _) ?_
        rw [(marks_le _ _ _ _).1,space_le,sp_le]; omega
end Go.Xml
namespace Go.Proofs.YtppgfiklmfoaeaaGreatDoor
open Go.Sw Go.Sha Go.Esc Go.RowKit Go.Json Go.Xml
theorem xaside2_ (r:Nat) (q:XS) (hl:q.1.length≤1000000) (W0:World) (H:List Grp) (hX:P2 W0):Tri Tryz.prog 101 #[pt r] W0 (rdX r q::H) (fun v H'=>((H6 q).1=true∧v=.bool true∧H'=rdX r (H6 q).2::H)∨((H6 q).1=false∧v=.bool false∧H'=rdX r q::H)):=by
  refine (xaside_ r q hl W0 H hX).post fun v H' ⟨h1,h2⟩=>⟨H',?_,fun _ h=>h⟩
  cases h:(H6 q).1 with
  | true=>exact .inl ⟨rfl,by rw [h1,h],h2⟩
  | false=>exact .inr ⟨rfl,by rw [h1,h],by rw [h2,aside_false h]⟩
theorem xcontent_ (lv:Nat) (d:Int) (hd:0≤d∧d≤24) (r:Nat) (q:XS) (hl:q.1.length≤1000000) (nb:Nat) (v0 v1 v2 v4:Value) (ms mc:Nat) (M:SM) (sp:SPX) (hel:∀ (q:XS),q.1.length≤1000000→∀ (W0:World) (H:List Grp),P2 W0→Tri Tryz.prog 63 #[pt r,.int .i64 (d+1),.map (some ms)] W0 (rdX r q::[(ms,.map (F2 M) mc)]::H) (fun v H2=>∃ c g,XRep 75 55 (elX lv sp q).1 c g∧v=.agg c.toArray∧H2=rdX r (elX lv sp q).2::[(ms,.map (F2 M) mc)]::g::H)) (W0:World) (H:List Grp) (hX:P2 W0):Tri Tryz.prog 109 #[pt r,pt nb,.int .i64 d,.map (some ms)] W0 ([(r,.cells #[.string (bk q.1),.int .i64 q.2] 97 (0,0))]::[(ms,.map (F2 M) mc)]::[(nb,.cells #[v0,v1,v2,.slice none 0 0,v4] 55 (0,0))]::H) (fun _ H2=>∃ kn ka kc kg cs gs,kn=(F7 (elX lv sp) (q.1.length+1) [] q).1.length∧Go.Sw.Own 55 5 (.slice ka kn kc) kg kn cs∧XRepL 75 55 (F7 (elX lv sp) (q.1.length+1) [] q).1 cs gs∧H2=rdX r (F7 (elX lv sp) (q.1.length+1) [] q).2::[(ms,.map (F2 M) mc)]::[(nb,.cells #[v0,v1,v2,.slice ka kn kc,v4] 55 (0,0))]::kg::gs::H):=by
 refine D4 84 Tryz.func109 ?_
 refine B2 (V6 (H':=([(r,.cells #[.string (bk q.1),.int .i64 q.2] 97 (0,0))]::[(ms,.map (F2 M) mc)]::[(nb,.cells #[v0,v1,v2,.slice none 0 0,v4] 55 (0,0))]::[]::[]::H)) (fun w h=>Sat.flat h (List.Perm.refl _)) (I3 (EI:=(fun ξ:Nat × XS × List XN × Nat × Option Addr × Nat × Grp × Grp × List Value=>[⟨0,[],pt r⟩,⟨1,[],pt nb⟩,⟨2,[],.int .i64 d⟩,⟨3,[],.map (some ms)⟩])) (HI:=(fun ξ:Nat × XS × List XN × Nat × Option Addr × Nat × Grp × Grp × List Value=>([(r,.cells #[.string (bk ξ.2.1.1),.int .i64 ξ.2.1.2] 97 (0,0))]::[(ms,.map (F2 M) mc)]::[(nb,.cells #[v0,v1,v2,.slice ξ.2.2.2.2.1 ξ.2.2.2.1 ξ.2.2.2.2.2.1,v4] 55 (0,0))]::ξ.2.2.2.2.2.2.1::ξ.2.2.2.2.2.2.2.1::H))) (Φ:=(fun ξ:Nat × XS × List XN × Nat × Option Addr × Nat × Grp × Grp × List Value=>((F7 (elX lv sp) (q.1.length+1) [] q)=F7 (elX lv sp) ξ.1 ξ.2.2.1 ξ.2.1)∧(ξ.2.1.2=0→ξ.2.1.1.length<ξ.1)∧(ξ.2.1.1.length≤1000000)∧(Go.Sw.Own 55 5 (.slice ξ.2.2.2.2.1 ξ.2.2.2.1 ξ.2.2.2.2.2.1) ξ.2.2.2.2.2.2.1 ξ.2.2.2.1 ξ.2.2.2.2.2.2.2.2)∧(ξ.2.2.2.1=ξ.2.2.1.length)∧(XRepL 75 55 ξ.2.2.1 ξ.2.2.2.2.2.2.2.2 ξ.2.2.2.2.2.2.2.1)∧(ξ.2.2.2.1+ξ.1≤1000002)∧(lastT ξ.2.2.1+4 * ξ.2.1.1.length≤8000000))) (μ:=(fun ξ:Nat × XS × List XN × Nat × Option Addr × Nat × Grp × Grp × List Value=>ξ.1)) (s0:=((q.1.length+1),q,[],0,none,0,[],[],[])) [0,1,2,3] kr rfl ⟨rfl,(fun _=>Nat.lt_succ_self _),hl,Go.Sw.Own.nil,rfl,.nil,(by show 0+(q.1.length+1)≤_; omega),(by show 0+4 * q.1.length≤_; omega)⟩ ?_))
 rintro ⟨n,q2,ks,kn,ka,kc,kg,gs,cs⟩ ⟨hT,hn,hl2,hO,hkn,hP,hb,hlt⟩
 dsimp only at hT hn hl2 hO hkn hP hb hlt
 refine A1 (A1 ?_)
 by_cases hq0:q2.2=0
 ·
  have hnq:=hn hq0
  obtain ⟨m,rfl⟩:∃ m,n=m+1:=⟨n - 1,by omega⟩
  refine A3 (A4 (j:=3) [0,0,0] (k:=C4 0 1 rfl rfl (A4 (j:=5) [0] (k:=F6 15 (x:=.bool (q2.2==0)) (y:=.bool true) (by rw [show (q2.2==0)=true by simpa using hq0]) (A4 (j:=7) [0,0] (k:=Z2 (ch:=[(16,true)]) (f:=102) (fst:=#[]) (caps:=#[]) (vs:=[pt r,.string (mB #[60,47])]) (hf:=Tryz.func102) (hsure:=Q0 kr) (hc:=xtake_ r q2 [60,47] _ _) (k:=?_)))))))
  rintro _ _ (⟨hk1,rfl,rfl⟩ | ⟨hk1,rfl,rfl⟩)
  ·
   have hk1:[60,47].isPrefixOf q2.1=true:=hk1
   have hk1:=hk1
   refine A8 [0,2] [0,1,2,3,20] (k:=A0 (C9 kr (E3 (A6 (A6 (B5 (B7 [] [] (k:=?_))))))))
   rw [hT,cont_end hq0 hk1]; exact ⟨_,_,_,_,_,_,hkn,hO,hP,rfl⟩
  ·
   have hk1:¬ [60,47].isPrefixOf q2.1=true:=hk1
   have hk1:=hk1
   refine A8 [0,2] [0,1,2,3,20] (k:=A0 (C7 kr (A9 (A0 (B2 (B2 (A1 (A3 ?_))))))))
   refine A4 (j:=1) [0] (k:=E0 Tryz.func102 (xtake_ r q2 [60,33,91,67,68,65,84,65,91] _ _) ?_)
   rintro _ _ (⟨hk2,rfl,rfl⟩ | ⟨hk2,rfl,rfl⟩)
   ·
    have hk2:[60,33,91,67,68,65,84,65,91].isPrefixOf q2.1=true:=hk2
    have hk2:=hk2
    refine A8 [0] [0,1,2,3,53] (k:=A0 (C7 kr (A3 (A4 (j:=1) [0] (k:=L0 9 4 [.string (mB #[13,10]),.string (mB #[10]),.string (mB #[13]),.string (mB #[10])] (fun b3=>E0 Tryz.func148 (newRepC_ b3 _ _) ?_))))))
    rintro _ _ ⟨rb4,ra4,rcap4,rg4,rfl,hOwn4,rfl⟩
    have hRT4:Rd (inG rg4) ra4 crT:=by
     obtain ⟨a2,c2,e,_,h⟩:=hOwn4.shape
     injection e with e1; subst e1; exact h
    refine A4 (j:=4) [0] (k:=O0 0 [3] (E0 (vs:=[pt r,.string (mB #[93,93,62])]) Tryz.func141 (xuntil_ r (q2.1.drop 9,q2.2) [93,93,62] (by first | omega | (show (List.drop _ _).length≤_; rw [List.length_drop]; omega)) _ _ hX) ?_))
    rintro _ _ ⟨rfl,rfl⟩
    refine O0 0 [1,1] (E0 Tryz.func149 (crReplace_ rb4 ra4 rcap4 rg4 hRT4 (H3 [93,93,62] (q2.1.drop 9,q2.2)).1 (by have:=until_v [93,93,62] (q2.1.drop 9,q2.2); dsimp only at this; rw [List.length_drop] at this; omega) _ _) ?_)
    rintro _ _ ⟨rfl,rfl⟩
    refine O0 0 [3,3] (E0 Tryz.func147 (xtext_ nb v0 v1 v2 v4 ks kn ka kc kg gs cs hkn hO hP (C1 (H3 [93,93,62] (q2.1.drop 9,q2.2)).1) (by have h9:=V3 (H3 [93,93,62] (q2.1.drop 9,q2.2)).1; have h8:=until_v [93,93,62] (q2.1.drop 9,q2.2); dsimp only at h8; rw [List.length_drop] at h8; omega) (by omega) (by omega) _ _) ?_)
    rintro _ _ ⟨kn5,ka5,kc5,kg5,kcs5,hk5,hO5,hP5,rfl⟩
    refine A8 [] [0,1,2,3] (k:=B6 (B6 (E9 1 [2,3,0,0,1] (D2 (s':=(m,(H3 [93,93,62] (q2.1.drop 9,q2.2)).2,(addX ks (C1 (H3 [93,93,62] (q2.1.drop 9,q2.2)).1)),kn5,ka5,kc5,kg5,gs,kcs5)) [0,1,2,3] kr kr ⟨(by dsimp only; rw [hT,cont_cdata hq0 hk1 hk2]),(by dsimp only; intro _; have h9:=R1 [93,93,62] (q2.1.drop 9,q2.2); dsimp only at h9; rw [List.length_drop] at h9; have h8:=pre_le hk2; simp only [List.length_cons,List.length_nil] at h8; omega),(by dsimp only; have h9:=R1 [93,93,62] (q2.1.drop 9,q2.2); dsimp only at h9; rw [List.length_drop] at h9; omega),hO5,hk5,hP5,(by dsimp only; have h9:=add_len ks (C1 (H3 [93,93,62] (q2.1.drop 9,q2.2)).1); omega),(by dsimp only; have h9:=R1 [93,93,62] (q2.1.drop 9,q2.2); have h7:=until_sum [93,93,62] (q2.1.drop 9,q2.2); dsimp only at h9 h7; rw [List.length_drop] at h9 h7; have h6:=V3 (H3 [93,93,62] (q2.1.drop 9,q2.2)).1; have h5:=lastT_add ks (C1 (H3 [93,93,62] (q2.1.drop 9,q2.2)).1); omega)⟩ (by dsimp only; omega)))))
   ·
    have hk2:¬ [60,33,91,67,68,65,84,65,91].isPrefixOf q2.1=true:=hk2
    have hk2:=hk2
    refine A8 [0] [0,1,2,3,53] (k:=A0 (C9 kr (A1 (A3 (A4 (j:=1) [0] (k:=E0 (vs:=[pt r]) Tryz.func101 (xaside2_ r q2 (by first | omega | (show (List.drop _ _).length≤_; rw [List.length_drop]; omega)) _ _ hX) ?_))))))
    rintro _ _ (⟨ha6,rfl,rfl⟩ | ⟨ha6,rfl,rfl⟩)
    ·
     have has:(H6 q2).1=true:=ha6
     refine A8 [0] [0,1,2,3,63] (k:=A0 (C7 kr (A9 (B6 (B6 (D2 (s':=(m,(H6 q2).2,ks,kn,ka,kc,kg,gs,cs)) [0,1,2,3] kr kr ⟨(by dsimp only; rw [hT,cont_aside hq0 hk1 hk2 has]),(by dsimp only; intro _; have h9:=aside_lt has; omega),(by dsimp only; have h9:=Z0 q2; omega),hO,hkn,hP,(by dsimp only; omega),(by dsimp only; have h9:=Z0 q2; omega)⟩ (by dsimp only; omega)))))))
    ·
     have has:(H6 q2).1=false:=ha6
     refine A8 [0] [0,1,2,3,63] (k:=A0 (C9 kr (A1 (A3 (A4 (j:=1) [0] (k:=E0 Tryz.func102 (xtake_ r q2 [60] _ _) ?_))))))
     rintro _ _ (⟨hk7,rfl,rfl⟩ | ⟨hk7,rfl,rfl⟩)
     ·
      have hk7:[60].isPrefixOf q2.1=true:=hk7
      have hk3:=hk7
      refine A8 [0] [0,1,2,3,66] (k:=A0 (C7 kr (S0 (T:=Option Addr × Nat × Grp × List Value × Grp) (fun ξ:Option Addr × Nat × Grp × List Value × Grp=>[⟨0,[],pt r⟩,⟨1,[],pt nb⟩,⟨2,[],.int .i64 d⟩,⟨3,[],.map (some ms)⟩]) (fun ξ:Option Addr × Nat × Grp × List Value × Grp=>([(r,.cells #[.string (bk (((elX lv sp) (q2.1.drop 1,q2.2)).2).1),.int .i64 ((((elX lv sp) (q2.1.drop 1,q2.2)).2).2)] 97 (0,0))]::[(ms,.map (F2 M) mc)]::[(nb,.cells #[v0,v1,v2,.slice ξ.1 (kn+1) ξ.2.1,v4] 55 (0,0))]::ξ.2.2.1::gs::ξ.2.2.2.2::H)) (fun ξ:Option Addr × Nat × Grp × List Value × Grp=>(Go.Sw.Own 55 5 (.slice ξ.1 (kn+1) ξ.2.1) ξ.2.2.1 (kn+1) (cs++ξ.2.2.2.1))∧(XRep 75 55 ((elX lv sp) (q2.1.drop 1,q2.2)).1 ξ.2.2.2.1 ξ.2.2.2.2)) ?_ ?_)))
      ·
       refine H8 ([(ms,.map (F2 M) mc)]::gs::H) kr (G5 (fuel:=16) [(0,0)] (fun w h=>(h.pk 3 [1,3])) (k:=L2 (ad:=⟨nb,0,none⟩) 1 (hL:=(fun w h=>(h.pk 3 [1,3]))) (k:=G5 (fuel:=11) [(2,0),(4,0),(5,0),(6,0)] (fun w h=>(h.pk 3 [1,3])) (k:=GH_wi 75 (d+1) (by omega) (by omega) kr (G5 (fuel:=10) [(7,0)] (fun w h=>(h.pk 3 [1,3])) (k:=GH_eff3 3 8 10 kr kr kr kr kr kr kr ?_ ?_ ?_))))))
       ·
        refine C4 2 3 rfl rfl (C0 kr (fun w h=>(h.pk 3 [1,3])) (Y4 (v:=.int .i64 ((kn:Nat):Int)) 9 (hL:=(fun w h=>(h.pk 3 [1,3]))) (k:=L1 8 10 (k:=?_) (k':=?_))))
        ·
         refine E0 (vs:=[pt r,.int .i64 (d+1),.map (some ms)]) Tryz.func63 (hel (q2.1.drop 1,q2.2) (by show (List.drop 1 _).length≤_; rw [List.length_drop]; omega) _ _ hX) ?_
         rintro _ _ ⟨vc9,gv9,hJ9,rfl,rfl⟩
         obtain ⟨e0_9,e1_9,e2_9,e3_9,e4_9,rfl,h19⟩:=hJ9.cells5
         refine C0 kr (fun w h=>(h.pk 4 [1,4])) (N8 ([(ms,.map (F2 M) mc)]::gv9::gs::H) (fun w h=>(h.pk 1 [0,1])) (D7 10 (k:=L0 55 1 zN (fun b10=>C0 kr (fun w h=>(h.pk 4 [2,2,4])) (N8 ([(b10,.cells zN.toArray 55 (0,0))]::[(ms,.map (F2 M) mc)]::gv9::gs::H) (fun w h=>(h.pk 1 [1,1,1])) (D7 11 (k:=O4 (inf:=Tryz.t55) 1 0 5 rfl rfl hO (by omega) (by show (kn+1) * 96≤140737488355328; omega) (fun v11 g12 hO13=>?_))))))))
         obtain ⟨a14,cap15,rfl,hcap16,hrd17⟩:=hO13.shape
         refine C0 kr (fun w h=>(h.pk 3 [0,1,1,3])) (L2 (ad:=⟨nb,0,none⟩) 14 (hL:=(fun w h=>(h.pk 3 [0,1,1,3]))) (k:=G5 (fuel:=3) [(15,0)] (fun w h=>(h.pk 3 [0,1,1,3])) (k:=L1 12 16 (k:=?_) (k':=?_))))
         ·
          refine E6 (a:=a14) (S:=(inG g12)) (cs:=(cs++zN)) (kn+1) ((kn:Nat):Int) 5 (H7 hO13) (by exact ⟨by omega,by omega,by intro h; have h2:=congrArg List.length h; rw [List.length_append] at h2; simp at h2⟩) (C0 kr (fun w h=>(h.pk 3 [0,1,1,3])) (L1 13 16 (k:=?_) (k':=?_)))
          ·
           refine G1 (ch:=[]) (a:=a14) (q:=kn * 5) (len:=(kn+1)) (cap:=cap15) (v:=.agg #[e0_9,e1_9,e2_9,e3_9,e4_9]) (g:=g12) (j:=5) (cs:=(cs++zN)) (cs':=(cs++[e0_9,e1_9,e2_9,e3_9,e4_9])) (l:=[e0_9,e1_9,e2_9,e3_9,e4_9]) (h1:=h19) (hO:=hO13) (hq:=(by rw [List.length_append,(show cs.length=kn * 5 by rw [hP.len]; omega)]; exact Nat.le_refl _)) (h0:=List.cons_ne_nil _ _) (hcs:=I2 (z:=zN) (l:=[e0_9,e1_9,e2_9,e3_9,e4_9]) (show cs.length=kn * 5 by rw [hP.len]; omega) rfl) (k:=(fun g18 hO19=>?_))
           refine C0 kr (fun w h=>(h.pk 3 [0,1,1,3])) (D7 16 (k:=E4 4 3 (.slice a14 (kn+1) cap15) rfl (C0 kr (fun w h=>(h.pk 3 [0,1,1,3])) (G3 (E':=[⟨0,[],pt r⟩,⟨1,[],pt nb⟩,⟨2,[],.int .i64 d⟩,⟨3,[],.map (some ms)⟩]) [0,1,2,3] (k:=G8 (a14,cap15,g18,[e0_9,e1_9,e2_9,e3_9,e4_9],gv9) [0,1,2,3] kr (fun w h=>h.pkT 1 [1,1,2,2,2,1]) ⟨hO19,hJ9⟩)))))
          ·
           refine E4 4 3 (.slice a14 (kn+1) cap15) rfl (C0 kr (fun w h=>(h.pk 3 [0,1,1,3])) (D7 13 (k:=G1 (ch:=[]) (a:=a14) (q:=kn * 5) (len:=(kn+1)) (cap:=cap15) (v:=.agg #[e0_9,e1_9,e2_9,e3_9,e4_9]) (g:=g12) (j:=5) (cs:=(cs++zN)) (cs':=(cs++[e0_9,e1_9,e2_9,e3_9,e4_9])) (l:=[e0_9,e1_9,e2_9,e3_9,e4_9]) (h1:=h19) (hO:=hO13) (hq:=(by rw [List.length_append,(show cs.length=kn * 5 by rw [hP.len]; omega)]; exact Nat.le_refl _)) (h0:=List.cons_ne_nil _ _) (hcs:=I2 (z:=zN) (l:=[e0_9,e1_9,e2_9,e3_9,e4_9]) (show cs.length=kn * 5 by rw [hP.len]; omega) rfl) (k:=(fun g20 hO21=>?_)))))
           refine C0 kr (fun w h=>(h.pk 3 [0,1,1,3])) (G3 (E':=[⟨0,[],pt r⟩,⟨1,[],pt nb⟩,⟨2,[],.int .i64 d⟩,⟨3,[],.map (some ms)⟩]) [0,1,2,3] (k:=G8 (a14,cap15,g20,[e0_9,e1_9,e2_9,e3_9,e4_9],gv9) [0,1,2,3] kr (fun w h=>h.pkT 1 [1,1,2,2,2,1]) ⟨hO21,hJ9⟩))
         ·
          refine E4 4 3 (.slice a14 (kn+1) cap15) rfl (C0 kr (fun w h=>(h.pk 3 [0,1,1,3])) (D7 12 (k:=E6 (a:=a14) (S:=(inG g12)) (cs:=(cs++zN)) (kn+1) ((kn:Nat):Int) 5 (H7 hO13) (by exact ⟨by omega,by omega,by intro h; have h2:=congrArg List.length h; rw [List.length_append] at h2; simp at h2⟩) (C0 kr (fun w h=>(h.pk 3 [0,1,1,3])) (D7 13 (k:=G1 (ch:=[]) (a:=a14) (q:=kn * 5) (len:=(kn+1)) (cap:=cap15) (v:=.agg #[e0_9,e1_9,e2_9,e3_9,e4_9]) (g:=g12) (j:=5) (cs:=(cs++zN)) (cs':=(cs++[e0_9,e1_9,e2_9,e3_9,e4_9])) (l:=[e0_9,e1_9,e2_9,e3_9,e4_9]) (h1:=h19) (hO:=hO13) (hq:=(by rw [List.length_append,(show cs.length=kn * 5 by rw [hP.len]; omega)]; exact Nat.le_refl _)) (h0:=List.cons_ne_nil _ _) (hcs:=I2 (z:=zN) (l:=[e0_9,e1_9,e2_9,e3_9,e4_9]) (show cs.length=kn * 5 by rw [hP.len]; omega) rfl) (k:=(fun g22 hO23=>?_))))))))
          refine C0 kr (fun w h=>(h.pk 3 [0,1,1,3])) (G3 (E':=[⟨0,[],pt r⟩,⟨1,[],pt nb⟩,⟨2,[],.int .i64 d⟩,⟨3,[],.map (some ms)⟩]) [0,1,2,3] (k:=G8 (a14,cap15,g22,[e0_9,e1_9,e2_9,e3_9,e4_9],gv9) [0,1,2,3] kr (fun w h=>h.pkT 1 [1,1,2,2,2,1]) ⟨hO23,hJ9⟩))
        ·
         refine L0 55 1 zN (fun b24=>C0 kr (fun w h=>(h.pk 4 [2,4])) (N8 ([(b24,.cells zN.toArray 55 (0,0))]::[(ms,.map (F2 M) mc)]::gs::H) (fun w h=>(h.pk 1 [1,1])) (D7 8 (k:=O0 0 [1,1] (E0 (vs:=[pt r,.int .i64 (d+1),.map (some ms)]) Tryz.func63 (hel (q2.1.drop 1,q2.2) (by show (List.drop 1 _).length≤_; rw [List.length_drop]; omega) _ _ hX) ?_)))))
         rintro _ _ ⟨vc25,gv25,hJ25,rfl,rfl⟩
         obtain ⟨e0_25,e1_25,e2_25,e3_25,e4_25,rfl,h125⟩:=hJ25.cells5
         refine C0 kr (fun w h=>(h.pk 4 [3,1,4])) (N8 ([(ms,.map (F2 M) mc)]::gv25::[(b24,.cells zN.toArray 55 (0,0))]::gs::H) (fun w h=>(h.pk 1 [2,0,1])) (D7 11 (k:=O4 (inf:=Tryz.t55) 1 3 5 rfl rfl hO (by omega) (by show (kn+1) * 96≤140737488355328; omega) (fun v26 g27 hO28=>?_))))
         obtain ⟨a29,cap30,rfl,hcap31,hrd32⟩:=hO28.shape
         refine C0 kr (fun w h=>(h.pk 3 [1,1,1,3])) (L2 (ad:=⟨nb,0,none⟩) 14 (hL:=(fun w h=>(h.pk 3 [1,1,1,3]))) (k:=G5 (fuel:=3) [(15,0)] (fun w h=>(h.pk 3 [1,1,1,3])) (k:=L1 12 16 (k:=?_) (k':=?_))))
         ·
          refine E6 (a:=a29) (S:=(inG g27)) (cs:=(cs++zN)) (kn+1) ((kn:Nat):Int) 5 (H7 hO28) (by exact ⟨by omega,by omega,by intro h; have h2:=congrArg List.length h; rw [List.length_append] at h2; simp at h2⟩) (C0 kr (fun w h=>(h.pk 3 [1,1,1,3])) (L1 13 16 (k:=?_) (k':=?_)))
          ·
           refine G1 (ch:=[]) (a:=a29) (q:=kn * 5) (len:=(kn+1)) (cap:=cap30) (v:=.agg #[e0_25,e1_25,e2_25,e3_25,e4_25]) (g:=g27) (j:=5) (cs:=(cs++zN)) (cs':=(cs++[e0_25,e1_25,e2_25,e3_25,e4_25])) (l:=[e0_25,e1_25,e2_25,e3_25,e4_25]) (h1:=h125) (hO:=hO28) (hq:=(by rw [List.length_append,(show cs.length=kn * 5 by rw [hP.len]; omega)]; exact Nat.le_refl _)) (h0:=List.cons_ne_nil _ _) (hcs:=I2 (z:=zN) (l:=[e0_25,e1_25,e2_25,e3_25,e4_25]) (show cs.length=kn * 5 by rw [hP.len]; omega) rfl) (k:=(fun g33 hO34=>?_))
           refine C0 kr (fun w h=>(h.pk 3 [1,1,1,3])) (D7 16 (k:=E4 4 3 (.slice a29 (kn+1) cap30) rfl (C0 kr (fun w h=>(h.pk 3 [1,1,1,3])) (G3 (E':=[⟨0,[],pt r⟩,⟨1,[],pt nb⟩,⟨2,[],.int .i64 d⟩,⟨3,[],.map (some ms)⟩]) [0,1,2,3] (k:=G8 (a29,cap30,g33,[e0_25,e1_25,e2_25,e3_25,e4_25],gv25) [0,1,2,3] kr (fun w h=>h.pkT 1 [0,0,2,2,2,0]) ⟨hO34,hJ25⟩)))))
          ·
           refine E4 4 3 (.slice a29 (kn+1) cap30) rfl (C0 kr (fun w h=>(h.pk 3 [1,1,1,3])) (D7 13 (k:=G1 (ch:=[]) (a:=a29) (q:=kn * 5) (len:=(kn+1)) (cap:=cap30) (v:=.agg #[e0_25,e1_25,e2_25,e3_25,e4_25]) (g:=g27) (j:=5) (cs:=(cs++zN)) (cs':=(cs++[e0_25,e1_25,e2_25,e3_25,e4_25])) (l:=[e0_25,e1_25,e2_25,e3_25,e4_25]) (h1:=h125) (hO:=hO28) (hq:=(by rw [List.length_append,(show cs.length=kn * 5 by rw [hP.len]; omega)]; exact Nat.le_refl _)) (h0:=List.cons_ne_nil _ _) (hcs:=I2 (z:=zN) (l:=[e0_25,e1_25,e2_25,e3_25,e4_25]) (show cs.length=kn * 5 by rw [hP.len]; omega) rfl) (k:=(fun g35 hO36=>?_)))))
           refine C0 kr (fun w h=>(h.pk 3 [1,1,1,3])) (G3 (E':=[⟨0,[],pt r⟩,⟨1,[],pt nb⟩,⟨2,[],.int .i64 d⟩,⟨3,[],.map (some ms)⟩]) [0,1,2,3] (k:=G8 (a29,cap30,g35,[e0_25,e1_25,e2_25,e3_25,e4_25],gv25) [0,1,2,3] kr (fun w h=>h.pkT 1 [0,0,2,2,2,0]) ⟨hO36,hJ25⟩))
         ·
          refine E4 4 3 (.slice a29 (kn+1) cap30) rfl (C0 kr (fun w h=>(h.pk 3 [1,1,1,3])) (D7 12 (k:=E6 (a:=a29) (S:=(inG g27)) (cs:=(cs++zN)) (kn+1) ((kn:Nat):Int) 5 (H7 hO28) (by exact ⟨by omega,by omega,by intro h; have h2:=congrArg List.length h; rw [List.length_append] at h2; simp at h2⟩) (C0 kr (fun w h=>(h.pk 3 [1,1,1,3])) (D7 13 (k:=G1 (ch:=[]) (a:=a29) (q:=kn * 5) (len:=(kn+1)) (cap:=cap30) (v:=.agg #[e0_25,e1_25,e2_25,e3_25,e4_25]) (g:=g27) (j:=5) (cs:=(cs++zN)) (cs':=(cs++[e0_25,e1_25,e2_25,e3_25,e4_25])) (l:=[e0_25,e1_25,e2_25,e3_25,e4_25]) (h1:=h125) (hO:=hO28) (hq:=(by rw [List.length_append,(show cs.length=kn * 5 by rw [hP.len]; omega)]; exact Nat.le_refl _)) (h0:=List.cons_ne_nil _ _) (hcs:=I2 (z:=zN) (l:=[e0_25,e1_25,e2_25,e3_25,e4_25]) (show cs.length=kn * 5 by rw [hP.len]; omega) rfl) (k:=(fun g37 hO38=>?_))))))))
          refine C0 kr (fun w h=>(h.pk 3 [1,1,1,3])) (G3 (E':=[⟨0,[],pt r⟩,⟨1,[],pt nb⟩,⟨2,[],.int .i64 d⟩,⟨3,[],.map (some ms)⟩]) [0,1,2,3] (k:=G8 (a29,cap30,g37,[e0_25,e1_25,e2_25,e3_25,e4_25],gv25) [0,1,2,3] kr (fun w h=>h.pkT 1 [0,0,2,2,2,0]) ⟨hO38,hJ25⟩))
       ·
        refine E0 (vs:=[pt r,.int .i64 (d+1),.map (some ms)]) Tryz.func63 (hel (q2.1.drop 1,q2.2) (by show (List.drop 1 _).length≤_; rw [List.length_drop]; omega) _ _ hX) ?_
        rintro _ _ ⟨vc39,gv39,hJ39,rfl,rfl⟩
        obtain ⟨e0_39,e1_39,e2_39,e3_39,e4_39,rfl,h139⟩:=hJ39.cells5
        refine C0 kr (fun w h=>(h.pk 4 [1,4])) (N8 ([(ms,.map (F2 M) mc)]::gv39::gs::H) (fun w h=>(h.pk 1 [0,1])) (L1 3 10 (k:=?_) (k':=?_)))
        ·
         refine C4 3 3 rfl rfl (C0 kr (fun w h=>(h.pk 3 [1,1,3])) (Y4 (v:=.int .i64 ((kn:Nat):Int)) 9 (hL:=(fun w h=>(h.pk 3 [1,1,3]))) (k:=D7 10 (k:=L0 55 1 zN (fun b40=>C0 kr (fun w h=>(h.pk 4 [2,2,4])) (N8 ([(b40,.cells zN.toArray 55 (0,0))]::[(ms,.map (F2 M) mc)]::gv39::gs::H) (fun w h=>(h.pk 1 [1,1,1])) (D7 11 (k:=O4 (inf:=Tryz.t55) 1 0 5 rfl rfl hO (by omega) (by show (kn+1) * 96≤140737488355328; omega) (fun v41 g42 hO43=>?_)))))))))
         obtain ⟨a44,cap45,rfl,hcap46,hrd47⟩:=hO43.shape
         refine C0 kr (fun w h=>(h.pk 3 [0,1,1,3])) (L2 (ad:=⟨nb,0,none⟩) 14 (hL:=(fun w h=>(h.pk 3 [0,1,1,3]))) (k:=G5 (fuel:=3) [(15,0)] (fun w h=>(h.pk 3 [0,1,1,3])) (k:=L1 12 16 (k:=?_) (k':=?_))))
         ·
          refine E6 (a:=a44) (S:=(inG g42)) (cs:=(cs++zN)) (kn+1) ((kn:Nat):Int) 5 (H7 hO43) (by exact ⟨by omega,by omega,by intro h; have h2:=congrArg List.length h; rw [List.length_append] at h2; simp at h2⟩) (C0 kr (fun w h=>(h.pk 3 [0,1,1,3])) (L1 13 16 (k:=?_) (k':=?_)))
          ·
           refine G1 (ch:=[]) (a:=a44) (q:=kn * 5) (len:=(kn+1)) (cap:=cap45) (v:=.agg #[e0_39,e1_39,e2_39,e3_39,e4_39]) (g:=g42) (j:=5) (cs:=(cs++zN)) (cs':=(cs++[e0_39,e1_39,e2_39,e3_39,e4_39])) (l:=[e0_39,e1_39,e2_39,e3_39,e4_39]) (h1:=h139) (hO:=hO43) (hq:=(by rw [List.length_append,(show cs.length=kn * 5 by rw [hP.len]; omega)]; exact Nat.le_refl _)) (h0:=List.cons_ne_nil _ _) (hcs:=I2 (z:=zN) (l:=[e0_39,e1_39,e2_39,e3_39,e4_39]) (show cs.length=kn * 5 by rw [hP.len]; omega) rfl) (k:=(fun g48 hO49=>?_))
           refine C0 kr (fun w h=>(h.pk 3 [0,1,1,3])) (D7 16 (k:=E4 4 3 (.slice a44 (kn+1) cap45) rfl (C0 kr (fun w h=>(h.pk 3 [0,1,1,3])) (G3 (E':=[⟨0,[],pt r⟩,⟨1,[],pt nb⟩,⟨2,[],.int .i64 d⟩,⟨3,[],.map (some ms)⟩]) [0,1,2,3] (k:=G8 (a44,cap45,g48,[e0_39,e1_39,e2_39,e3_39,e4_39],gv39) [0,1,2,3] kr (fun w h=>h.pkT 1 [1,1,2,2,2,1]) ⟨hO49,hJ39⟩)))))
          ·
           refine E4 4 3 (.slice a44 (kn+1) cap45) rfl (C0 kr (fun w h=>(h.pk 3 [0,1,1,3])) (D7 13 (k:=G1 (ch:=[]) (a:=a44) (q:=kn * 5) (len:=(kn+1)) (cap:=cap45) (v:=.agg #[e0_39,e1_39,e2_39,e3_39,e4_39]) (g:=g42) (j:=5) (cs:=(cs++zN)) (cs':=(cs++[e0_39,e1_39,e2_39,e3_39,e4_39])) (l:=[e0_39,e1_39,e2_39,e3_39,e4_39]) (h1:=h139) (hO:=hO43) (hq:=(by rw [List.length_append,(show cs.length=kn * 5 by rw [hP.len]; omega)]; exact Nat.le_refl _)) (h0:=List.cons_ne_nil _ _) (hcs:=I2 (z:=zN) (l:=[e0_39,e1_39,e2_39,e3_39,e4_39]) (show cs.length=kn * 5 by rw [hP.len]; omega) rfl) (k:=(fun g50 hO51=>?_)))))
           refine C0 kr (fun w h=>(h.pk 3 [0,1,1,3])) (G3 (E':=[⟨0,[],pt r⟩,⟨1,[],pt nb⟩,⟨2,[],.int .i64 d⟩,⟨3,[],.map (some ms)⟩]) [0,1,2,3] (k:=G8 (a44,cap45,g50,[e0_39,e1_39,e2_39,e3_39,e4_39],gv39) [0,1,2,3] kr (fun w h=>h.pkT 1 [1,1,2,2,2,1]) ⟨hO51,hJ39⟩))
         ·
          refine E4 4 3 (.slice a44 (kn+1) cap45) rfl (C0 kr (fun w h=>(h.pk 3 [0,1,1,3])) (D7 12 (k:=E6 (a:=a44) (S:=(inG g42)) (cs:=(cs++zN)) (kn+1) ((kn:Nat):Int) 5 (H7 hO43) (by exact ⟨by omega,by omega,by intro h; have h2:=congrArg List.length h; rw [List.length_append] at h2; simp at h2⟩) (C0 kr (fun w h=>(h.pk 3 [0,1,1,3])) (D7 13 (k:=G1 (ch:=[]) (a:=a44) (q:=kn * 5) (len:=(kn+1)) (cap:=cap45) (v:=.agg #[e0_39,e1_39,e2_39,e3_39,e4_39]) (g:=g42) (j:=5) (cs:=(cs++zN)) (cs':=(cs++[e0_39,e1_39,e2_39,e3_39,e4_39])) (l:=[e0_39,e1_39,e2_39,e3_39,e4_39]) (h1:=h139) (hO:=hO43) (hq:=(by rw [List.length_append,(show cs.length=kn * 5 by rw [hP.len]; omega)]; exact Nat.le_refl _)) (h0:=List.cons_ne_nil _ _) (hcs:=I2 (z:=zN) (l:=[e0_39,e1_39,e2_39,e3_39,e4_39]) (show cs.length=kn * 5 by rw [hP.len]; omega) rfl) (k:=(fun g52 hO53=>?_))))))))
          refine C0 kr (fun w h=>(h.pk 3 [0,1,1,3])) (G3 (E':=[⟨0,[],pt r⟩,⟨1,[],pt nb⟩,⟨2,[],.int .i64 d⟩,⟨3,[],.map (some ms)⟩]) [0,1,2,3] (k:=G8 (a44,cap45,g52,[e0_39,e1_39,e2_39,e3_39,e4_39],gv39) [0,1,2,3] kr (fun w h=>h.pkT 1 [1,1,2,2,2,1]) ⟨hO53,hJ39⟩))
        ·
         refine L0 55 1 zN (fun b54=>C0 kr (fun w h=>(h.pk 4 [2,2,4])) (N8 ([(b54,.cells zN.toArray 55 (0,0))]::[(ms,.map (F2 M) mc)]::gv39::gs::H) (fun w h=>(h.pk 1 [1,1,1])) (D7 3 (k:=C4 4 3 rfl rfl (C0 kr (fun w h=>(h.pk 3 [0,1,1,3])) (Y4 (v:=.int .i64 ((kn:Nat):Int)) 9 (hL:=(fun w h=>(h.pk 3 [0,1,1,3]))) (k:=D7 11 (k:=O4 (inf:=Tryz.t55) 1 0 5 rfl rfl hO (by omega) (by show (kn+1) * 96≤140737488355328; omega) (fun v55 g56 hO57=>?_)))))))))
         obtain ⟨a58,cap59,rfl,hcap60,hrd61⟩:=hO57.shape
         refine C0 kr (fun w h=>(h.pk 3 [0,1,1,3])) (L2 (ad:=⟨nb,0,none⟩) 14 (hL:=(fun w h=>(h.pk 3 [0,1,1,3]))) (k:=G5 (fuel:=3) [(15,0)] (fun w h=>(h.pk 3 [0,1,1,3])) (k:=L1 12 16 (k:=?_) (k':=?_))))
         ·
          refine E6 (a:=a58) (S:=(inG g56)) (cs:=(cs++zN)) (kn+1) ((kn:Nat):Int) 5 (H7 hO57) (by exact ⟨by omega,by omega,by intro h; have h2:=congrArg List.length h; rw [List.length_append] at h2; simp at h2⟩) (C0 kr (fun w h=>(h.pk 3 [0,1,1,3])) (L1 13 16 (k:=?_) (k':=?_)))
          ·
           refine G1 (ch:=[]) (a:=a58) (q:=kn * 5) (len:=(kn+1)) (cap:=cap59) (v:=.agg #[e0_39,e1_39,e2_39,e3_39,e4_39]) (g:=g56) (j:=5) (cs:=(cs++zN)) (cs':=(cs++[e0_39,e1_39,e2_39,e3_39,e4_39])) (l:=[e0_39,e1_39,e2_39,e3_39,e4_39]) (h1:=h139) (hO:=hO57) (hq:=(by rw [List.length_append,(show cs.length=kn * 5 by rw [hP.len]; omega)]; exact Nat.le_refl _)) (h0:=List.cons_ne_nil _ _) (hcs:=I2 (z:=zN) (l:=[e0_39,e1_39,e2_39,e3_39,e4_39]) (show cs.length=kn * 5 by rw [hP.len]; omega) rfl) (k:=(fun g62 hO63=>?_))
           refine C0 kr (fun w h=>(h.pk 3 [0,1,1,3])) (D7 16 (k:=E4 4 3 (.slice a58 (kn+1) cap59) rfl (C0 kr (fun w h=>(h.pk 3 [0,1,1,3])) (G3 (E':=[⟨0,[],pt r⟩,⟨1,[],pt nb⟩,⟨2,[],.int .i64 d⟩,⟨3,[],.map (some ms)⟩]) [0,1,2,3] (k:=G8 (a58,cap59,g62,[e0_39,e1_39,e2_39,e3_39,e4_39],gv39) [0,1,2,3] kr (fun w h=>h.pkT 1 [1,1,2,2,2,1]) ⟨hO63,hJ39⟩)))))
          ·
           refine E4 4 3 (.slice a58 (kn+1) cap59) rfl (C0 kr (fun w h=>(h.pk 3 [0,1,1,3])) (D7 13 (k:=G1 (ch:=[]) (a:=a58) (q:=kn * 5) (len:=(kn+1)) (cap:=cap59) (v:=.agg #[e0_39,e1_39,e2_39,e3_39,e4_39]) (g:=g56) (j:=5) (cs:=(cs++zN)) (cs':=(cs++[e0_39,e1_39,e2_39,e3_39,e4_39])) (l:=[e0_39,e1_39,e2_39,e3_39,e4_39]) (h1:=h139) (hO:=hO57) (hq:=(by rw [List.length_append,(show cs.length=kn * 5 by rw [hP.len]; omega)]; exact Nat.le_refl _)) (h0:=List.cons_ne_nil _ _) (hcs:=I2 (z:=zN) (l:=[e0_39,e1_39,e2_39,e3_39,e4_39]) (show cs.length=kn * 5 by rw [hP.len]; omega) rfl) (k:=(fun g64 hO65=>?_)))))
           refine C0 kr (fun w h=>(h.pk 3 [0,1,1,3])) (G3 (E':=[⟨0,[],pt r⟩,⟨1,[],pt nb⟩,⟨2,[],.int .i64 d⟩,⟨3,[],.map (some ms)⟩]) [0,1,2,3] (k:=G8 (a58,cap59,g64,[e0_39,e1_39,e2_39,e3_39,e4_39],gv39) [0,1,2,3] kr (fun w h=>h.pkT 1 [1,1,2,2,2,1]) ⟨hO65,hJ39⟩))
         ·
          refine E4 4 3 (.slice a58 (kn+1) cap59) rfl (C0 kr (fun w h=>(h.pk 3 [0,1,1,3])) (D7 12 (k:=E6 (a:=a58) (S:=(inG g56)) (cs:=(cs++zN)) (kn+1) ((kn:Nat):Int) 5 (H7 hO57) (by exact ⟨by omega,by omega,by intro h; have h2:=congrArg List.length h; rw [List.length_append] at h2; simp at h2⟩) (C0 kr (fun w h=>(h.pk 3 [0,1,1,3])) (D7 13 (k:=G1 (ch:=[]) (a:=a58) (q:=kn * 5) (len:=(kn+1)) (cap:=cap59) (v:=.agg #[e0_39,e1_39,e2_39,e3_39,e4_39]) (g:=g56) (j:=5) (cs:=(cs++zN)) (cs':=(cs++[e0_39,e1_39,e2_39,e3_39,e4_39])) (l:=[e0_39,e1_39,e2_39,e3_39,e4_39]) (h1:=h139) (hO:=hO57) (hq:=(by rw [List.length_append,(show cs.length=kn * 5 by rw [hP.len]; omega)]; exact Nat.le_refl _)) (h0:=List.cons_ne_nil _ _) (hcs:=I2 (z:=zN) (l:=[e0_39,e1_39,e2_39,e3_39,e4_39]) (show cs.length=kn * 5 by rw [hP.len]; omega) rfl) (k:=(fun g66 hO67=>?_))))))))
          refine C0 kr (fun w h=>(h.pk 3 [0,1,1,3])) (G3 (E':=[⟨0,[],pt r⟩,⟨1,[],pt nb⟩,⟨2,[],.int .i64 d⟩,⟨3,[],.map (some ms)⟩]) [0,1,2,3] (k:=G8 (a58,cap59,g66,[e0_39,e1_39,e2_39,e3_39,e4_39],gv39) [0,1,2,3] kr (fun w h=>h.pkT 1 [1,1,2,2,2,1]) ⟨hO67,hJ39⟩))
       ·
        refine L0 55 1 zN (fun b68=>C0 kr (fun w h=>(h.pk 4 [2,4])) (N8 ([(b68,.cells zN.toArray 55 (0,0))]::[(ms,.map (F2 M) mc)]::gs::H) (fun w h=>(h.pk 1 [1,1])) (L1 3 8 (k:=?_) (k':=?_))))
        ·
         refine C4 3 3 rfl rfl (C0 kr (fun w h=>(h.pk 3 [0,1,3])) (Y4 (v:=.int .i64 ((kn:Nat):Int)) 9 (hL:=(fun w h=>(h.pk 3 [0,1,3]))) (k:=D7 8 (k:=O0 0 [1,1] (E0 (vs:=[pt r,.int .i64 (d+1),.map (some ms)]) Tryz.func63 (hel (q2.1.drop 1,q2.2) (by show (List.drop 1 _).length≤_; rw [List.length_drop]; omega) _ _ hX) ?_)))))
         rintro _ _ ⟨vc69,gv69,hJ69,rfl,rfl⟩
         obtain ⟨e0_69,e1_69,e2_69,e3_69,e4_69,rfl,h169⟩:=hJ69.cells5
         refine C0 kr (fun w h=>(h.pk 4 [3,1,4])) (N8 ([(ms,.map (F2 M) mc)]::gv69::[(b68,.cells zN.toArray 55 (0,0))]::gs::H) (fun w h=>(h.pk 1 [2,0,1])) (D7 11 (k:=O4 (inf:=Tryz.t55) 1 3 5 rfl rfl hO (by omega) (by show (kn+1) * 96≤140737488355328; omega) (fun v70 g71 hO72=>?_))))
         obtain ⟨a73,cap74,rfl,hcap75,hrd76⟩:=hO72.shape
         refine C0 kr (fun w h=>(h.pk 3 [1,1,1,3])) (L2 (ad:=⟨nb,0,none⟩) 14 (hL:=(fun w h=>(h.pk 3 [1,1,1,3]))) (k:=G5 (fuel:=3) [(15,0)] (fun w h=>(h.pk 3 [1,1,1,3])) (k:=L1 12 16 (k:=?_) (k':=?_))))
         ·
          refine E6 (a:=a73) (S:=(inG g71)) (cs:=(cs++zN)) (kn+1) ((kn:Nat):Int) 5 (H7 hO72) (by exact ⟨by omega,by omega,by intro h; have h2:=congrArg List.length h; rw [List.length_append] at h2; simp at h2⟩) (C0 kr (fun w h=>(h.pk 3 [1,1,1,3])) (L1 13 16 (k:=?_) (k':=?_)))
          ·
           refine G1 (ch:=[]) (a:=a73) (q:=kn * 5) (len:=(kn+1)) (cap:=cap74) (v:=.agg #[e0_69,e1_69,e2_69,e3_69,e4_69]) (g:=g71) (j:=5) (cs:=(cs++zN)) (cs':=(cs++[e0_69,e1_69,e2_69,e3_69,e4_69])) (l:=[e0_69,e1_69,e2_69,e3_69,e4_69]) (h1:=h169) (hO:=hO72) (hq:=(by rw [List.length_append,(show cs.length=kn * 5 by rw [hP.len]; omega)]; exact Nat.le_refl _)) (h0:=List.cons_ne_nil _ _) (hcs:=I2 (z:=zN) (l:=[e0_69,e1_69,e2_69,e3_69,e4_69]) (show cs.length=kn * 5 by rw [hP.len]; omega) rfl) (k:=(fun g77 hO78=>?_))
           refine C0 kr (fun w h=>(h.pk 3 [1,1,1,3])) (D7 16 (k:=E4 4 3 (.slice a73 (kn+1) cap74) rfl (C0 kr (fun w h=>(h.pk 3 [1,1,1,3])) (G3 (E':=[⟨0,[],pt r⟩,⟨1,[],pt nb⟩,⟨2,[],.int .i64 d⟩,⟨3,[],.map (some ms)⟩]) [0,1,2,3] (k:=G8 (a73,cap74,g77,[e0_69,e1_69,e2_69,e3_69,e4_69],gv69) [0,1,2,3] kr (fun w h=>h.pkT 1 [0,0,2,2,2,0]) ⟨hO78,hJ69⟩)))))
          ·
           refine E4 4 3 (.slice a73 (kn+1) cap74) rfl (C0 kr (fun w h=>(h.pk 3 [1,1,1,3])) (D7 13 (k:=G1 (ch:=[]) (a:=a73) (q:=kn * 5) (len:=(kn+1)) (cap:=cap74) (v:=.agg #[e0_69,e1_69,e2_69,e3_69,e4_69]) (g:=g71) (j:=5) (cs:=(cs++zN)) (cs':=(cs++[e0_69,e1_69,e2_69,e3_69,e4_69])) (l:=[e0_69,e1_69,e2_69,e3_69,e4_69]) (h1:=h169) (hO:=hO72) (hq:=(by rw [List.length_append,(show cs.length=kn * 5 by rw [hP.len]; omega)]; exact Nat.le_refl _)) (h0:=List.cons_ne_nil _ _) (hcs:=I2 (z:=zN) (l:=[e0_69,e1_69,e2_69,e3_69,e4_69]) (show cs.length=kn * 5 by rw [hP.len]; omega) rfl) (k:=(fun g79 hO80=>?_)))))
           refine C0 kr (fun w h=>(h.pk 3 [1,1,1,3])) (G3 (E':=[⟨0,[],pt r⟩,⟨1,[],pt nb⟩,⟨2,[],.int .i64 d⟩,⟨3,[],.map (some ms)⟩]) [0,1,2,3] (k:=G8 (a73,cap74,g79,[e0_69,e1_69,e2_69,e3_69,e4_69],gv69) [0,1,2,3] kr (fun w h=>h.pkT 1 [0,0,2,2,2,0]) ⟨hO80,hJ69⟩))
         ·
          refine E4 4 3 (.slice a73 (kn+1) cap74) rfl (C0 kr (fun w h=>(h.pk 3 [1,1,1,3])) (D7 12 (k:=E6 (a:=a73) (S:=(inG g71)) (cs:=(cs++zN)) (kn+1) ((kn:Nat):Int) 5 (H7 hO72) (by exact ⟨by omega,by omega,by intro h; have h2:=congrArg List.length h; rw [List.length_append] at h2; simp at h2⟩) (C0 kr (fun w h=>(h.pk 3 [1,1,1,3])) (D7 13 (k:=G1 (ch:=[]) (a:=a73) (q:=kn * 5) (len:=(kn+1)) (cap:=cap74) (v:=.agg #[e0_69,e1_69,e2_69,e3_69,e4_69]) (g:=g71) (j:=5) (cs:=(cs++zN)) (cs':=(cs++[e0_69,e1_69,e2_69,e3_69,e4_69])) (l:=[e0_69,e1_69,e2_69,e3_69,e4_69]) (h1:=h169) (hO:=hO72) (hq:=(by rw [List.length_append,(show cs.length=kn * 5 by rw [hP.len]; omega)]; exact Nat.le_refl _)) (h0:=List.cons_ne_nil _ _) (hcs:=I2 (z:=zN) (l:=[e0_69,e1_69,e2_69,e3_69,e4_69]) (show cs.length=kn * 5 by rw [hP.len]; omega) rfl) (k:=(fun g81 hO82=>?_))))))))
          refine C0 kr (fun w h=>(h.pk 3 [1,1,1,3])) (G3 (E':=[⟨0,[],pt r⟩,⟨1,[],pt nb⟩,⟨2,[],.int .i64 d⟩,⟨3,[],.map (some ms)⟩]) [0,1,2,3] (k:=G8 (a73,cap74,g81,[e0_69,e1_69,e2_69,e3_69,e4_69],gv69) [0,1,2,3] kr (fun w h=>h.pkT 1 [0,0,2,2,2,0]) ⟨hO82,hJ69⟩))
        ·
         refine O0 0 [1,1] (E0 (vs:=[pt r,.int .i64 (d+1),.map (some ms)]) Tryz.func63 (hel (q2.1.drop 1,q2.2) (by show (List.drop 1 _).length≤_; rw [List.length_drop]; omega) _ _ hX) ?_)
         rintro _ _ ⟨vc83,gv83,hJ83,rfl,rfl⟩
         obtain ⟨e0_83,e1_83,e2_83,e3_83,e4_83,rfl,h183⟩:=hJ83.cells5
         refine C0 kr (fun w h=>(h.pk 4 [3,1,4])) (N8 ([(ms,.map (F2 M) mc)]::gv83::[(b68,.cells zN.toArray 55 (0,0))]::gs::H) (fun w h=>(h.pk 1 [2,0,1])) (D7 3 (k:=C4 4 3 rfl rfl (C0 kr (fun w h=>(h.pk 3 [1,1,1,3])) (Y4 (v:=.int .i64 ((kn:Nat):Int)) 9 (hL:=(fun w h=>(h.pk 3 [1,1,1,3]))) (k:=D7 11 (k:=O4 (inf:=Tryz.t55) 1 3 5 rfl rfl hO (by omega) (by show (kn+1) * 96≤140737488355328; omega) (fun v84 g85 hO86=>?_))))))))
         obtain ⟨a87,cap88,rfl,hcap89,hrd90⟩:=hO86.shape
         refine C0 kr (fun w h=>(h.pk 3 [1,1,1,3])) (L2 (ad:=⟨nb,0,none⟩) 14 (hL:=(fun w h=>(h.pk 3 [1,1,1,3]))) (k:=G5 (fuel:=3) [(15,0)] (fun w h=>(h.pk 3 [1,1,1,3])) (k:=L1 12 16 (k:=?_) (k':=?_))))
         ·
          refine E6 (a:=a87) (S:=(inG g85)) (cs:=(cs++zN)) (kn+1) ((kn:Nat):Int) 5 (H7 hO86) (by exact ⟨by omega,by omega,by intro h; have h2:=congrArg List.length h; rw [List.length_append] at h2; simp at h2⟩) (C0 kr (fun w h=>(h.pk 3 [1,1,1,3])) (L1 13 16 (k:=?_) (k':=?_)))
          ·
           refine G1 (ch:=[]) (a:=a87) (q:=kn * 5) (len:=(kn+1)) (cap:=cap88) (v:=.agg #[e0_83,e1_83,e2_83,e3_83,e4_83]) (g:=g85) (j:=5) (cs:=(cs++zN)) (cs':=(cs++[e0_83,e1_83,e2_83,e3_83,e4_83])) (l:=[e0_83,e1_83,e2_83,e3_83,e4_83]) (h1:=h183) (hO:=hO86) (hq:=(by rw [List.length_append,(show cs.length=kn * 5 by rw [hP.len]; omega)]; exact Nat.le_refl _)) (h0:=List.cons_ne_nil _ _) (hcs:=I2 (z:=zN) (l:=[e0_83,e1_83,e2_83,e3_83,e4_83]) (show cs.length=kn * 5 by rw [hP.len]; omega) rfl) (k:=(fun g91 hO92=>?_))
           refine C0 kr (fun w h=>(h.pk 3 [1,1,1,3])) (D7 16 (k:=E4 4 3 (.slice a87 (kn+1) cap88) rfl (C0 kr (fun w h=>(h.pk 3 [1,1,1,3])) (G3 (E':=[⟨0,[],pt r⟩,⟨1,[],pt nb⟩,⟨2,[],.int .i64 d⟩,⟨3,[],.map (some ms)⟩]) [0,1,2,3] (k:=G8 (a87,cap88,g91,[e0_83,e1_83,e2_83,e3_83,e4_83],gv83) [0,1,2,3] kr (fun w h=>h.pkT 1 [0,0,2,2,2,0]) ⟨hO92,hJ83⟩)))))
          ·
           refine E4 4 3 (.slice a87 (kn+1) cap88) rfl (C0 kr (fun w h=>(h.pk 3 [1,1,1,3])) (D7 13 (k:=G1 (ch:=[]) (a:=a87) (q:=kn * 5) (len:=(kn+1)) (cap:=cap88) (v:=.agg #[e0_83,e1_83,e2_83,e3_83,e4_83]) (g:=g85) (j:=5) (cs:=(cs++zN)) (cs':=(cs++[e0_83,e1_83,e2_83,e3_83,e4_83])) (l:=[e0_83,e1_83,e2_83,e3_83,e4_83]) (h1:=h183) (hO:=hO86) (hq:=(by rw [List.length_append,(show cs.length=kn * 5 by rw [hP.len]; omega)]; exact Nat.le_refl _)) (h0:=List.cons_ne_nil _ _) (hcs:=I2 (z:=zN) (l:=[e0_83,e1_83,e2_83,e3_83,e4_83]) (show cs.length=kn * 5 by rw [hP.len]; omega) rfl) (k:=(fun g93 hO94=>?_)))))
           refine C0 kr (fun w h=>(h.pk 3 [1,1,1,3])) (G3 (E':=[⟨0,[],pt r⟩,⟨1,[],pt nb⟩,⟨2,[],.int .i64 d⟩,⟨3,[],.map (some ms)⟩]) [0,1,2,3] (k:=G8 (a87,cap88,g93,[e0_83,e1_83,e2_83,e3_83,e4_83],gv83) [0,1,2,3] kr (fun w h=>h.pkT 1 [0,0,2,2,2,0]) ⟨hO94,hJ83⟩))
         ·
          refine E4 4 3 (.slice a87 (kn+1) cap88) rfl (C0 kr (fun w h=>(h.pk 3 [1,1,1,3])) (D7 12 (k:=E6 (a:=a87) (S:=(inG g85)) (cs:=(cs++zN)) (kn+1) ((kn:Nat):Int) 5 (H7 hO86) (by exact ⟨by omega,by omega,by intro h; have h2:=congrArg List.length h; rw [List.length_append] at h2; simp at h2⟩) (C0 kr (fun w h=>(h.pk 3 [1,1,1,3])) (D7 13 (k:=G1 (ch:=[]) (a:=a87) (q:=kn * 5) (len:=(kn+1)) (cap:=cap88) (v:=.agg #[e0_83,e1_83,e2_83,e3_83,e4_83]) (g:=g85) (j:=5) (cs:=(cs++zN)) (cs':=(cs++[e0_83,e1_83,e2_83,e3_83,e4_83])) (l:=[e0_83,e1_83,e2_83,e3_83,e4_83]) (h1:=h183) (hO:=hO86) (hq:=(by rw [List.length_append,(show cs.length=kn * 5 by rw [hP.len]; omega)]; exact Nat.le_refl _)) (h0:=List.cons_ne_nil _ _) (hcs:=I2 (z:=zN) (l:=[e0_83,e1_83,e2_83,e3_83,e4_83]) (show cs.length=kn * 5 by rw [hP.len]; omega) rfl) (k:=(fun g95 hO96=>?_))))))))
          refine C0 kr (fun w h=>(h.pk 3 [1,1,1,3])) (G3 (E':=[⟨0,[],pt r⟩,⟨1,[],pt nb⟩,⟨2,[],.int .i64 d⟩,⟨3,[],.map (some ms)⟩]) [0,1,2,3] (k:=G8 (a87,cap88,g95,[e0_83,e1_83,e2_83,e3_83,e4_83],gv83) [0,1,2,3] kr (fun w h=>h.pkT 1 [0,0,2,2,2,0]) ⟨hO96,hJ83⟩))
      ·
       rintro ⟨ya,yc,yg,c,gv⟩ ⟨hyo,hJ⟩
       dsimp only at hyo hJ
       refine B6 (B6 (I1 (H':=([(r,.cells #[.string (bk (((elX lv sp) (q2.1.drop 1,q2.2)).2).1),.int .i64 ((((elX lv sp) (q2.1.drop 1,q2.2)).2).2)] 97 (0,0))]::[(ms,.map (F2 M) mc)]::[(nb,.cells #[v0,v1,v2,.slice ya (kn+1) yc,v4] 55 (0,0))]::yg::(gs++gv)::H)) (fun w h=>Sat.flat h (List.Perm.of_eq (by simp []))) (D2 (s':=(m,((elX lv sp) (q2.1.drop 1,q2.2)).2,(ks++[((elX lv sp) (q2.1.drop 1,q2.2)).1]),(kn+1),ya,yc,yg,(gs++gv),(cs++c))) [0,1,2,3] kr kr ⟨(by dsimp only; rw [hT,cont_el hq0 hk1 hk2 has hk3]),(by dsimp only; intro _; have h9:=el_le lv sp (q2.1.drop 1,q2.2); dsimp only at h9; rw [List.length_drop] at h9; have h8:=pre_le hk3; simp only [List.length_cons,List.length_nil] at h8; omega),(by dsimp only; have h9:=el_le lv sp (q2.1.drop 1,q2.2); dsimp only at h9; rw [List.length_drop] at h9; omega),hyo,(by dsimp only; rw [List.length_append,hkn]; rfl),(by dsimp only; exact hP.snoc hJ),(by dsimp only; omega),(by dsimp only; have h9:=el_le lv sp (q2.1.drop 1,q2.2); dsimp only at h9; rw [List.length_drop] at h9; rw [X5,el_text]; simp only [List.length_nil]; omega)⟩ (by dsimp only; omega))))
     ·
      have hk7:¬ [60].isPrefixOf q2.1=true:=hk7
      have hk3:=hk7
      refine A8 [0] [0,1,2,3,66] (k:=A0 (C9 kr (A1 (A3 (A4 (j:=3) [0,0,0] (k:=C4 0 0 rfl rfl (E0 Tryz.func150 (cutW [60] q2.1 (by first | omega | (rw [List.length_take]; omega)) _ _ hX) ?_)))))))
      rintro _ _ ⟨⟨hI,rfl⟩ | ⟨i,hI,rfl⟩,rfl⟩
      ·
       refine A8 [0,0,0,0,0,0,0] [0,1,2,3,8,10] (k:=A0 (A1 (A1 (B9 (E':=[⟨0,[],pt r⟩,⟨1,[],pt nb⟩,⟨2,[],.int .i64 d⟩,⟨3,[],.map (some ms)⟩,⟨8,[],.string (bk q2.1)⟩,⟨35,[],.bool true⟩]) [0,0,0,1,1,2] [0,1,2,3,8,35] (k:=A0 (C7 kr (A1 (A3 ?_))))))))
       refine A4 (j:=1) [0] (k:=E0 Tryz.func64 (M7 r q2 70 _ _) ?_)
       rintro _ _ rfl
       refine B4 (E':=[]) [] [] (k:=A0 (B8 (A5 (B3 (B3 (A5 (B3 (B7 [] [] (k:=?_)))))))))
       rw [hT,cont_none hq0 hk1 hk2 has hk3 hI]; exact ⟨_,_,_,_,_,_,hkn,hO,hP,rfl⟩
      ·
       refine A8 [0,0,0,0,0,0,0] [0,1,2,3,8,10] (k:=A0 (A1 (A1 (A3 (A4 (j:=4) [0,0,0,0] (k:=Z2 (ch:=[(32,false)]) (f:=143) (fst:=#[]) (caps:=#[]) (vs:=[.string (bk (q2.1.take i)),.string (mB #[93,93,62])]) (hf:=Tryz.func143) (hsure:=Q0 kr) (hc:=hasW [93,93,62] (q2.1.take i) (by first | omega | (rw [List.length_take]; omega)) _ _ hX) (k:=?_)))))))
       rintro _ _ ⟨rfl,rfl⟩
       refine B4 (E':=[⟨0,[],pt r⟩,⟨1,[],pt nb⟩,⟨2,[],.int .i64 d⟩,⟨3,[],.map (some ms)⟩,⟨8,[],.string (bk (q2.1.take i))⟩,⟨35,[],.bool ((idxL [93,93,62] (q2.1.take i)).isSome)⟩]) [3] [0,1,2,3,8,35] (k:=A0 (B0 (b:=(idxL [93,93,62] (q2.1.take i)).isSome) kr (fun hc98=>?_) (fun hc98=>?_)))
       ·
        have hbb:(idxL [93,93,62] (q2.1.take i)).isSome=true:=hc98
        refine A1 (A3 (A4 (j:=1) [0] (k:=E0 Tryz.func64 (M7 r q2 70 _ _) ?_)))
        rintro _ _ rfl
        refine B4 (E':=[]) [] [] (k:=A0 (B8 (A5 (B3 (B3 (A5 (B3 (B7 [] [] (k:=?_)))))))))
        rw [hT,cont_bad hq0 hk1 hk2 has hk3 hI hbb]; exact ⟨_,_,_,_,_,_,hkn,hO,hP,rfl⟩
       ·
        have hbb:(idxL [93,93,62] (q2.1.take i)).isSome=false:=hc98
        have hip:=(Y8 hI).2.2
        refine A9 (A0 (A1 (A3 (A4 (j:=4) [0,0,0,0] (k:=C4 0 0 rfl rfl (A4 (j:=7) [0,0] (k:=O2 (bk q2.1) ((bk (q2.1.take i)).size:Int) ((bk q2.1).size:Int) (by intro _; obtain ⟨_,_,hip⟩:=Y8 hI; rw [C8,C8,List.length_take]; exact ⟨by omega,by omega,by omega⟩) (F6 45 (x:=.string ((bk q2.1).extract (bk (q2.1.take i)).size (bk q2.1).size)) (y:=.string (bk (q2.1.drop i))) (by rw [show (bk (q2.1.take i)).size=i by rw [C8,List.length_take]; omega,ext_bk]) ?_))))))))
        refine A4 (j:=10) [0,0] (k:=E4 0 0 (.string (bk (q2.1.drop i))) rfl (A8 [] [0,1,2,3,8] (k:=A0 (A3 (A4 (j:=3) [0,0,0] (k:=E0 Tryz.func144 (xrefs_ r ((q2.1.drop i),q2.2) (q2.1.take i) (by rw [List.length_take]; omega) _ _ hX) ?_))))))
        rintro _ _ ⟨rfl,rfl⟩
        refine O0 0 [2,2] (E0 Tryz.func147 (xtext_ nb v0 v1 v2 v4 ks kn ka kc kg gs cs hkn hO hP ((M9 (q2.1.take i) ((q2.1.drop i),q2.2)).1) (by rw [refs_v]; have h7:=un_len (C1 (q2.1.take i)); have h6:=V3 (q2.1.take i); rw [List.length_take] at h6; omega) (by omega) (by omega) _ _) ?_)
        rintro _ _ ⟨kn99,ka99,kc99,kg99,kcs99,hk99,hO99,hP99,rfl⟩
        refine A8 [] [0,1,2,3] (k:=B6 (B6 (E9 0 [2,2,0,0,0] (D2 (s':=(m,(M9 (q2.1.take i) ((q2.1.drop i),q2.2)).2,(addX ks (M9 (q2.1.take i) (q2.1.drop i,q2.2)).1),kn99,ka99,kc99,kg99,gs,kcs99)) [0,1,2,3] kr kr ⟨(by dsimp only; rw [hT,cont_text hq0 hk1 hk2 has hk3 hI hbb]),(by dsimp only; intro _; rw [refs_len]; dsimp only; rw [List.length_drop]; have h8:=idx_pos hI hk3; omega),(by dsimp only; rw [refs_len]; dsimp only; rw [List.length_drop]; omega),hO99,hk99,hP99,(by dsimp only; have h9:=add_len ks (M9 (q2.1.take i) (q2.1.drop i,q2.2)).1; omega),(by dsimp only; rw [refs_len,refs_v]; dsimp only; rw [List.length_drop]; have h7:=un_len (C1 (q2.1.take i)); have h6:=V3 (q2.1.take i); rw [List.length_take] at h6; have h5:=lastT_add ks (unL (C1 (q2.1.take i))); omega)⟩ (by dsimp only; omega)))))
 ·
  refine A3 (A4 (j:=3) [0,0,0] (k:=C4 0 1 rfl rfl (A4 (j:=5) [0] (k:=F6 15 (x:=.bool (q2.2==0)) (y:=.bool false) (by rw [show (q2.2==0)=false by simpa using hq0]) (A8 [0,1,1,1,3] [0,1,2,3,20] (k:=A0 (C9 kr (E3 ?_))))))))
  refine A6 (A6 (B5 (B7 [] [] (k:=?_))))
  rw [hT,cont_fault hq0]; exact ⟨_,_,_,_,_,_,hkn,hO,hP,rfl⟩
end Go.Proofs.YtppgfiklmfoaeaaGreatDoor
