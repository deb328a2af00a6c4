/- XmlParses: which bytes are a document, and as what it is read, for all bytes. The row, and its card, which ties what the library's tables hold to the program's text. No condition beyond the given statement's. (and what it stands on) -/
import Derived.Test.YtcgmnagcgkhogaaGreatDoorZ5
namespace Go.Proofs.YtcgmnagcgkhogaaGreatDoor
open Go.Sw Go.Sha Go.Esc Go.RowKit Go.Json Go.Xml
theorem rTpiece_ (t:Nat) (l:List UInt8) (i:Nat) (hl:l.length≤1000000) (hi:i≤l.length) (nb:Nat) (v0 v1 v2 v4:Value) (ks:List XN) (kn:Nat) (ka:Option Addr) (kc:Nat) (kg gs:Grp) (cs:List Value) (hkn:kn=ks.length) (hO:Go.Sw.Own 27 5 (.slice ka kn kc) kg kn cs) (hP:XRepL 59 27 ks cs gs) (hb:kn≤i) (hlt:lastT ks≤4 * i) (d:Int) (hd:0≤d∧d≤24) (el:List UInt8→EX) (sa:Option Addr) (sn sc:Nat) (S:Nat→Obj→Prop) (hel:∀ (i:Nat),i≤l.length→∀ (W0:World) (H:List Grp),(∀ y o,S y o→At W0 H y o)→Tri Tryz.prog 23 #[pt t,.int .i64 (d+1),.slice sa sn sc] W0 (Y2 t l (i:Int)::H) (fun v H2=>(∃ k j c g,el (l.drop i)=.ok (k,l.drop j)∧i≤j∧j≤l.length∧k.text=[]∧XRep 59 27 k c g∧v=.tuple #[.agg c.toArray,.int .i64 0]∧H2=Y2 t l (j:Int)::g::H)∨(∃ e z,el (l.drop i)=.error e∧e≠0∧z≤l.length∧v=.tuple #[.agg zN.toArray,.int .i64 e]∧H2=Y2 t l ((z:Nat):Int)::H))) (W0:World) (H:List Grp) (hS:∀ y o,S y o→At W0 H y o):Tri Tryz.prog 49 #[pt t,pt nb,.int .i64 d,.slice sa sn sc] W0 ([(t,.cells #[.string (bk l),.int .i64 ((i:Nat):Int)] 53 (0,0))]::[(nb,.cells #[v0,v1,v2,.slice ka kn kc,v4] 27 (0,0))]::kg::gs::H) (fun v H'=>(∃ ks' j kn' ka' kc' kg' cs' gs',N1 el ks (l.drop i)=.ok (ks',l.drop j)∧i<j∧j≤l.length∧v=.int .i64 0∧kn'=ks'.length∧Go.Sw.Own 27 5 (.slice ka' kn' kc') kg' kn' cs'∧XRepL 59 27 ks' cs' gs'∧kn'≤j∧lastT ks'≤4 * j∧H'=Y2 t l (j:Int)::[(nb,.cells #[v0,v1,v2,.slice ka' kn' kc',v4] 27 (0,0))]::kg'::gs'::H)∨(∃ e z c kg',N1 el ks (l.drop i)=.error e∧e≠0∧z≤l.length∧v=.int .i64 e∧H'=Y2 t l ((z:Nat):Int)::[(nb,.cells c 27 (0,0))]::kg'::H)):=by
 have hbz:=D0 l
 have hcl:=hP.len
 refine D5 127 Tryz.func49 ?_
 refine A1 (G_p [0] [0,1,2,3] (k:=A0 (A1 (A1 (A2 (A3 (j:=1) [0] (k:=D9 Tryz.func22 (R8 t l i hl (by omega) [60,33,91,67,68,65,84,65,91] (Nat.le_of_ble_eq_true rfl) _ _) ?_)))))))
 rintro _ _ (⟨hk1,hk1l,rfl,rfl⟩ | ⟨hk1,rfl,rfl⟩)
 have hk1:[60,33,91,67,68,65,84,65,91].isPrefixOf (l.drop i)=true:=hk1
 have hk1l:i+9≤l.length:=hk1l
 have h1:=hk1
 refine A5 [] [0,1,2,3,18] (k:=A0 (B9 kr (A1 (A2 (A3 (j:=1) [0] (k:=D9 (vs:=[pt t,.string (mB #[93,93,62])]) Tryz.func76 (rTto_ t l (i+9) hl (by omega) [93,93,62] (Nat.le_of_ble_eq_true rfl) (List.cons_ne_nil _ _) _ _) ?_))))))
 rintro _ _ (⟨k2,hu2,hu2l,rfl,rfl⟩ | ⟨hu2,rfl,rfl⟩)
 have hu2:idxL [93,93,62] (l.drop (i+9))=some k2:=hu2
 have hu2l:(i+9)+k2+3≤l.length:=hu2l
 have hfin:=pc_cdata (el:=el) (ks:=ks) h1 hu2
 refine A5 [0,0,0,0,0] [1,9,10] (k:=A0 (A1 (A1 (G_p [0,0] [1,9,25] (k:=A0 (C5 kr (A7 (A0 ?_))))))))
 refine A1 (A2 (A3 (j:=2) [0,0] (k:=H5 Tryz.func79 (rlines_ (bk ((l.drop (i+9)).take k2)) (by rw [D0,List.length_take,List.length_drop]; omega) _ _) (M1 0 [1,1] (D9 Tryz.func80 (rTadd_ nb v0 v1 v2 v4 ks kn ka kc kg gs cs hkn hO hP (B5 ((l.drop (i+9)).take k2)) (by have hE9q:=N2 ((l.drop (i+9)).take k2); rw [List.length_take,List.length_drop] at hE9q; omega) (by omega) (by omega) _ _) ?_)))))
 rintro _ _ ⟨knE,kaE,kcE,kgE,csE,hkE,hOE,hPE,rfl⟩
 have hlnE:=add_len ks (B5 ((l.drop (i+9)).take k2))
 have hltE:=lastT_add ks (B5 ((l.drop (i+9)).take k2))
 refine C0 (E':=[]) [] [] (k:=A0 (A1 (C3 (E':=[⟨8,[],.int .i64 0⟩]) [0] [8] (k:=A0 (B4 (A4 (F8 0 [2,0,0,0] (B7 [.tmp 8] [.int .i64 0] (k:=?_)))))))))
 have hE9q:=N2 ((l.drop (i+9)).take k2); rw [List.length_take,List.length_drop] at hE9q
 exact .inl ⟨_,_,knE,kaE,kcE,kgE,csE,gs,hfin,by omega,by omega,rfl,hkE,hOE,hPE,by omega,by omega,rfl⟩
 have hu2:idxL [93,93,62] (l.drop (i+9))=none:=hu2
 have hfin:=pc_cdata0 (el:=el) (ks:=ks) h1 hu2
 refine A5 [0,0,0,0,0] [1,9,10] (k:=A0 (A1 (A1 (G_p [0,0] [1,9,25] (k:=A0 (B9 kr (A1 (C3 (E':=[⟨8,[],.int .i64 70⟩]) [0] [8] (k:=?_)))))))))
 refine A0 (B4 (A4 (A4 (F8 1 [0,0,0] (B7 [.tmp 8] [.int .i64 70] (k:=?_))))))
 exact .inr ⟨70,_,_,_,hfin,by decide,by omega,rfl,rfl⟩
 have hk1:[60,33,91,67,68,65,84,65,91].isPrefixOf (l.drop i)=false:=hk1
 have h1:=hk1
 refine A5 [] [0,1,2,3,18] (k:=A0 (C5 kr (A7 (A0 (A1 (A2 (A3 (j:=1) [0] (k:=D9 Tryz.func45 (rTaside_ t l i hl (by omega) _ _) ?_))))))))
 rintro _ _ ⟨z3,ha3g,ha3l,⟨ha3s,ha3,rfl⟩ | ⟨ha3,ha3s,rfl⟩ | ⟨ha3,rfl⟩,rfl⟩
 have hfin:=pc_aside (el:=el) (ks:=ks) h1 ha3
 refine A5 [0,0,0,0,0] [0,1,2,3,11,12] (k:=A0 (A1 (A1 (G_p [0,0] [0,1,2,3,11,36] (k:=A0 (C5 kr (A7 (A0 ?_))))))))
 refine A1 (A1 (G_p [0] [0,1,2,3,37] (k:=A0 (B9 kr (A1 (C3 (E':=[⟨8,[],.int .i64 0⟩]) [0] [8] (k:=A0 (B4 ?_))))))))
 refine A4 (B7 [.tmp 8] [.int .i64 0] (k:=?_))
 exact .inl ⟨ks,_,kn,ka,kc,kg,cs,gs,hfin,by omega,by omega,rfl,hkn,hO,hP,by omega,by omega,rfl⟩
 have has:=ha3
 refine A5 [0,0,0,0,0] [0,1,2,3,11,12] (k:=A0 (A1 (A1 (G_p [0,0] [0,1,2,3,11,36] (k:=A0 (C5 kr (A7 (A0 ?_))))))))
 refine A1 (A1 (G_p [0] [0,1,2,3,37] (k:=A0 (C5 kr (A7 (A0 (A1 (A1 ?_))))))))
 refine A2 (A3 (j:=1) [0] (k:=D9 Tryz.func22 (R8 t l z3 hl (by omega) [60] (Nat.le_of_ble_eq_true rfl) _ _) ?_))
 rintro _ _ (⟨hk4,hk4l,rfl,rfl⟩ | ⟨hk4,rfl,rfl⟩)
 have hk4:[60].isPrefixOf (l.drop z3)=true:=hk4
 have hk4l:z3+1≤l.length:=hk4l
 have h3:=hk4
 rw [ha3s] at h3
 refine A5 [] [0,1,2,3,39] (k:=A0 (B9 kr (A1 (A2 (A3 (j:=3) [0,0,0] (k:=D1 43 (d+1) (by omega) (by omega) kr (A3 (j:=4) [0] (k:=D9 Tryz.func23 (hel (z3+1) (by omega) _ _ (fun y o h=>At.cons (At.cons (At.cons (hS y o h))))) ?_))))))))
 rintro _ _ (⟨kE,jE,cE,gE,heE,hjEg,hjE,hkE,hJE,rfl,rfl⟩ | ⟨eE,zE,heE,hneE,hzE,rfl,rfl⟩)
 obtain ⟨eE0q,eE1q,eE2q,eE3q,eE4q,rfl,hEc⟩:=hJE.cells5
 refine A3 (j:=8) [0,0,0] (k:=J0 (.agg zN.toArray) (fun b6=>?_))
 refine GL_st (ch:=[]) (b:=b6) (off:=0) (v:=.agg #[eE0q,eE1q,eE2q,eE3q,eE4q]) (j:=0) ([(b6,.cells #[eE0q,eE1q,eE2q,eE3q,eE4q] 27 (0,0))]::[(t,.cells #[.string (bk l),.int .i64 ((jE:Nat):Int)] 53 (0,0))]::gE::[(nb,.cells #[v0,v1,v2,.slice ka kn kc,v4] 27 (0,0))]::kg::gs::H) (h1:=hEc) (hoff:=Nat.le_of_ble_eq_true rfl) (hfz:=(fun _ _=>thaw0)) (k:=A5 [0] [1,13,14] (k:=A0 (A1 (P7 (T:=Option Addr × Nat × Grp × List Value × Grp) (fun ξ:Option Addr × Nat × Grp × List Value × Grp=>[⟨14,[],.int .i64 0⟩]) (fun ξ:Option Addr × Nat × Grp × List Value × Grp=>([(b6,.cells #[eE0q,eE1q,eE2q,eE3q,eE4q] 27 (0,0))]::[(t,.cells #[.string (bk l),.int .i64 ((jE:Nat):Int)] 53 (0,0))]::ξ.2.2.2.2::[(nb,.cells #[v0,v1,v2,.slice ξ.1 (kn+1) ξ.2.1,v4] 27 (0,0))]::ξ.2.2.1::gs::H)) (fun ξ:Option Addr × Nat × Grp × List Value × Grp=>(Go.Sw.Own 27 5 (.slice ξ.1 (kn+1) ξ.2.1) ξ.2.2.1 (kn+1) (cs++ξ.2.2.2.1))∧(XRep 59 27 kE ξ.2.2.2.1 ξ.2.2.2.2)) ?_ ?_))))
 refine H3 ([(b6,.cells #[eE0q,eE1q,eE2q,eE3q,eE4q] 27 (0,0))]::gE::gs::H) kr (G0 (fuel:=12) [(0,0)] (fun w h=>(h.pk 3 [0,1,3])) (k:=J3 (ad:=⟨nb,0,none⟩) 1 (hL:=(fun w h=>(h.pk 3 [0,1,3]))) (k:=G0 (fuel:=10) [(2,0)] (fun w h=>(h.pk 3 [0,1,3])) (k:=F6 4 kr (fun w h=>(h.pk 3 [0,1,3])) (M8 0 0 5 rfl (G5 kr rfl)) (H6 3 6 (k:=?_) (k':=?_))))))
 refine C1 3 3 rfl rfl (A9 kr (fun w h=>(h.pk 3 [0,1,3])) (Q0 (v:=.int .i64 ((kn:Nat):Int)) 5 (hL:=(fun w h=>(h.pk 3 [0,1,3]))) (k:=C6 6 (k:=G8 27 1 zN (fun b7=>A9 kr (fun w h=>(h.pk 4 [1,2,4])) (M2 ([(b7,.cells zN.toArray 27 (0,0))]::[(b6,.cells #[eE0q,eE1q,eE2q,eE3q,eE4q] 27 (0,0))]::gE::gs::H) (fun w h=>(h.pk 1 [1,1,1])) (C6 7 (k:=L8 (inf:=Tryz.t27) 1 0 5 rfl rfl hO (by omega) (by show (kn+1) * 96≤140737488355328; omega) (fun v8 g9 hO10=>?_)))))))))
 obtain ⟨a11,cap12,rfl,hcap13,hrd14⟩:=hO10.shape
 refine A9 kr (fun w h=>(h.pkT 3 [0,0,1,3])) (J3 (ad:=⟨nb,0,none⟩) 10 (hL:=(fun w h=>(h.pkT 3 [0,0,1,3]))) (k:=G0 (fuel:=3) [(11,0)] (fun w h=>(h.pkT 3 [0,0,1,3])) (k:=H6 8 12 (k:=?_) (k':=?_))))
 refine E4 (a:=a11) (S:=(inG g9)) (cs:=(cs++zN)) (kn+1) ((kn:Nat):Int) 5 (E8 hO10) (by exact ⟨by omega,by omega,by intro h; have h2:=congrArg List.length h; rw [List.length_append] at h2; simp at h2⟩) (A9 kr (fun w h=>(h.pkT 3 [0,0,1,3])) (H6 9 12 (k:=?_) (k':=?_)))
 refine E2 (ch:=[]) (a:=a11) (q:=kn * 5) (len:=(kn+1)) (cap:=cap12) (v:=.agg #[eE0q,eE1q,eE2q,eE3q,eE4q]) (g:=g9) (j:=5) (cs:=(cs++zN)) (cs':=(cs++[eE0q,eE1q,eE2q,eE3q,eE4q])) (l:=[eE0q,eE1q,eE2q,eE3q,eE4q]) (h1:=hEc) (hO:=hO10) (hq:=(by rw [List.length_append,(show cs.length=kn * 5 by rw [hP.len]; omega)]; exact Nat.le_refl _)) (h0:=List.cons_ne_nil _ _) (hcs:=F7 (z:=zN) (l:=[eE0q,eE1q,eE2q,eE3q,eE4q]) (show cs.length=kn * 5 by rw [hP.len]; omega) rfl) (k:=(fun g15 hO16=>?_))
 refine A9 kr (fun w h=>(h.pkT 3 [0,0,1,3])) (C6 12 (k:=C9 4 3 (.slice a11 (kn+1) cap12) rfl (A9 kr (fun w h=>(h.pkT 3 [0,0,1,3])) (D8 (E':=[⟨14,[],.int .i64 0⟩]) [14] (k:=E6 (a11,cap12,g15,[eE0q,eE1q,eE2q,eE3q,eE4q],gE) [14] kr (fun w h=>h.pkT 1 [1,1,1,1,1,1]) ⟨hO16,hJE⟩)))))
 refine C9 4 3 (.slice a11 (kn+1) cap12) rfl (A9 kr (fun w h=>(h.pkT 3 [0,0,1,3])) (C6 9 (k:=E2 (ch:=[]) (a:=a11) (q:=kn * 5) (len:=(kn+1)) (cap:=cap12) (v:=.agg #[eE0q,eE1q,eE2q,eE3q,eE4q]) (g:=g9) (j:=5) (cs:=(cs++zN)) (cs':=(cs++[eE0q,eE1q,eE2q,eE3q,eE4q])) (l:=[eE0q,eE1q,eE2q,eE3q,eE4q]) (h1:=hEc) (hO:=hO10) (hq:=(by rw [List.length_append,(show cs.length=kn * 5 by rw [hP.len]; omega)]; exact Nat.le_refl _)) (h0:=List.cons_ne_nil _ _) (hcs:=F7 (z:=zN) (l:=[eE0q,eE1q,eE2q,eE3q,eE4q]) (show cs.length=kn * 5 by rw [hP.len]; omega) rfl) (k:=(fun g17 hO18=>?_)))))
 refine A9 kr (fun w h=>(h.pkT 3 [0,0,1,3])) (D8 (E':=[⟨14,[],.int .i64 0⟩]) [14] (k:=E6 (a11,cap12,g17,[eE0q,eE1q,eE2q,eE3q,eE4q],gE) [14] kr (fun w h=>h.pkT 1 [1,1,1,1,1,1]) ⟨hO18,hJE⟩))
 refine C9 4 3 (.slice a11 (kn+1) cap12) rfl (A9 kr (fun w h=>(h.pkT 3 [0,0,1,3])) (C6 8 (k:=E4 (a:=a11) (S:=(inG g9)) (cs:=(cs++zN)) (kn+1) ((kn:Nat):Int) 5 (E8 hO10) (by exact ⟨by omega,by omega,by intro h; have h2:=congrArg List.length h; rw [List.length_append] at h2; simp at h2⟩) (A9 kr (fun w h=>(h.pkT 3 [0,0,1,3])) (C6 9 (k:=E2 (ch:=[]) (a:=a11) (q:=kn * 5) (len:=(kn+1)) (cap:=cap12) (v:=.agg #[eE0q,eE1q,eE2q,eE3q,eE4q]) (g:=g9) (j:=5) (cs:=(cs++zN)) (cs':=(cs++[eE0q,eE1q,eE2q,eE3q,eE4q])) (l:=[eE0q,eE1q,eE2q,eE3q,eE4q]) (h1:=hEc) (hO:=hO10) (hq:=(by rw [List.length_append,(show cs.length=kn * 5 by rw [hP.len]; omega)]; exact Nat.le_refl _)) (h0:=List.cons_ne_nil _ _) (hcs:=F7 (z:=zN) (l:=[eE0q,eE1q,eE2q,eE3q,eE4q]) (show cs.length=kn * 5 by rw [hP.len]; omega) rfl) (k:=(fun g19 hO20=>?_))))))))
 refine A9 kr (fun w h=>(h.pkT 3 [0,0,1,3])) (D8 (E':=[⟨14,[],.int .i64 0⟩]) [14] (k:=E6 (a11,cap12,g19,[eE0q,eE1q,eE2q,eE3q,eE4q],gE) [14] kr (fun w h=>h.pkT 1 [1,1,1,1,1,1]) ⟨hO20,hJE⟩))
 refine G8 27 1 zN (fun b21=>A9 kr (fun w h=>(h.pk 4 [1,2,4])) (M2 ([(b21,.cells zN.toArray 27 (0,0))]::[(b6,.cells #[eE0q,eE1q,eE2q,eE3q,eE4q] 27 (0,0))]::gE::gs::H) (fun w h=>(h.pk 1 [1,1,1])) (C6 3 (k:=C1 4 3 rfl rfl (A9 kr (fun w h=>(h.pk 3 [0,0,1,3])) (Q0 (v:=.int .i64 ((kn:Nat):Int)) 5 (hL:=(fun w h=>(h.pk 3 [0,0,1,3]))) (k:=C6 7 (k:=L8 (inf:=Tryz.t27) 1 0 5 rfl rfl hO (by omega) (by show (kn+1) * 96≤140737488355328; omega) (fun v22 g23 hO24=>?_)))))))))
 obtain ⟨a25,cap26,rfl,hcap27,hrd28⟩:=hO24.shape
 refine A9 kr (fun w h=>(h.pkT 3 [0,0,1,3])) (J3 (ad:=⟨nb,0,none⟩) 10 (hL:=(fun w h=>(h.pkT 3 [0,0,1,3]))) (k:=G0 (fuel:=3) [(11,0)] (fun w h=>(h.pkT 3 [0,0,1,3])) (k:=H6 8 12 (k:=?_) (k':=?_))))
 refine E4 (a:=a25) (S:=(inG g23)) (cs:=(cs++zN)) (kn+1) ((kn:Nat):Int) 5 (E8 hO24) (by exact ⟨by omega,by omega,by intro h; have h2:=congrArg List.length h; rw [List.length_append] at h2; simp at h2⟩) (A9 kr (fun w h=>(h.pkT 3 [0,0,1,3])) (H6 9 12 (k:=?_) (k':=?_)))
 refine E2 (ch:=[]) (a:=a25) (q:=kn * 5) (len:=(kn+1)) (cap:=cap26) (v:=.agg #[eE0q,eE1q,eE2q,eE3q,eE4q]) (g:=g23) (j:=5) (cs:=(cs++zN)) (cs':=(cs++[eE0q,eE1q,eE2q,eE3q,eE4q])) (l:=[eE0q,eE1q,eE2q,eE3q,eE4q]) (h1:=hEc) (hO:=hO24) (hq:=(by rw [List.length_append,(show cs.length=kn * 5 by rw [hP.len]; omega)]; exact Nat.le_refl _)) (h0:=List.cons_ne_nil _ _) (hcs:=F7 (z:=zN) (l:=[eE0q,eE1q,eE2q,eE3q,eE4q]) (show cs.length=kn * 5 by rw [hP.len]; omega) rfl) (k:=(fun g29 hO30=>?_))
 refine A9 kr (fun w h=>(h.pkT 3 [0,0,1,3])) (C6 12 (k:=C9 4 3 (.slice a25 (kn+1) cap26) rfl (A9 kr (fun w h=>(h.pkT 3 [0,0,1,3])) (D8 (E':=[⟨14,[],.int .i64 0⟩]) [14] (k:=E6 (a25,cap26,g29,[eE0q,eE1q,eE2q,eE3q,eE4q],gE) [14] kr (fun w h=>h.pkT 1 [1,1,1,1,1,1]) ⟨hO30,hJE⟩)))))
 refine C9 4 3 (.slice a25 (kn+1) cap26) rfl (A9 kr (fun w h=>(h.pkT 3 [0,0,1,3])) (C6 9 (k:=E2 (ch:=[]) (a:=a25) (q:=kn * 5) (len:=(kn+1)) (cap:=cap26) (v:=.agg #[eE0q,eE1q,eE2q,eE3q,eE4q]) (g:=g23) (j:=5) (cs:=(cs++zN)) (cs':=(cs++[eE0q,eE1q,eE2q,eE3q,eE4q])) (l:=[eE0q,eE1q,eE2q,eE3q,eE4q]) (h1:=hEc) (hO:=hO24) (hq:=(by rw [List.length_append,(show cs.length=kn * 5 by rw [hP.len]; omega)]; exact Nat.le_refl _)) (h0:=List.cons_ne_nil _ _) (hcs:=F7 (z:=zN) (l:=[eE0q,eE1q,eE2q,eE3q,eE4q]) (show cs.length=kn * 5 by rw [hP.len]; omega) rfl) (k:=(fun g31 hO32=>?_)))))
 refine A9 kr (fun w h=>(h.pkT 3 [0,0,1,3])) (D8 (E':=[⟨14,[],.int .i64 0⟩]) [14] (k:=E6 (a25,cap26,g31,[eE0q,eE1q,eE2q,eE3q,eE4q],gE) [14] kr (fun w h=>h.pkT 1 [1,1,1,1,1,1]) ⟨hO32,hJE⟩))
 refine C9 4 3 (.slice a25 (kn+1) cap26) rfl (A9 kr (fun w h=>(h.pkT 3 [0,0,1,3])) (C6 8 (k:=E4 (a:=a25) (S:=(inG g23)) (cs:=(cs++zN)) (kn+1) ((kn:Nat):Int) 5 (E8 hO24) (by exact ⟨by omega,by omega,by intro h; have h2:=congrArg List.length h; rw [List.length_append] at h2; simp at h2⟩) (A9 kr (fun w h=>(h.pkT 3 [0,0,1,3])) (C6 9 (k:=E2 (ch:=[]) (a:=a25) (q:=kn * 5) (len:=(kn+1)) (cap:=cap26) (v:=.agg #[eE0q,eE1q,eE2q,eE3q,eE4q]) (g:=g23) (j:=5) (cs:=(cs++zN)) (cs':=(cs++[eE0q,eE1q,eE2q,eE3q,eE4q])) (l:=[eE0q,eE1q,eE2q,eE3q,eE4q]) (h1:=hEc) (hO:=hO24) (hq:=(by rw [List.length_append,(show cs.length=kn * 5 by rw [hP.len]; omega)]; exact Nat.le_refl _)) (h0:=List.cons_ne_nil _ _) (hcs:=F7 (z:=zN) (l:=[eE0q,eE1q,eE2q,eE3q,eE4q]) (show cs.length=kn * 5 by rw [hP.len]; omega) rfl) (k:=(fun g33 hO34=>?_))))))))
 refine A9 kr (fun w h=>(h.pkT 3 [0,0,1,3])) (D8 (E':=[⟨14,[],.int .i64 0⟩]) [14] (k:=E6 (a25,cap26,g33,[eE0q,eE1q,eE2q,eE3q,eE4q],gE) [14] kr (fun w h=>h.pkT 1 [1,1,1,1,1,1]) ⟨hO34,hJE⟩))
 rintro ⟨ya,yc,yg,c,gv⟩ ⟨hyo,hJ⟩
 dsimp only at hyo hJ
 refine A0 (A1 (C3 (E':=[⟨8,[],.int .i64 0⟩]) [0,0] [8] (k:=A0 (B4 (A4 (F8 1 [1,2,2,2,1] (F3 (H':=([(t,.cells #[.string (bk l),.int .i64 ((jE:Nat):Int)] 53 (0,0))]::[(nb,.cells #[v0,v1,v2,.slice ya (kn+1) yc,v4] 27 (0,0))]::yg::(gs++gv)::H)) (fun w h=>Sat.flat h (List.Perm.of_eq (by simp [pk]))) (B7 [.tmp 8] [.int .i64 0] (k:=?_)))))))))
 exact .inl ⟨ks++[kE],jE,kn+1,ya,yc,yg,_,_,pc_el h1 has h3 (by rw [← ha3s]; exact heE),by omega,hjE,rfl,by rw [List.length_append,hkn]; rfl,hyo,hP.snoc hJ,by omega,by rw [R9,hkE]; exact Nat.zero_le _,rfl⟩
 refine A3 (j:=8) [0,0,0] (k:=J0 (.agg zN.toArray) (fun b35=>C9 0 0 (.agg zN.toArray) rfl (A5 [0] [1,13,14] (k:=A0 (A1 (P7 (T:=Option Addr × Nat × Grp) (fun ξ:Option Addr × Nat × Grp=>[⟨14,[],.int .i64 eE⟩]) (fun ξ:Option Addr × Nat × Grp=>([(b35,.cells zN.toArray 27 (0,0))]::[(t,.cells #[.string (bk l),.int .i64 ((zE:Nat):Int)] 53 (0,0))]::[(nb,.cells #[v0,v1,v2,.slice ξ.1 (kn+1) ξ.2.1,v4] 27 (0,0))]::ξ.2.2::gs::H)) (fun ξ:Option Addr × Nat × Grp=>(Go.Sw.Own 27 5 (.slice ξ.1 (kn+1) ξ.2.1) ξ.2.2 (kn+1) (cs++zN))) ?_ ?_))))))
 refine H3 ([(b35,.cells zN.toArray 27 (0,0))]::gs::H) kr (G0 (fuel:=12) [(0,0)] (fun w h=>(h.pkT 3 [0,3])) (k:=J3 (ad:=⟨nb,0,none⟩) 1 (hL:=(fun w h=>(h.pkT 3 [0,3]))) (k:=G0 (fuel:=10) [(2,0)] (fun w h=>(h.pkT 3 [0,3])) (k:=F6 4 kr (fun w h=>(h.pkT 3 [0,3])) (M8 0 0 5 rfl (G5 kr rfl)) (H6 3 6 (k:=?_) (k':=?_))))))
 refine C1 2 3 rfl rfl (A9 kr (fun w h=>(h.pkT 3 [0,3])) (Q0 (v:=.int .i64 ((kn:Nat):Int)) 5 (hL:=(fun w h=>(h.pkT 3 [0,3]))) (k:=C6 6 (k:=G8 27 1 zN (fun b36=>A9 kr (fun w h=>(h.pkT 4 [1,4])) (M2 ([(b36,.cells zN.toArray 27 (0,0))]::[(b35,.cells zN.toArray 27 (0,0))]::gs::H) (fun w h=>(h.pk 1 [1,1])) (C6 7 (k:=L8 (inf:=Tryz.t27) 1 0 4 rfl rfl hO (by omega) (by show (kn+1) * 96≤140737488355328; omega) (fun v37 g38 hO39=>?_)))))))))
 obtain ⟨a40,cap41,rfl,hcap42,hrd43⟩:=hO39.shape
 refine A9 kr (fun w h=>(h.pkT 3 [0,0,3])) (J3 (ad:=⟨nb,0,none⟩) 10 (hL:=(fun w h=>(h.pkT 3 [0,0,3]))) (k:=G0 (fuel:=3) [(11,0)] (fun w h=>(h.pkT 3 [0,0,3])) (k:=H6 8 12 (k:=?_) (k':=?_))))
 refine E4 (a:=a40) (S:=(inG g38)) (cs:=(cs++zN)) (kn+1) ((kn:Nat):Int) 5 (E8 hO39) (by exact ⟨by omega,by omega,by intro h; have h2:=congrArg List.length h; rw [List.length_append] at h2; simp at h2⟩) (A9 kr (fun w h=>(h.pkT 3 [0,0,3])) (H6 9 12 (k:=?_) (k':=?_)))
 refine E2 (ch:=[]) (a:=a40) (q:=kn * 5) (len:=(kn+1)) (cap:=cap41) (v:=.agg zN.toArray) (g:=g38) (j:=4) (cs:=(cs++zN)) (cs':=(cs++zN)) (l:=zN) (hO:=hO39) (hq:=(by rw [List.length_append,(show cs.length=kn * 5 by rw [hP.len]; omega)]; exact Nat.le_refl _)) (h0:=List.cons_ne_nil _ _) (hcs:=F7 (z:=zN) (l:=zN) (show cs.length=kn * 5 by rw [hP.len]; omega) rfl) (k:=(fun g44 hO45=>?_))
 refine A9 kr (fun w h=>(h.pkT 3 [0,0,3])) (C6 12 (k:=C9 3 3 (.slice a40 (kn+1) cap41) rfl (A9 kr (fun w h=>(h.pkT 3 [0,0,3])) (D8 (E':=[⟨14,[],.int .i64 eE⟩]) [14] (k:=E6 (a40,cap41,g44) [14] kr (fun w h=>h.pkT 1 [1,1,1,1,1]) hO45)))))
 refine C9 3 3 (.slice a40 (kn+1) cap41) rfl (A9 kr (fun w h=>(h.pkT 3 [0,0,3])) (C6 9 (k:=E2 (ch:=[]) (a:=a40) (q:=kn * 5) (len:=(kn+1)) (cap:=cap41) (v:=.agg zN.toArray) (g:=g38) (j:=4) (cs:=(cs++zN)) (cs':=(cs++zN)) (l:=zN) (hO:=hO39) (hq:=(by rw [List.length_append,(show cs.length=kn * 5 by rw [hP.len]; omega)]; exact Nat.le_refl _)) (h0:=List.cons_ne_nil _ _) (hcs:=F7 (z:=zN) (l:=zN) (show cs.length=kn * 5 by rw [hP.len]; omega) rfl) (k:=(fun g46 hO47=>?_)))))
 refine A9 kr (fun w h=>(h.pkT 3 [0,0,3])) (D8 (E':=[⟨14,[],.int .i64 eE⟩]) [14] (k:=E6 (a40,cap41,g46) [14] kr (fun w h=>h.pkT 1 [1,1,1,1,1]) hO47))
 refine C9 3 3 (.slice a40 (kn+1) cap41) rfl (A9 kr (fun w h=>(h.pkT 3 [0,0,3])) (C6 8 (k:=E4 (a:=a40) (S:=(inG g38)) (cs:=(cs++zN)) (kn+1) ((kn:Nat):Int) 5 (E8 hO39) (by exact ⟨by omega,by omega,by intro h; have h2:=congrArg List.length h; rw [List.length_append] at h2; simp at h2⟩) (A9 kr (fun w h=>(h.pkT 3 [0,0,3])) (C6 9 (k:=E2 (ch:=[]) (a:=a40) (q:=kn * 5) (len:=(kn+1)) (cap:=cap41) (v:=.agg zN.toArray) (g:=g38) (j:=4) (cs:=(cs++zN)) (cs':=(cs++zN)) (l:=zN) (hO:=hO39) (hq:=(by rw [List.length_append,(show cs.length=kn * 5 by rw [hP.len]; omega)]; exact Nat.le_refl _)) (h0:=List.cons_ne_nil _ _) (hcs:=F7 (z:=zN) (l:=zN) (show cs.length=kn * 5 by rw [hP.len]; omega) rfl) (k:=(fun g48 hO49=>?_))))))))
 refine A9 kr (fun w h=>(h.pkT 3 [0,0,3])) (D8 (E':=[⟨14,[],.int .i64 eE⟩]) [14] (k:=E6 (a40,cap41,g48) [14] kr (fun w h=>h.pkT 1 [1,1,1,1,1]) hO49))
 refine G8 27 1 zN (fun b50=>A9 kr (fun w h=>(h.pkT 4 [1,4])) (M2 ([(b50,.cells zN.toArray 27 (0,0))]::[(b35,.cells zN.toArray 27 (0,0))]::gs::H) (fun w h=>(h.pk 1 [1,1])) (C6 3 (k:=C1 3 3 rfl rfl (A9 kr (fun w h=>(h.pkT 3 [0,0,3])) (Q0 (v:=.int .i64 ((kn:Nat):Int)) 5 (hL:=(fun w h=>(h.pkT 3 [0,0,3]))) (k:=C6 7 (k:=L8 (inf:=Tryz.t27) 1 0 4 rfl rfl hO (by omega) (by show (kn+1) * 96≤140737488355328; omega) (fun v51 g52 hO53=>?_)))))))))
 obtain ⟨a54,cap55,rfl,hcap56,hrd57⟩:=hO53.shape
 refine A9 kr (fun w h=>(h.pkT 3 [0,0,3])) (J3 (ad:=⟨nb,0,none⟩) 10 (hL:=(fun w h=>(h.pkT 3 [0,0,3]))) (k:=G0 (fuel:=3) [(11,0)] (fun w h=>(h.pkT 3 [0,0,3])) (k:=H6 8 12 (k:=?_) (k':=?_))))
 refine E4 (a:=a54) (S:=(inG g52)) (cs:=(cs++zN)) (kn+1) ((kn:Nat):Int) 5 (E8 hO53) (by exact ⟨by omega,by omega,by intro h; have h2:=congrArg List.length h; rw [List.length_append] at h2; simp at h2⟩) (A9 kr (fun w h=>(h.pkT 3 [0,0,3])) (H6 9 12 (k:=?_) (k':=?_)))
 refine E2 (ch:=[]) (a:=a54) (q:=kn * 5) (len:=(kn+1)) (cap:=cap55) (v:=.agg zN.toArray) (g:=g52) (j:=4) (cs:=(cs++zN)) (cs':=(cs++zN)) (l:=zN) (hO:=hO53) (hq:=(by rw [List.length_append,(show cs.length=kn * 5 by rw [hP.len]; omega)]; exact Nat.le_refl _)) (h0:=List.cons_ne_nil _ _) (hcs:=F7 (z:=zN) (l:=zN) (show cs.length=kn * 5 by rw [hP.len]; omega) rfl) (k:=(fun g58 hO59=>?_))
 refine A9 kr (fun w h=>(h.pkT 3 [0,0,3])) (C6 12 (k:=C9 3 3 (.slice a54 (kn+1) cap55) rfl (A9 kr (fun w h=>(h.pkT 3 [0,0,3])) (D8 (E':=[⟨14,[],.int .i64 eE⟩]) [14] (k:=E6 (a54,cap55,g58) [14] kr (fun w h=>h.pkT 1 [1,1,1,1,1]) hO59)))))
 refine C9 3 3 (.slice a54 (kn+1) cap55) rfl (A9 kr (fun w h=>(h.pkT 3 [0,0,3])) (C6 9 (k:=E2 (ch:=[]) (a:=a54) (q:=kn * 5) (len:=(kn+1)) (cap:=cap55) (v:=.agg zN.toArray) (g:=g52) (j:=4) (cs:=(cs++zN)) (cs':=(cs++zN)) (l:=zN) (hO:=hO53) (hq:=(by rw [List.length_append,(show cs.length=kn * 5 by rw [hP.len]; omega)]; exact Nat.le_refl _)) (h0:=List.cons_ne_nil _ _) (hcs:=F7 (z:=zN) (l:=zN) (show cs.length=kn * 5 by rw [hP.len]; omega) rfl) (k:=(fun g60 hO61=>?_)))))
 refine A9 kr (fun w h=>(h.pkT 3 [0,0,3])) (D8 (E':=[⟨14,[],.int .i64 eE⟩]) [14] (k:=E6 (a54,cap55,g60) [14] kr (fun w h=>h.pkT 1 [1,1,1,1,1]) hO61))
 refine C9 3 3 (.slice a54 (kn+1) cap55) rfl (A9 kr (fun w h=>(h.pkT 3 [0,0,3])) (C6 8 (k:=E4 (a:=a54) (S:=(inG g52)) (cs:=(cs++zN)) (kn+1) ((kn:Nat):Int) 5 (E8 hO53) (by exact ⟨by omega,by omega,by intro h; have h2:=congrArg List.length h; rw [List.length_append] at h2; simp at h2⟩) (A9 kr (fun w h=>(h.pkT 3 [0,0,3])) (C6 9 (k:=E2 (ch:=[]) (a:=a54) (q:=kn * 5) (len:=(kn+1)) (cap:=cap55) (v:=.agg zN.toArray) (g:=g52) (j:=4) (cs:=(cs++zN)) (cs':=(cs++zN)) (l:=zN) (hO:=hO53) (hq:=(by rw [List.length_append,(show cs.length=kn * 5 by rw [hP.len]; omega)]; exact Nat.le_refl _)) (h0:=List.cons_ne_nil _ _) (hcs:=F7 (z:=zN) (l:=zN) (show cs.length=kn * 5 by rw [hP.len]; omega) rfl) (k:=(fun g62 hO63=>?_))))))))
 refine A9 kr (fun w h=>(h.pkT 3 [0,0,3])) (D8 (E':=[⟨14,[],.int .i64 eE⟩]) [14] (k:=E6 (a54,cap55,g62) [14] kr (fun w h=>h.pkT 1 [1,1,1,1,1]) hO63))
 rintro ⟨ya,yc,yg⟩ hyo
 dsimp only at hyo
 refine A0 (A1 (C3 (E':=[⟨8,[],.int .i64 eE⟩]) [0,0] [8] (k:=A0 (B4 (A4 (F8 2 [1,1,1] (B7 [.tmp 8] [.int .i64 eE] (k:=?_))))))))
 exact .inr ⟨eE,zE,_,_,pc_el0 h1 has h3 (by rw [← ha3s]; exact heE),hneE,hzE,rfl,rfl⟩
 have hk4:[60].isPrefixOf (l.drop z3)=false:=hk4
 have h3:=hk4
 rw [ha3s] at h3
 have hpt:=pc_text (el:=el) (ks:=ks) h1 has h3
 refine A5 [] [0,1,2,3,39] (k:=A0 (C5 kr (A7 (A0 (A1 (A2 (A3 (j:=3) [0,0,0] (k:=C1 0 1 rfl rfl ?_))))))))
 refine A5 [0] [0,1,15] (k:=A0 (A1 (B3 (I5 (EI:=(fun ξ:Nat=>[⟨0,[],pt t⟩,⟨1,[],pt nb⟩,⟨15,[],.int .i64 ((z3:Nat):Int)⟩])) (HI:=(fun ξ:Nat=>([(t,.cells #[.string (bk l),.int .i64 ((ξ:Nat):Int)] 53 (0,0))]::[(nb,.cells #[v0,v1,v2,.slice ka kn kc,v4] 27 (0,0))]::kg::gs::H))) (Φ:=(fun ξ:Nat=>(TxI l i ξ))) (μ:=(fun ξ:Nat=>l.length - ξ)) (s0:=(z3)) [0,1,15] kr rfl (by rw [show z3=i by omega]; exact txI_0 hi) ?_))))
 rintro j hX
 have hij:=hX.ij
 have hjl:=hX.le
 obtain ⟨b,hbE⟩:∃ b:UInt8,b=l.getD j 0:=⟨_,rfl⟩
 have hbyte:B2 (bk l) (j:Int)=(b.toNat:Int):=by rw [byteJ,hbE]
 refine A1 (A1 (H4 (k:=A3 (j:=3) [0,0,0] (k:=C1 0 1 rfl rfl (A3 (j:=7) [0,0,0] (k:=C1 0 0 rfl rfl (A3 (j:=14) [0,0,0,0,0,0] (k:=C2 (ch:=[(74,true)]) (b:=t) (off:=0) (v:=.string (bk l)) (hA:=At.grp 0 0 rfl rfl) (k:=?_)))))))))
 refine A3 (j:=18) [0,0,0] (k:=C2 (ch:=[(74,true)]) (b:=t) (off:=1) (v:=.int .i64 ((j:Nat):Int)) (hA:=At.grp 0 0 rfl rfl) (k:=P5 (ch:=[(74,true)]) (s:=(bk l)) (kd:=.i64) (j:=((j:Nat):Int)) (hb:=(fun hc=>by have hg0:=R0 (t:=74) (c:=[]) (b:=decide (((j:Nat):Int)<((bk l).size:Int))) hc kr; (try simp at hg0); omega)) (k:=?_)))
 have hb64:=E5 (bk l) ((j:Nat):Int)
 refine N7 83 [(74,true)] (x:=.int .u8 (B2 (bk l) ((j:Nat):Int))) (y:=.int .u8 (b.toNat:Int)) (by rw [hbyte]) (A5 [0,6] [0,1,15,85] (k:=A0 (B1 (b:=(decide (((j:Nat):Int)<((bk l).size:Int)))&&((b.toNat:Int) != 60)) kr (fun hc65=>?_) (fun hc65=>?_))))
 have hE9q:=hc65
 simp only [Bool.and_eq_true,decide_eq_true_eq,bne_iff_ne,ne_eq] at hE9q
 have hlt2:j<l.length:=by omega
 have hne:l.getD j 0≠60:=by rw [← hbE]; rintro rfl; exact hE9q.2 rfl
 refine A7 (A0 (B3 (A1 (A1 (A2 (A3 (j:=1) [0] (k:=D9 Tryz.func19 (rTlooks_ t l j hl (by omega) [93,93,62] (Nat.le_of_ble_eq_true rfl) _ _) ?_)))))))
 rintro _ _ ⟨rfl,rfl⟩
 refine A5 [] [0,1,15,87] (k:=A0 (B1 (b:=([93,93,62].isPrefixOf (l.drop j))) kr (fun hc66=>?_) (fun hc66=>?_)))
 have hfin:N1 el ks (l.drop i)=.error 70:=by rw [hpt,tx_bad hX hlt2 hc66]
 refine A1 (C3 (E':=[⟨8,[],.int .i64 70⟩]) [0] [8] (k:=A0 (B4 (A4 (B0 (A4 (B0 (A4 ?_))))))))
 refine F8 1 [0,0,0] (B7 [.tmp 8] [.int .i64 70] (k:=?_))
 exact .inr ⟨70,_,_,_,hfin,by decide,by omega,rfl,rfl⟩
 have hnb:=hc66
 refine A7 (A0 (A2 (A3 (j:=3) [0,0,0] (k:=C1 0 1 rfl rfl (A3 (j:=5) [0] (k:=D1 92 (((j:Nat):Int)+1) (by omega) (by omega) kr (A3 (j:=7) [0,0] (k:=C9 0 1 (.int .i64 (((j:Nat):Int)+1)) rfl ?_))))))))
 refine A5 [] [0,1,15] (k:=B8 (D2 (s':=(j+1)) [0,1,15] kr kr (txI_s hX hlt2 hne hnb) (by omega)))
 have hE9q:=hc65
 simp only [Bool.and_eq_false_iff,decide_eq_false_iff_not,bne_eq_false_iff_eq] at hE9q
 have hstop:j=l.length∨l.getD j 0=60:=by
  rcases hE9q with hE9q | hE9q
  left; omega
  right; rw [← hbE]; exact UInt8.toNat_inj.1 (by show b.toNat=60; omega)
 refine E7 (A6 (A6 (B6 (A0 (A1 (H4 (k:=A3 (j:=3) [0,0,0] (k:=C1 0 0 rfl rfl ?_))))))))
 refine A3 (j:=8) [0,0,0,0] (k:=C1 0 1 rfl rfl (M6 (bk l) ((z3:Nat):Int) ((j:Nat):Int) (by (try intro _); (repeat' apply And.intro) <;> omega) (E3 105 (x:=.string ((bk l).extract z3 j)) (y:=.string (bk ((l.drop i).take (j - i)))) (by rw [ha3s,ext_midT]) (H5 Tryz.func79 (rlines_ (bk ((l.drop i).take (j - i))) (by rw [D0,List.length_take,List.length_drop]; omega) _ _) (H5 Tryz.func78 (rTrefs_ (bk (B5 ((l.drop i).take (j - i)))) (by rw [D0]; have hE9q:=N2 ((l.drop i).take (j - i)); rw [List.length_take,List.length_drop] at hE9q; omega) _ _) (A5 [0,0,0,0,0] [0,1,12,16] (k:=A0 (A1 ?_))))))))
 refine A1 (H4 (k:=A3 (j:=6) [0,0,0,0,0,0] (k:=C2 (ch:=[(112,false)]) (b:=t) (off:=1) (v:=.int .i64 ((j:Nat):Int)) (hA:=At.grp 0 0 rfl rfl) (k:=A3 (j:=10) [0,0,0] (k:=C2 (ch:=[(112,false)]) (b:=t) (off:=0) (v:=.string (bk l)) (hA:=At.grp 0 0 rfl rfl) (k:=A5 [0,0,5] [1,16,123] (k:=A0 (B1 (b:=(!((rfs (B5 ((l.drop i).take (j - i)))).isSome))||(((j:Nat):Int)==((bk l).size:Int))) kr (fun hc68=>?_) (fun hc68=>?_)))))))))
 have hfin:N1 el ks (l.drop i)=.error 70:=by rw [hpt,tx_fail hX hstop (by have hE9q:=hc68; rw [D0] at hE9q; exact hE9q)]
 refine A1 (C3 (E':=[⟨8,[],.int .i64 70⟩]) [0] [8] (k:=A0 (B4 (A4 (F8 1 [0,0,0] (B7 [.tmp 8] [.int .i64 70] (k:=?_)))))))
 exact .inr ⟨70,_,_,_,hfin,by decide,by omega,rfl,rfl⟩
 obtain ⟨hte,hlt2⟩:=tx_good hX hstop (by have hE9q:=hc68; rw [D0] at hE9q; exact hE9q)
 have hgo:=tx_go hX hlt2 (hstop.resolve_left (by omega)) h3
 have hfin:N1 el ks (l.drop i)=.ok (addX ks ((rfs (B5 ((l.drop i).take (j - i)))).getD []),l.drop j):=by rw [hpt,hte]
 refine A7 (A0 (A1 (A2 (A3 (j:=2) [0,0] (k:=M1 0 [1,1] (D9 Tryz.func80 (rTadd_ nb v0 v1 v2 v4 ks kn ka kc kg gs cs hkn hO hP ((rfs (B5 ((l.drop i).take (j - i)))).getD []) (by have hE9q:=rfs_len (B5 ((l.drop i).take (j - i))); have hE8q:=N2 ((l.drop i).take (j - i)); rw [List.length_take,List.length_drop] at hE8q; omega) (by omega) (by omega) _ _) ?_))))))
 rintro _ _ ⟨knE,kaE,kcE,kgE,csE,hkE,hOE,hPE,rfl⟩
 have hlnE:=add_len ks ((rfs (B5 ((l.drop i).take (j - i)))).getD [])
 have hltE:=lastT_add ks ((rfs (B5 ((l.drop i).take (j - i)))).getD [])
 refine C0 (E':=[]) [] [] (k:=A0 (A1 (C3 (E':=[⟨8,[],.int .i64 0⟩]) [0] [8] (k:=A0 (B4 (F8 0 [2,0,0,0] (B7 [.tmp 8] [.int .i64 0] (k:=?_))))))))
 have hE9q:=rfs_len (B5 ((l.drop i).take (j - i))); have hE8q:=N2 ((l.drop i).take (j - i)); rw [List.length_take,List.length_drop] at hE8q
 exact .inl ⟨_,_,knE,kaE,kcE,kgE,csE,gs,hfin,hgo,by omega,rfl,hkE,hOE,hPE,by omega,by omega,rfl⟩
 have hfin:=pc_bad (el:=el) (ks:=ks) h1 ha3
 refine A5 [0,0,0,0,0] [0,1,2,3,11,12] (k:=A0 (A1 (A1 (G_p [0,0] [0,1,2,3,11,36] (k:=A0 (B9 kr (A1 (C3 (E':=[⟨8,[],.int .i64 70⟩]) [0] [8] (k:=?_)))))))))
 refine A0 (B4 (A4 (F8 1 [0,0,0] (B7 [.tmp 8] [.int .i64 70] (k:=?_)))))
 exact .inr ⟨70,_,_,_,hfin,by decide,by omega,rfl,rfl⟩
end Go.Proofs.YtcgmnagcgkhogaaGreatDoor
namespace Go.Xml
open Go.Esc Go.Json Go.Lib
def QOk (q:QN):Prop:=(q.has=false→q.pre=[])∧q.name≠[]
theorem quQ_ok {l r:List UInt8} {q:QN} (h:G4 l=some (q,r)):QOk q:=by
 by_cases h0:nmX l=0
 rw [qualE_0 h0] at h; cases h
 by_cases h2:[58].isPrefixOf (l.drop (nmX l))=true
 rw [qualE_yes h0 h2] at h
 by_cases h3:nmX ((l.drop (nmX l)).drop 1)=0
 rw [nameE_0 h3] at h; cases h
 rw [nameE_s h3] at h; injection h with h; injection h with h _; subst h
 exact ⟨fun hn=>(by cases hn),fun hn=>h3 (take_nm.1 hn)⟩
 rw [qualE_no h0 h2] at h; injection h with h; injection h with h _; subst h
 exact ⟨fun _=>rfl,fun hn=>h0 (take_nm.1 hn)⟩
theorem atQ_ok {l r:List UInt8} {a:AT} (h:S1 l=some (a,r)):QOk a.q:=by
  unfold S1 at h
  cases hq:G4 l with
  | none=>rw [hq] at h; cases h
  | some y =>
    obtain ⟨q,r0⟩:=y
    rw [hq] at h; dsimp only at h
    cases h1:O9 [61] (blk r0) with
    | none=>rw [h1] at h; cases h
    | some r1 =>
      rw [h1] at h; dsimp only at h
      cases h2:W5 (blk r1) with
      | none=>rw [h2] at h; cases h
      | some y2 =>
        obtain ⟨v,r2⟩:=y2
        rw [h2] at h; dsimp only at h
        by_cases h3:(60:UInt8)∈v
        rw [if_pos h3] at h; cases h
        rw [if_neg h3] at h
        cases h4:refsE v with
        | none=>rw [h4] at h; cases h
        | some x=>rw [h4] at h; injection h with h; injection h with h _; subst h; exact quQ_ok hq
theorem tgQ_ok:∀ {n:Nat} {acc out:List AT} {c:Bool} {l r:List UInt8},(∀ a∈acc,QOk a.q)→tagE n acc l=some (out,c,r)→∀ a∈out,QOk a.q
  | 0,_,_,_,_,_,_,h=>by cases h
  | n+1,acc,out,c,l,r,ha,h=>by
    unfold tagE at h
    by_cases h1:[47,62].isPrefixOf (blk l)=true
    rw [if_pos h1] at h; injection h with h; injection h with h _; subst h; exact ha
    rw [if_neg h1] at h
    by_cases h2:[62].isPrefixOf (blk l)=true
    rw [if_pos h2] at h; injection h with h; injection h with h _; subst h; exact ha
    rw [if_neg h2] at h
    by_cases h3:(blk l).length<l.length
    rw [if_pos h3] at h
    cases h4:S1 (blk l) with
    | none=>rw [h4] at h; cases h
    | some y =>
      obtain ⟨x,r0⟩:=y
      rw [h4] at h
      refine tgQ_ok (fun a h5=>?_) h
      rcases List.mem_append.1 h5 with h5 | h5
      exact ha a h5
      rw [List.mem_singleton.1 h5]; exact atQ_ok h4
    rw [if_neg h3] at h; cases h
theorem decl_q {a b:AT} (h:a.q=b.q):M0 a=M0 b:=by unfold M0; rw [h]
theorem decl_inj {a b:AT} {p:List UInt8} (ha:QOk a.q) (hb:QOk b.q) (h1:M0 a=some p) (h2:M0 b=some p):a.q=b.q:=by
 obtain ⟨⟨pa,na,ka⟩,va⟩:=a
 obtain ⟨⟨pb,nb,kb⟩,vb⟩:=b
 unfold M0 at h1 h2
 dsimp only [QOk] at *
 cases ka <;> cases kb <;> simp at h1 h2 ha hb ⊢
 exact ⟨by rw [ha.1,hb.1],by rw [h1.1,h2.1]⟩
 exact absurd (h2.2.trans h1.2) hb
 exact absurd (h1.2.trans h2.2) ha
 exact ⟨by rw [h1.1,h2.1],by rw [h1.2,h2.2]⟩
def SeenAt (ats:List AT) (k:Nat) (seen:List (List UInt8)):Prop:=∀ p,p∈seen ↔ ∃ o∈ats.take k,M0 o=some p
theorem seen_0 (ats:List AT):SeenAt ats 0 []:=fun p=>⟨fun h=>absurd h List.not_mem_nil,fun ⟨o,h,_⟩=>absurd h (by rw [List.take_zero]; exact List.not_mem_nil)⟩
theorem take_at {α:Type} {l:List α} {k:Nat} (hk:k<l.length):l.take (k+1)=l.take k++[l[k]]:=by rw [List.take_add_one,List.getElem?_eq_getElem hk]; rfl
theorem seen_no {ats:List AT} {k:Nat} {seen:List (List UInt8)} {x:AT} (hk:k<ats.length) (hx:x=ats[k]) (h:SeenAt ats k seen) (hd:M0 x=none):SeenAt ats (k+1) seen:=fun p=>by
 rw [h p,take_at hk,← hx]
 constructor
 rintro ⟨o,h1,h2⟩; exact ⟨o,List.mem_append_left _ h1,h2⟩
 rintro ⟨o,h1,h2⟩
 rcases List.mem_append.1 h1 with h1 | h1
 exact ⟨o,h1,h2⟩
 rw [List.mem_singleton.1 h1,hd] at h2; cases h2
theorem seen_s {ats:List AT} {k:Nat} {seen:List (List UInt8)} {x:AT} {p:List UInt8} (hk:k<ats.length) (hx:x=ats[k]) (h:SeenAt ats k seen) (hd:M0 x=some p):SeenAt ats (k+1) (p::seen):=fun p2=>by
 rw [List.mem_cons,h p2,take_at hk,← hx]
 constructor
 rintro (rfl | ⟨o,h1,h2⟩)
 exact ⟨x,List.mem_append_right _ (List.mem_singleton.2 rfl),hd⟩
 exact ⟨o,List.mem_append_left _ h1,h2⟩
 rintro ⟨o,h1,h2⟩
 rcases List.mem_append.1 h1 with h1 | h1
 exact .inr ⟨o,h1,h2⟩
 rw [List.mem_singleton.1 h1,hd] at h2; injection h2 with h2; exact .inl h2.symm
theorem seen_new {ats:List AT} {k:Nat} {seen:List (List UInt8)} {x:AT} {p:List UInt8} (hq:∀ a∈ats,QOk a.q) (hx:x∈ats) (h:SeenAt ats k seen) (hd:M0 x=some p) (hn:∀ o∈ats.take k,o.q≠x.q):p ∉ seen:=fun hp=>by
 obtain ⟨o,h1,h2⟩:=(h p).1 hp
 exact hn o h1 (decl_inj (hq o (List.mem_of_mem_take h1)) (hq x hx) h2 hd)
theorem seen_dup {ats:List AT} {k:Nat} {seen:List (List UInt8)} {x o:AT} {p:List UInt8} (h:SeenAt ats k seen) (hd:M0 x=some p) (ho:o∈ats.take k) (he:o.q=x.q):p∈seen:=(h p).2 ⟨o,ho,by rw [decl_q he,hd]⟩
theorem spE_no {a:AT} {r:List AT} {seen:List (List UInt8)} {sp:SPX} (h:M0 a=none):spE (a::r) seen sp=spE r seen sp:=by rw [spE,h]
theorem spE_dup {a:AT} {r:List AT} {seen:List (List UInt8)} {sp:SPX} {p:List UInt8} (h:M0 a=some p) (hp:p∈seen):spE (a::r) seen sp=none:=by rw [spE,h]; exact if_pos (.inl hp)
theorem spE_nil {a:AT} {r:List AT} {seen:List (List UInt8)} {sp:SPX} {p:List UInt8} (h:M0 a=some p) (h1:a.q.has=true) (h2:a.value=[]):spE (a::r) seen sp=none:=by rw [spE,h]; exact if_pos (.inr ⟨h1,h2⟩)
theorem spE_go {a:AT} {r:List AT} {seen:List (List UInt8)} {sp:SPX} {p:List UInt8} (h:M0 a=some p) (hp:p ∉ seen) (hv:¬ (a.q.has=true∧a.value=[])):spE (a::r) seen sp=spE r (p::seen) ((p,a.value)::sp):=by rw [spE,h]; exact if_neg (fun h=>h.elim hp hv)
theorem mkE_skip {a:AT} {r:List AT} {out:List XA} {sp:SPX} (h:(M0 a).isSome=true):O3 (a::r) out sp=O3 r out sp:=by rw [O3,if_pos h]
def asX (sp:SPX) (a:AT):List UInt8:=if a.q.has then (K7 sp a.q.pre).getD [] else []
theorem mkE_bad {a:AT} {r:List AT} {out:List XA} {sp:SPX} (h:(M0 a).isSome=false) (h1:a.q.has=true) (h2:(K7 sp a.q.pre).isSome=false):O3 (a::r) out sp=none:=by
 rw [O3,if_neg (by rw [h]; decide),if_pos h1]
 unfold R6
 rw [if_pos ⟨rfl,by simpa using h2⟩]
theorem mkE_go {a:AT} {r:List AT} {out:List XA} {sp:SPX} (h:(M0 a).isSome=false) (h1:a.q.has=true→(K7 sp a.q.pre).isSome=true):O3 (a::r) out sp=if out.any (fun y=>y.space==asX sp a&&y.name==a.q.name) then none else O3 r (out++[⟨asX sp a,a.q.name,a.value⟩]) sp:=by
  rw [O3,if_neg (by rw [h]; decide)]
  unfold asX
  cases hh:a.q.has with
  | false=>rfl
  | true =>
    have h2:=h1 hh
    unfold R6
    rw [if_pos rfl,if_neg (by rintro ⟨_,h3⟩; rw [h3] at h2; cases h2)]
    rfl
theorem any_no {out:List XA} {f:XA→Bool} (h:∀ y∈out,f y=false):out.any f=false:=List.any_eq_false.2 (fun y hy=>by rw [h y hy]; decide)
theorem any_yes {out:List XA} {f:XA→Bool} {y:XA} (hy:y∈out) (h:f y=true):out.any f=true:=List.any_eq_true.2 ⟨y,hy,h⟩
section
variable {lv : Nat} {sp0 sp : SPX} {D r r1 : List UInt8} {a : QN} {ats : List AT} {c : Bool} {s : List UInt8} {m : List XA}
theorem el_q (h:G4 D=none):elE lv sp0 D=.error 70:=by unfold elE X5; rw [h]
theorem el_t (h:G4 D=some (a,r)) (h1:tagE (r.length+1) [] r=none):elE lv sp0 D=.error 70:=by unfold elE X5; rw [h]; dsimp only; rw [h1]
theorem el_s (h:G4 D=some (a,r)) (h1:tagE (r.length+1) [] r=some (ats,c,r1)) (h2:spE ats [] sp0=none):elE lv sp0 D=.error 70:=by unfold elE X5; rw [h]; dsimp only; rw [h1]; dsimp only; rw [h2]
theorem el_p (h:G4 D=some (a,r)) (h1:tagE (r.length+1) [] r=some (ats,c,r1)) (h2:spE ats [] sp0=some sp) (h3:a.has=true) (h4:(K7 sp a.pre).isSome=false):elE lv sp0 D=.error 70:=by
 have h5:R6 a.pre a.has sp=none:=by unfold R6; rw [if_pos ⟨h3,by simpa using h4⟩]
 unfold elE X5; rw [h]; dsimp only; rw [h1]; dsimp only; rw [h2]; dsimp only; rw [h5]
theorem spE_ok (h:¬ (a.has=true∧(K7 sp a.pre).isSome=false)):R6 a.pre a.has sp=some ((K7 sp a.pre).getD []):=by
 unfold R6; rw [if_neg (by rintro ⟨h1,h2⟩; exact h ⟨h1,by rw [h2]; rfl⟩)]
theorem el_m (h:G4 D=some (a,r)) (h1:tagE (r.length+1) [] r=some (ats,c,r1)) (h2:spE ats [] sp0=some sp) (h3:R6 a.pre a.has sp=some s) (h4:O3 ats [] sp=none):elE lv sp0 D=.error 70:=by
 unfold elE X5; rw [h]; dsimp only; rw [h1]; dsimp only; rw [h2]; dsimp only; rw [h3]; dsimp only; rw [h4]
theorem el_head (h:G4 D=some (a,r)) (h1:tagE (r.length+1) [] r=some (ats,c,r1)) (h2:spE ats [] sp0=some sp) (h3:R6 a.pre a.has sp=some s) (h4:O3 ats [] sp=some m):X5 sp0 D=some (a,s,m,sp,c,r1):=by
 unfold X5; rw [h]; dsimp only; rw [h1]; dsimp only; rw [h2]; dsimp only; rw [h3]; dsimp only; rw [h4]
theorem el_0 (h:X5 sp0 D=some (a,s,m,sp,c,r1)):elE 0 sp0 D=.error 71:=by unfold elE; rw [h]
theorem el_c (h:X5 sp0 D=some (a,s,m,sp,true,r1)):elE (lv+1) sp0 D=.ok (.mk s a.name m [] [],r1):=by unfold elE; rw [h]; rfl
theorem el_n (h:X5 sp0 D=some (a,s,m,sp,false,r1)):elE (lv+1) sp0 D=match X0 (elE lv sp) (r1.length+1) [] r1 with
    | .error e=>.error e
    | .ok (ks,r2)=>match endE a r2 with
      | none=>.error 70
      | some r3=>.ok (.mk s a.name m ks [],r3):=by
  conv=>lhs; unfold elE; rw [h]
  rfl
end
theorem ct_end {el:List UInt8→EX} {n:Nat} {ks:List XN} {l:List UInt8} {i:Nat} (h:[60,47].isPrefixOf (l.drop i)=true):X0 el (n+1) ks (l.drop i)=.ok (ks,l.drop (i+2)):=by rw [X0,if_pos h,List.drop_drop]
theorem ct_err {el:List UInt8→EX} {n:Nat} {ks:List XN} {D:List UInt8} {e:Int} (h:[60,47].isPrefixOf D=false) (h2:N1 el ks D=.error e):X0 el (n+1) ks D=.error e:=by rw [X0,if_neg (by rw [h]; decide),h2]
theorem ct_go {el:List UInt8→EX} {n:Nat} {ks ks2:List XN} {D r:List UInt8} (h:[60,47].isPrefixOf D=false) (h2:N1 el ks D=.ok (ks2,r)):X0 el (n+1) ks D=X0 el n ks2 r:=by rw [X0,if_neg (by rw [h]; decide),h2]
theorem en_q {a:QN} {D:List UInt8} (h:G4 D=none):endE a D=none:=by unfold endE; rw [h]
theorem en_ne {a b:QN} {D r:List UInt8} (h:G4 D=some (b,r)) (h2:b≠a):endE a D=none:=by unfold endE; rw [h]; exact if_pos h2
theorem en_no {a:QN} {D:List UInt8} {l:List UInt8} {y z:Nat} (h:G4 D=some (a,l.drop y)) (hb:l.drop z=blk (l.drop y)) (h2:[62].isPrefixOf (l.drop z)=false):endE a D=none:=by
 unfold endE; rw [h]; dsimp only; rw [if_neg (fun h=>h rfl),← hb]; unfold O9; rw [if_neg (by rw [h2]; decide)]
theorem en_yes {a:QN} {D:List UInt8} {l:List UInt8} {y z:Nat} (h:G4 D=some (a,l.drop y)) (hb:l.drop z=blk (l.drop y)) (h2:[62].isPrefixOf (l.drop z)=true):endE a D=some (l.drop (z+1)):=by
 unfold endE; rw [h]; dsimp only; rw [if_neg (fun h=>h rfl),← hb]; unfold O9; rw [if_pos h2,List.drop_drop]; rfl
end Go.Xml
namespace Go.Proofs.YtcgmnagcgkhogaaGreatDoor
open Go.Sw Go.Sha Go.Esc Go.RowKit Go.Json Go.Xml
theorem mk_ne (b a:QN):(!(((bk b.pre).toList==(bk a.pre).toList)&&(((bk b.name).toList==(bk a.name).toList)&&((eB.toList==eB.toList)&&((b.has==a.has)&&true)))))=decide (b≠a):=by
 obtain ⟨p,n,k⟩:=b
 obtain ⟨p2,n2,k2⟩:=a
 rw [bkB,bkB,Bool.eq_iff_iff]
 simp
def pxA (a:AT):List UInt8:=if a.q.has then a.q.name else []
theorem decl_px {a:AT} (h:(M0 a).isSome=true):M0 a=some (pxA a):=by
 rcases decl_is.1 h with ⟨h1,h2⟩ | ⟨h1,h2⟩
 rw [decl_pre h1 h2]; unfold pxA; rw [if_pos h1]
 rw [decl_own h1 h2]; unfold pxA; rw [if_neg (by rw [h1]; decide)]
theorem px_yes {a:AT} (h:a.q.has=true):pxA a=a.q.name:=if_pos h
theorem px_no {a:AT} (h:a.q.has=false):pxA a=[]:=if_neg (by rw [h]; decide)
theorem as_yes {sp:SPX} {a:AT} (h:a.q.has=true):asX sp a=(K7 sp a.q.pre).getD []:=if_pos h
theorem as_no {sp:SPX} {a:AT} (h:a.q.has=false):asX sp a=[]:=if_neg (by rw [h]; decide)
theorem own_cap {e:TypeId} {z:Nat} {a:Option Addr} {n c m:Nat} {g:Grp} {cs:List Value} (h:Go.Sw.Own e z (.slice a n c) g m cs):m≤c:=by
 obtain ⟨_,_,h1,h2,_⟩:=h.shape
 injection h1 with _ _ h3
 omega
theorem rTfindN_ (sp:SPX) (n:Nat) (hn:n=sp.length) (a:Option Addr) (c:Nat) (S:Nat→Obj→Prop) (hrd:Rd S a (spV sp)) (hsl:sp.length≤1000000000) (p:List UInt8) (W0:World) (H:List Grp) (hS:∀ y o,S y o→At W0 H y o):Tri Tryz.prog 48 #[.slice a n c,.string (bk p)] W0 H (fun v H'=>v=.tuple #[.string (bk ((K7 sp p).getD [])),.bool (K7 sp p).isSome]∧H'=H):=by
 subst hn; exact rTfind_ sp a c S hrd hsl p W0 H hS
theorem q_eq {x y:QN} (h:(((y.has==x.has)&&((bk y.pre).toList==(bk x.pre).toList))&&((bk y.name).toList==(bk x.name).toList))=true):y=x:=by
 obtain ⟨p,n,k⟩:=x
 obtain ⟨p2,n2,k2⟩:=y
 rw [bkB,bkB] at h
 simp at h
 rw [h.1.1,h.1.2,h.2]
theorem q_ne {x y:QN} (h:(((y.has==x.has)&&((bk y.pre).toList==(bk x.pre).toList))&&((bk y.name).toList==(bk x.name).toList))=false):y≠x:=by
 rintro rfl
 rw [bkB,bkB] at h
 simp at h
theorem a_eq {s n:List UInt8} {y:XA}:(((bk s).toList==(bk y.space).toList)&&((bk n).toList==(bk y.name).toList))=(y.space==s&&y.name==n):=by
 rw [bkB,bkB,Bool.eq_iff_iff]
 simp only [Bool.and_eq_true,beq_iff_eq]
 exact ⟨fun h=>⟨h.1.symm,h.2.symm⟩,fun h=>⟨h.1.symm,h.2.symm⟩⟩
theorem q_roads {D r:List UInt8} {q:QN} (a:QN) (h:∀ x,G4 D=some x→x=(q,r)):G4 D=none∨(G4 D=some (q,r)∧q≠a)∨(G4 D=some (q,r)∧q=a):=by
  cases hq:G4 D with
  | none=>exact .inl rfl
  | some x =>
    rw [h x hq]
    by_cases he:q=a
    exact .inr (.inr ⟨rfl,he⟩)
    exact .inr (.inl ⟨rfl,he⟩)
theorem ne_snoc {ats:List AT} {j:Nat} {q:QN} {y:AT} (hj:j<ats.length) (hy:y=ats[j]) (h:∀ o∈ats.take j,o.q≠q) (hn:y.q≠q):∀ o∈ats.take (j+1),o.q≠q:=fun o ho=>by
 rw [take_at hj,← hy] at ho
 rcases List.mem_append.1 ho with ho | ho
 exact h o ho
 rw [List.mem_singleton.1 ho]; exact hn
theorem all_snoc {out:List XA} {j:Nat} {f:XA→Bool} {y:XA} (hj:j<out.length) (hy:y=out[j]) (h:∀ o∈out.take j,f o=false) (hn:f y=false):∀ o∈out.take (j+1),f o=false:=fun o ho=>by
 rw [take_at hj,← hy] at ho
 rcases List.mem_append.1 ho with ho | ho
 exact h o ho
 rw [List.mem_singleton.1 ho]; exact hn
theorem mem_tk {ats:List AT} {j k:Nat} {y:AT} (hj:j<ats.length) (hk:j<k) (hy:y=ats[j]):y∈ats.take k:=by
 rw [hy]; exact List.mem_iff_getElem.2 ⟨j,by rw [List.length_take]; omega,List.getElem_take⟩
theorem rd_noneS {S:Nat→Obj→Prop} {a:Option Addr} {sp:SPX} (h:Rd S a (spV sp)) (ha:a=none):sp.length=0:=by
 subst ha
 rcases h with h | ⟨b,off,c,e,fz,h1,_⟩
 have:=congrArg List.length h
 rw [spV_len] at this
 simp only [List.length_nil] at this
 omega
 cases h1
theorem cutA_0t (a:Option Addr) (cap sz:Nat):cutA a cap 0 sz=a:=by
 unfold cutA
 split
 rfl
 cases a with
 | none=>rfl
 | some a=>simp [Addr.add]
theorem spV_one:∀ sp:SPX,∀ u∈spV sp,u.oneCell'=true
  | [],_,h=>absurd h List.not_mem_nil
  | x::r,u,h=>by
    rcases List.mem_append.1 h with h | h
    exact spV_one r u h
    simp only [spC,List.mem_cons,List.not_mem_nil,or_false] at h; rcases h with rfl | rfl <;> rfl
theorem rTelW_ (lv:Nat) (d:Int) (hd:d=24 - (lv:Int)) (hlv:lv≤24) (t:Nat) (l:List UInt8) (hl:l.length≤1000000) (hel:∀ (n:Nat),lv=n+1→∀ (i:Nat),i≤l.length→∀ (sp:SPX) (sa:Option Addr) (sn sc:Nat) (S:Nat→Obj→Prop),sn=sp.length→Rd S sa (spV sp)→sp.length+n * 1000001≤30000000→∀ (W0:World) (H:List Grp),(∀ y o,S y o→At W0 H y o)→Tri Tryz.prog 23 #[pt t,.int .i64 (d+1),.slice sa sn sc] W0 (Y2 t l (i:Int)::H) (fun v H2=>(∃ k j c g,(elE n sp) (l.drop i)=.ok (k,l.drop j)∧i≤j∧j≤l.length∧k.text=[]∧XRep 59 27 k c g∧v=.tuple #[.agg c.toArray,.int .i64 0]∧H2=Y2 t l (j:Int)::g::H)∨(∃ e z,(elE n sp) (l.drop i)=.error e∧e≠0∧z≤l.length∧v=.tuple #[.agg zN.toArray,.int .i64 e]∧H2=Y2 t l ((z:Nat):Int)::H))) (i:Nat) (hi:i≤l.length) (sp:SPX) (sa:Option Addr) (sn sc:Nat) (S:Nat→Obj→Prop) (hsn0:sn=sp.length) (hrd:Rd S sa (spV sp)) (hsl:sp.length+lv * 1000001≤30000000) (W0:World) (H:List Grp) (hS:∀ y o,S y o→At W0 H y o):Tri Tryz.prog 23 #[pt t,.int .i64 d,.slice sa sp.length sc] W0 ([(t,.cells #[.string (bk l),.int .i64 ((i:Nat):Int)] 53 (0,0))]::H) (fun v H2=>(∃ k j c g,(elE lv sp) (l.drop i)=.ok (k,l.drop j)∧i≤j∧j≤l.length∧k.text=[]∧XRep 59 27 k c g∧v=.tuple #[.agg c.toArray,.int .i64 0]∧H2=Y2 t l (j:Int)::g::H)∨(∃ e z,(elE lv sp) (l.drop i)=.error e∧e≠0∧z≤l.length∧v=.tuple #[.agg zN.toArray,.int .i64 e]∧H2=Y2 t l ((z:Nat):Int)::H)):=by
 have hbz:=D0 l
 refine D5 253 Tryz.func23 ?_
 refine A1 (A2 (J0 (.agg zN.toArray) (fun b1=>A5 [0] [0,1,2,6] (k:=A0 (A1 (A2 (A3 (j:=1) [0] (k:=M1 0 [1] ?_))))))))
 refine D9 Tryz.func46 (rTmark_ t l i hl (by omega) _ _) ?_
 rintro _ _ ⟨q2,z2,hq2g,hq2l,rfl,hq2,rfl⟩
 have hqv:=hq2
 refine A3 (j:=5) [0,0,0] (k:=J0 (.agg #[.string eB,.string eB,.string eB,.bool false]) (fun b3=>C9 0 0 (.agg #[.string (bk q2.pre),.string (bk q2.name),.string eB,.bool q2.has]) rfl (A5 [0] [0,1,2,6,8,9] (k:=A0 (A1 (A1 (G_p [0,0] [0,1,2,6,8,35] (k:=A0 ?_))))))))
 refine B1 (b:=!((G4 (l.drop i)).isSome)) kr (fun hc4=>?_) (fun hc4=>?_)
 have hE:=el_q (lv:=lv) (sp0:=sp) (show G4 (l.drop i)=none by have h9:=hc4; rw [Bool.not_eq_true'] at h9; rwa [Option.isSome_eq_false_iff,Option.isNone_iff_eq_none] at h9)
 refine A1 (A2 (A3 (j:=1) [0] (k:=C9 2 0 (.agg zN.toArray) rfl (C0 (E':=[⟨6,[],pt b1⟩,⟨7,[],.int .i64 70⟩]) [0] [6,7] (k:=A0 (B4 (A4 (P2 1 [1,1] ([(t,.cells #[.string (bk l),.int .i64 ((z2:Nat):Int)] 53 (0,0))]::[(b1,.cells zN.toArray 27 (0,0))]::H) ?_))))))))
 refine F3 (H':=([(t,.cells #[.string (bk l),.int .i64 ((z2:Nat):Int)] 53 (0,0))]::[(b1,.cells zN.toArray 27 (0,0))]::H)) (fun w h=>Sat.flat h (List.Perm.of_eq (by simp []))) (J6 [.cell 6 27,.tmp 7] [.agg zN.toArray,.int .i64 70] rfl (.cons (.aq 1 0 rfl) (.cons .tq (.nil))) rfl ⟨_,?_,fun w h=>(h.pk 1 [0])⟩)
 exact .inr ⟨_,_,hE,by first | decide | exact heP,by omega,rfl,rfl⟩
 ·
  have hqn:=mark_some (by have h9:=hc4; rwa [Bool.not_eq_false'] at h9) hqv
  refine A7 (A0 (A1 (A2 (A3 (j:=1) [0] (k:=M1 0 [1] (D9 Tryz.func47 (rTtag_ t l z2 hl (by omega) _ _) ?_))))))
  rintro _ _ ⟨zT,hzTg,hzT,(⟨ats,cl,ta,tc,tg,htg,rfl,hTA,hatl,rfl⟩ | ⟨htg,rfl,rfl⟩)⟩
  ·
   have htc:=own_cap hTA
   have hqa:=tgQ_ok (fun a h=>absurd h List.not_mem_nil) htg
   refine A5 [0,0,0,0,0,0,0] [0,1,2,6,8,9,10,11] (k:=A0 (A1 (A1 (G_p [0,0] [0,1,2,6,8,10,11,44] (k:=A0 (C5 kr (A7 (A0 ?_))))))))
   refine A1 (A2 (G8 56 0 [] (fun b5=>A3 (j:=2) [0] (k:=X4 (i:=2) (ch:=[]) (t:=57) (tx:=57) (e:=56) (inf:=Tryz.t56) (s:=.slice (some ⟨b5,0,none⟩) 0 0) (x:=.slice sa sp.length sc) (n:=0) (m:=sp.length) (j:=0) (cs:=[]) (news:=(spV sp)) (g:=[(b5,.cells #[] 56 (0,0))]) (S:=S) rfl rfl rfl rfl kr kr kr rfl rfl (.inl ⟨56,kr⟩) (fun ⟨_,h⟩=>by cases h) (fun _=>⟨56,kr⟩) kr kr kr rfl (Go.Sw.Own.lit rfl) (SrcOf.slice _ _ _ _ hrd (rd_noneS hrd)) (fun y o h=>At.cons (At.cons (At.cons (At.cons (At.cons (hS y o h)))))) (by rw [spV_len]; rfl) (spV_one _) (by omega) (by show (0+sp.length) * 32≤140737488355328; omega) (fun v6 g7 hO8=>?_)))))
   obtain ⟨a9,cap10,rfl,hcap11,hrd12⟩:=hO8.shape
   refine A5 [0] [0,1,6,8,10,11,12] (k:=A0 (A1 (A1 (G_p [0,0,0] [0,1,6,8,10,11,12,49,50,51] (k:=A0 (B3 (I5 (EI:=(fun ξ:Nat × List (List UInt8) × SPX × Nat × Option Addr × Nat × Grp=>[⟨0,[],pt t⟩,⟨1,[],.int .i64 d⟩,⟨6,[],pt b1⟩,⟨8,[],pt b3⟩,⟨10,[],.slice ta ats.length tc⟩,⟨11,[],.bool cl⟩,⟨12,[],.slice ξ.2.2.2.2.1 ξ.2.2.2.1 ξ.2.2.2.2.2.1⟩,⟨49,[],.slice ta ats.length tc⟩,⟨50,[],.int .i64 ((ats.length:Nat):Int)⟩,⟨51,[],.int .i64 ((ξ.1:Nat):Int)⟩])) (HI:=(fun ξ:Nat × List (List UInt8) × SPX × Nat × Option Addr × Nat × Grp=>(ξ.2.2.2.2.2.2::[(t,.cells #[.string (bk l),.int .i64 ((zT:Nat):Int)] 53 (0,0))]::tg::[(b3,.cells #[.string (bk q2.pre),.string (bk q2.name),.string eB,.bool q2.has] 85 (0,0))]::[(b1,.cells zN.toArray 27 (0,0))]::H))) (Φ:=(fun ξ:Nat × List (List UInt8) × SPX × Nat × Option Addr × Nat × Grp=>(ξ.1≤ats.length)∧(spE ats [] sp=spE (ats.drop ξ.1) ξ.2.1 ξ.2.2.1)∧(SeenAt ats ξ.1 ξ.2.1)∧(Go.Sw.Own 56 2 (.slice ξ.2.2.2.2.1 ξ.2.2.2.1 ξ.2.2.2.2.2.1) ξ.2.2.2.2.2.2 ξ.2.2.2.1 (spV ξ.2.2.1))∧(ξ.2.2.2.1=ξ.2.2.1.length)∧(ξ.2.2.2.1≤sp.length+ξ.1))) (μ:=(fun ξ:Nat × List (List UInt8) × SPX × Nat × Option Addr × Nat × Grp=>ats.length - ξ.1)) (s0:=(0,[],sp,(0+sp.length),a9,cap10,g7)) [0,1,6,8,10,11,12,49,50,51] kr kr ⟨(Nat.zero_le _),rfl,(seen_0 _),hO8,(Nat.zero_add _),(by dsimp only; omega)⟩ ?_)))))))
   rintro ⟨k,seen,spk,nn,na,nc,ng⟩ ⟨hkl,hT,hsn,hNO,hns,hnk⟩
   dsimp only at hkl hT hsn hNO hns hnk
   refine A1 (G_p [0] [0,1,6,8,10,11,12,49,50,51,52] (k:=A0 (A1 (B1 (b:=decide (((k:Nat):Int)<((ats.length:Nat):Int))) kr (fun hc13=>?_) (fun hc13=>?_)))))
   ·
    have hk:k<ats.length:=by have:=hc13; simp only [decide_eq_true_eq] at this; omega
    refine A7 (A0 (A1 (B3 (A1 (A2 (A3 (j:=1) [0] (k:=E4 (a:=ta) (S:=(inG tg)) (cs:=(atV ats)) ats.length ((k:Nat):Int) 4 (E8 hTA) (by exact ⟨by omega,by omega,by intro h; have h2:=congrArg List.length h; rw [atV_len] at h2; simp only [List.length_nil] at h2; omega⟩) ?_)))))))
    obtain ⟨x,hx⟩:∃ x,x=ats[k]'hk:=⟨_,rfl⟩
    have hxm:x∈ats:=by rw [hx]; exact List.getElem_mem hk
    refine J8 (ch:=[]) (a:=ta) (q:=k * 4) (S:=(inG tg)) (cs:=(atV ats)) (l:=[.string (bk x.q.pre),.string (bk x.q.name),.string (bk x.value),.bool x.q.has]) (hrd:=E8 hTA) (hS:=E0 2 rfl) (hl:=List.cons_ne_nil _ _) (hv:=(fun _=>(elt4 (by rw [hx]; exact atV_at hk)))) (k:=J0 (.agg #[.string eB,.string eB,.string eB,.bool false]) (fun b14=>A3 (j:=5) [0] (k:=C9 0 0 (.agg #[.string (bk x.q.pre),.string (bk x.q.name),.string (bk x.value),.bool x.q.has]) rfl (A5 [] [0,1,6,8,10,11,12,13,14,49,50,51] (k:=A0 (A1 (A2 (A3 (j:=1) [0] (k:=?_)))))))))
    refine C1 0 3 rfl rfl (A3 (j:=4) [0,0] (k:=C2 (ch:=[(58,true)]) (b:=b14) (off:=0) (v:=.string (bk x.q.pre)) (hA:=At.grp 0 0 rfl rfl) (k:=A3 (j:=9) [0,6,0,0] (k:=C2 (ch:=[(63,false)]) (b:=b14) (off:=3) (v:=.bool x.q.has) (hA:=At.grp 0 0 rfl rfl) (k:=A3 (j:=13) [0,0,0] (k:=C2 (ch:=[(67,true),(63,false)]) (b:=b14) (off:=1) (v:=.string (bk x.q.name)) (hA:=At.grp 0 0 rfl rfl) (k:=A5 [0,6,5] [0,1,6,8,10,11,12,13,14,49,50,51,72] (k:=A0 ?_))))))))
    refine B1 (b:=(x.q.has&&((bk x.q.pre).toList==aH.toList))||((!x.q.has)&&((bk x.q.name).toList==aH.toList))) kr (fun hc15=>?_) (fun hc15=>?_)
    ·
     have hd:(M0 x).isSome=true:=decl_is.2 (by have h:=hc15; simp only [Bool.or_eq_true,Bool.and_eq_true,Bool.not_eq_true'] at h; exact h.imp (fun h=>⟨h.1,(eqB _ _).1 h.2⟩) (fun h=>⟨h.1,(eqB _ _).1 h.2⟩))
     have hdp:=decl_px hd
     refine A1 (A1 (A2 (A3 (j:=2) [0,0] (k:=GL_sliceL (ch:=[]) (a:=ta) (len:=ats.length) (cap:=tc) (e:=85) (sz:=4) (vl:=none) (vh:=(some (.int .i64 ((k:Nat):Int)))) (l:=0) (h:=((k:Nat):Int)) (hb:=(by (try intro _); (repeat' apply And.intro) <;> omega)) (k:=E3 75 (x:=.slice (cutA ta tc 0 4) (k - 0) (tc - 0)) (y:=.slice ta k tc) (by rw [cutA_0t]; rfl) (A5 [0,0] [0,1,6,8,10,11,12,14,49,50,51,75,76,77] (k:=A0 (B3 ?_))))))))
     refine I5 (EI:=(fun ξ:Nat=>[⟨0,[],pt t⟩,⟨1,[],.int .i64 d⟩,⟨6,[],pt b1⟩,⟨8,[],pt b3⟩,⟨10,[],.slice ta ats.length tc⟩,⟨11,[],.bool cl⟩,⟨12,[],.slice na nn nc⟩,⟨14,[],pt b14⟩,⟨49,[],.slice ta ats.length tc⟩,⟨50,[],.int .i64 ((ats.length:Nat):Int)⟩,⟨51,[],.int .i64 ((k:Nat):Int)⟩,⟨75,[],.slice ta k tc⟩,⟨76,[],.int .i64 ((k:Nat):Int)⟩,⟨77,[],.int .i64 ((ξ:Nat):Int)⟩])) (HI:=(fun ξ:Nat=>([(b14,.cells #[.string (bk x.q.pre),.string (bk x.q.name),.string (bk x.value),.bool x.q.has] 85 (0,0))]::ng::[(t,.cells #[.string (bk l),.int .i64 ((zT:Nat):Int)] 53 (0,0))]::tg::[(b3,.cells #[.string (bk q2.pre),.string (bk q2.name),.string eB,.bool q2.has] 85 (0,0))]::[(b1,.cells zN.toArray 27 (0,0))]::H))) (Φ:=(fun ξ:Nat=>(ξ≤k)∧(∀ o∈ats.take ξ,o.q≠x.q))) (μ:=(fun ξ:Nat=>k - ξ)) (s0:=(0)) [0,1,6,8,10,11,12,14,49,50,51,75,76,77] kr kr ⟨(Nat.zero_le _),(fun o h=>absurd h (by rw [List.take_zero]; exact List.not_mem_nil))⟩ ?_
     rintro j ⟨hjk,hno⟩
     try dsimp only at hjk hno
     refine A1 (G_p [0] [0,1,6,8,10,11,12,14,49,50,51,75,76,77,78] (k:=A0 (A1 (B1 (b:=decide (((j:Nat):Int)<((k:Nat):Int))) kr (fun hc16=>?_) (fun hc16=>?_)))))
     have hjk2:j<k:=by have:=hc16; simp only [decide_eq_true_eq] at this; omega
     have hj2:j<ats.length:=by omega
     refine A7 (A0 (A1 (B3 (A1 (A2 (E4 (a:=ta) (S:=(inG tg)) (cs:=(atV ats)) k ((j:Nat):Int) 4 (E8 hTA) (by exact ⟨by omega,by omega,by intro h; have h2:=congrArg List.length h; rw [atV_len] at h2; simp only [List.length_nil] at h2; omega⟩) ?_))))))
     obtain ⟨y,hy⟩:∃ y,y=ats[j]'hj2:=⟨_,rfl⟩
     refine J8 (ch:=[]) (a:=ta) (q:=j * 4) (S:=(inG tg)) (cs:=(atV ats)) (l:=[.string (bk y.q.pre),.string (bk y.q.name),.string (bk y.value),.bool y.q.has]) (hrd:=E8 hTA) (hS:=E0 3 rfl) (hl:=List.cons_ne_nil _ _) (hv:=(fun _=>(elt4 (by rw [hy]; exact atV_at hj2)))) (k:=J0 (.agg #[.string eB,.string eB,.string eB,.bool false]) (fun b17=>C9 0 0 (.agg #[.string (bk y.q.pre),.string (bk y.q.name),.string (bk y.value),.bool y.q.has]) rfl (A5 [] [0,1,6,8,10,11,12,14,16,49,50,51,75,76,77] (k:=A0 (A1 (A2 (A3 (j:=1) [0] (k:=C1 0 3 rfl rfl ?_))))))))
     refine A3 (j:=3) [0] (k:=C1 1 3 rfl rfl (A3 (j:=7) [0,0,0] (k:=C2 (ch:=[(86,true)]) (b:=b17) (off:=0) (v:=.string (bk y.q.pre)) (hA:=At.grp 0 0 rfl rfl) (k:=A3 (j:=9) [0] (k:=C2 (ch:=[(86,true)]) (b:=b14) (off:=0) (v:=.string (bk x.q.pre)) (hA:=At.grp 1 0 rfl rfl) (k:=A3 (j:=14) [0,6,0,0] (k:=C2 (ch:=[(93,true)]) (b:=b17) (off:=1) (v:=.string (bk y.q.name)) (hA:=At.grp 0 0 rfl rfl) (k:=A3 (j:=16) [0] (k:=?_)))))))))
     refine C2 (ch:=[(93,true)]) (b:=b14) (off:=1) (v:=.string (bk x.q.name)) (hA:=At.grp 1 0 rfl rfl) (k:=A5 [0,6] [0,1,6,8,10,11,12,14,49,50,51,75,76,77,99] (k:=A0 (B1 (b:=((y.q.has==x.q.has)&&((bk y.q.pre).toList==(bk x.q.pre).toList))&&((bk y.q.name).toList==(bk x.q.name).toList)) kr (fun hc18=>?_) (fun hc18=>?_))))
     have hqe:=q_eq hc18
     have hE:=el_s (lv:=lv) hqn htg (show spE ats [] sp=none by rw [hT,drop_cons hk,← hx,spE_dup hdp (seen_dup hsn hdp (mem_tk hj2 hjk2 hy) hqe)])
     refine A1 (A2 (A3 (j:=1) [0] (k:=C9 6 0 (.agg zN.toArray) rfl (C0 (E':=[⟨6,[],pt b1⟩,⟨7,[],.int .i64 70⟩]) [0] [6,7] (k:=A0 (B4 (B0 (A4 ?_))))))))
     refine A4 (B0 (A4 (B0 (A4 (A4 (B0 (A4 (P2 5 [3,5] ([(t,.cells #[.string (bk l),.int .i64 ((zT:Nat):Int)] 53 (0,0))]::[(b1,.cells zN.toArray 27 (0,0))]::H) ?_))))))))
     refine F3 (H':=([(t,.cells #[.string (bk l),.int .i64 ((zT:Nat):Int)] 53 (0,0))]::[(b1,.cells zN.toArray 27 (0,0))]::H)) (fun w h=>Sat.flat h (List.Perm.of_eq (by simp []))) (J6 [.cell 6 27,.tmp 7] [.agg zN.toArray,.int .i64 70] rfl (.cons (.aq 1 0 rfl) (.cons .tq (.nil))) rfl ⟨_,?_,fun w h=>(h.pk 1 [0])⟩)
     exact .inr ⟨_,_,hE,by first | decide | exact heP,by omega,rfl,rfl⟩
     have hne:y.q≠x.q:=q_ne hc18
     refine A7 (B8 (A0 (A2 (A3 (j:=1) [0] (k:=D1 101 (((j:Nat):Int)+1) (by omega) (by omega) kr (A5 [0] [0,1,6,8,10,11,12,14,49,50,51,75,76,77] (k:=F8 1 [1,1,1,1,1,1] (D2 (s':=(j+1)) [0,1,6,8,10,11,12,14,49,50,51,75,76,77] kr kr ⟨(by omega),(ne_snoc hj2 hy hno hne)⟩ (by omega)))))))))
     have hjk2:j=k:=by have:=hc16; simp only [decide_eq_false_iff_not] at this; omega
     rw [hjk2] at hno
     have hnew:=seen_new hqa hxm hsn hdp hno
     refine E7 (A6 (A6 (B6 (A0 (A1 (A1 (A2 (A3 (j:=1) [0] (k:=?_)))))))))
     refine C1 0 3 rfl rfl (A3 (j:=4) [0,0] (k:=C2 (ch:=[(104,true)]) (b:=b14) (off:=2) (v:=.string (bk x.value)) (hA:=At.grp 0 0 rfl rfl) (k:=A5 [0,6] [0,1,6,8,10,11,12,14,49,50,51,108] (k:=A0 (B1 (b:=x.q.has&&((bk x.value).toList==eB.toList)) kr (fun hc20=>?_) (fun hc20=>?_))))))
     have h9:=hc20
     simp only [Bool.and_eq_true] at h9
     have hE:=el_s (lv:=lv) hqn htg (show spE ats [] sp=none by rw [hT,drop_cons hk,← hx,spE_nil hdp h9.1 ((eqB _ _).1 h9.2)])
     refine A1 (A2 (A3 (j:=1) [0] (k:=C9 5 0 (.agg zN.toArray) rfl (C0 (E':=[⟨6,[],pt b1⟩,⟨7,[],.int .i64 70⟩]) [0] [6,7] (k:=A0 (B4 (A4 (B0 ?_))))))))
     refine A4 (A4 (B0 (A4 (P2 4 [2,4] ([(t,.cells #[.string (bk l),.int .i64 ((zT:Nat):Int)] 53 (0,0))]::[(b1,.cells zN.toArray 27 (0,0))]::H) (F3 (H':=([(t,.cells #[.string (bk l),.int .i64 ((zT:Nat):Int)] 53 (0,0))]::[(b1,.cells zN.toArray 27 (0,0))]::H)) (fun w h=>Sat.flat h (List.Perm.of_eq (by simp []))) (J6 [.cell 6 27,.tmp 7] [.agg zN.toArray,.int .i64 70] rfl (.cons (.aq 1 0 rfl) (.cons .tq (.nil))) rfl ⟨_,?_,fun w h=>(h.pk 1 [0])⟩))))))
     exact .inr ⟨_,_,hE,by first | decide | exact heP,by omega,rfl,rfl⟩
     have hv0:¬ (x.q.has=true∧x.value=[]):=fun h9=>by have h8:=hc20; rw [h9.1,show ((bk x.value).toList==eB.toList)=true from (eqB _ _).2 h9.2] at h8; simp at h8
     refine A7 (A0 (A1 (A2 (A3 (j:=1) [0] (k:=C1 0 3 rfl rfl (A5 [] [0,1,6,8,10,11,12,14,49,50,51,111] (k:=A0 (B1 (b:=x.q.has) kr (fun hc21=>?_) (fun hc21=>?_)))))))))
     have hpx:=px_yes hc21
     refine A2 (A3 (j:=2) [0,0] (k:=C1 0 1 rfl rfl (A3 (j:=4) [0] (k:=C1 0 2 rfl rfl (A3 (j:=6) [0] (k:=G8 56 1 [.string (bk x.q.name),.string (bk x.value)] (fun b22=>L8 (inf:=Tryz.t56) 1 0 2 rfl rfl hNO (by omega) (by show (nn+1) * 32≤140737488355328; omega) (fun v23 g24 hO25=>?_))))))))
     obtain ⟨a26,cap27,rfl,hcap28,hrd29⟩:=hO25.shape
     refine A5 [0] [0,1,6,8,10,11,12,49,50,51] (k:=B8 (A0 (A2 (A3 (j:=1) [0] (k:=D1 126 (((k:Nat):Int)+1) (by omega) (by omega) kr (A5 [0] [0,1,6,8,10,11,12,49,50,51] (k:=F8 2 [2,2,2,2,2] (D2 (s':=((k+1),(pxA x::seen),((pxA x,x.value)::spk),(nn+1),a26,cap27,g24)) [0,1,6,8,10,11,12,49,50,51] kr kr ⟨(by dsimp only; omega),(by dsimp only; rw [hT,drop_cons hk,← hx,spE_go hdp hnew hv0]),(seen_s hk hx hsn hdp),(by dsimp only; rw [hpx]; exact hO25),(by dsimp only; rw [List.length_cons,hns]),(by dsimp only; omega)⟩ (by dsimp only; omega)))))))))
     have hpx:=px_no hc21
     refine A2 (A3 (j:=2) [0,0] (k:=C1 0 2 rfl rfl (A3 (j:=4) [0] (k:=G8 56 1 [.string eB,.string (bk x.value)] (fun b31=>L8 (inf:=Tryz.t56) 1 0 2 rfl rfl hNO (by omega) (by show (nn+1) * 32≤140737488355328; omega) (fun v32 g33 hO34=>?_))))))
     obtain ⟨a35,cap36,rfl,hcap37,hrd38⟩:=hO34.shape
     refine A5 [0] [0,1,6,8,10,11,12,49,50,51] (k:=B8 (A0 (A2 (A3 (j:=1) [0] (k:=D1 126 (((k:Nat):Int)+1) (by omega) (by omega) kr (A5 [0] [0,1,6,8,10,11,12,49,50,51] (k:=F8 2 [2,2,2,2,2] (D2 (s':=((k+1),(pxA x::seen),((pxA x,x.value)::spk),(nn+1),a35,cap36,g33)) [0,1,6,8,10,11,12,49,50,51] kr kr ⟨(by dsimp only; omega),(by dsimp only; rw [hT,drop_cons hk,← hx,spE_go hdp hnew hv0]),(seen_s hk hx hsn hdp),(by dsimp only; rw [hpx]; exact hO34),(by dsimp only; rw [List.length_cons,hns]),(by dsimp only; omega)⟩ (by dsimp only; omega)))))))))
    have hd:(M0 x).isSome=false:=by
     rw [← Bool.not_eq_true,decl_is]
     have h2:=hc15
     rintro (h | h)
     rw [h.1,show ((bk x.q.pre).toList==aH.toList)=true from (eqB _ _).2 h.2] at h2; exact Bool.noConfusion h2
     rw [h.1,show ((bk x.q.name).toList==aH.toList)=true from (eqB _ _).2 h.2] at h2; simp at h2
    have hdn:M0 x=none:=by rwa [Option.isSome_eq_false_iff,Option.isNone_iff_eq_none] at hd
    refine A7 (B8 (A0 (A2 (A3 (j:=1) [0] (k:=D1 126 (((k:Nat):Int)+1) (by omega) (by omega) kr (A5 [0] [0,1,6,8,10,11,12,49,50,51] (k:=F8 1 [1,1,1,1,1] (D2 (s':=((k+1),seen,spk,nn,na,nc,ng)) [0,1,6,8,10,11,12,49,50,51] kr kr ⟨(by dsimp only; omega),(by dsimp only; rw [hT,drop_cons hk,← hx,spE_no hdn]),(seen_no hk hx hsn hdn),hNO,hns,(by dsimp only; omega)⟩ (by dsimp only; omega)))))))))
   ·
    have hk:ats.length≤k:=by have:=hc13; simp only [decide_eq_false_iff_not] at this; omega
    have hsp:spE ats [] sp=some spk:=by rw [hT,List.drop_eq_nil_of_le hk]; rfl
    refine E7 (A6 (A6 (B6 (A0 (A1 (A2 (A3 (j:=1) [0] (k:=C1 3 1 rfl rfl ?_))))))))
    refine A3 (j:=3) [0] (k:=J0 (.agg zN.toArray) (fun b41=>C9 0 0 (.agg #[.string eB,.string (bk q2.name),.slice none 0 0,.slice none 0 0,.string eB]) rfl (A5 [] [0,1,6,8,10,11,12,17] (k:=A0 (A1 (A2 (A3 (j:=2) [0,0] (k:=C1 4 0 rfl rfl ?_))))))))
    refine D9 Tryz.func48 (rTfindN_ spk nn hns na nc (inG ng) (E8 hNO) (by omega) q2.pre _ _ (E0 1 rfl)) ?_
    rintro _ _ ⟨rfl,rfl⟩
    refine A5 [0,0,0,0,0] [0,1,6,8,10,11,12,17,18,19] (k:=A0 (A1 (A1 (A2 (A3 (j:=1) [0] (k:=C1 4 3 rfl rfl (A5 [0,0,0,6] [0,1,6,8,10,11,12,17,18,142] (k:=A0 ?_))))))))
    refine B1 (b:=q2.has&&(!((K7 spk q2.pre).isSome))) kr (fun hc42=>?_) (fun hc42=>?_)
    have h9:=hc42
    simp only [Bool.and_eq_true,Bool.not_eq_true'] at h9
    have hE:=el_p (lv:=lv) hqn htg hsp h9.1 h9.2
    refine A1 (A2 (A3 (j:=1) [0] (k:=C9 5 0 (.agg zN.toArray) rfl (C0 (E':=[⟨6,[],pt b1⟩,⟨7,[],.int .i64 70⟩]) [0] [6,7] (k:=A0 (B4 (A4 (P2 4 [2,4] ([(t,.cells #[.string (bk l),.int .i64 ((zT:Nat):Int)] 53 (0,0))]::[(b1,.cells zN.toArray 27 (0,0))]::H) ?_))))))))
    refine F3 (H':=([(t,.cells #[.string (bk l),.int .i64 ((zT:Nat):Int)] 53 (0,0))]::[(b1,.cells zN.toArray 27 (0,0))]::H)) (fun w h=>Sat.flat h (List.Perm.of_eq (by simp []))) (J6 [.cell 6 27,.tmp 7] [.agg zN.toArray,.int .i64 70] rfl (.cons (.aq 1 0 rfl) (.cons .tq (.nil))) rfl ⟨_,?_,fun w h=>(h.pk 1 [0])⟩)
    exact .inr ⟨_,_,hE,by first | decide | exact heP,by omega,rfl,rfl⟩
    ·
     have hspk:=spE_ok (sp:=spk) (a:=q2) (by rintro ⟨h8,h7⟩; have h9:=hc42; rw [h8,h7] at h9; simp at h9)
     refine A7 (A0 (A1 (A2 (A3 (j:=2) [0,0] (k:=C9 0 0 (.string (bk ((K7 spk q2.pre).getD []))) rfl (A5 [] [0,1,6,8,10,11,12,17] (k:=A0 (A1 ?_))))))))
     refine A1 (G_p [0,0,0] [0,1,6,8,11,12,17,146,147,148] (k:=A0 (B3 (R2 (H':=([]::[(b41,.cells #[.string (bk ((K7 spk q2.pre).getD [])),.string (bk q2.name),.slice none 0 0,.slice none 0 0,.string eB] 27 (0,0))]::ng::[(t,.cells #[.string (bk l),.int .i64 ((zT:Nat):Int)] 53 (0,0))]::tg::[(b3,.cells #[.string (bk q2.pre),.string (bk q2.name),.string eB,.bool q2.has] 85 (0,0))]::[(b1,.cells zN.toArray 27 (0,0))]::H)) (fun w h=>h.flat (List.Perm.refl _)) (I5 (EI:=(fun ξ:Nat × List XA × Nat × Option Addr × Nat × Grp=>[⟨0,[],pt t⟩,⟨1,[],.int .i64 d⟩,⟨6,[],pt b1⟩,⟨8,[],pt b3⟩,⟨11,[],.bool cl⟩,⟨12,[],.slice na nn nc⟩,⟨17,[],pt b41⟩,⟨146,[],.slice ta ats.length tc⟩,⟨147,[],.int .i64 ((ats.length:Nat):Int)⟩,⟨148,[],.int .i64 ((ξ.1:Nat):Int)⟩])) (HI:=(fun ξ:Nat × List XA × Nat × Option Addr × Nat × Grp=>(ξ.2.2.2.2.2::[(b41,.cells #[.string (bk ((K7 spk q2.pre).getD [])),.string (bk q2.name),.slice ξ.2.2.2.1 ξ.2.2.1 ξ.2.2.2.2.1,.slice none 0 0,.string eB] 27 (0,0))]::ng::[(t,.cells #[.string (bk l),.int .i64 ((zT:Nat):Int)] 53 (0,0))]::tg::[(b3,.cells #[.string (bk q2.pre),.string (bk q2.name),.string eB,.bool q2.has] 85 (0,0))]::[(b1,.cells zN.toArray 27 (0,0))]::H))) (Φ:=(fun ξ:Nat × List XA × Nat × Option Addr × Nat × Grp=>(ξ.1≤ats.length)∧(O3 ats [] spk=O3 (ats.drop ξ.1) ξ.2.1 spk)∧(Go.Sw.Own 59 3 (.slice ξ.2.2.2.1 ξ.2.2.1 ξ.2.2.2.2.1) ξ.2.2.2.2.2 ξ.2.2.1 (xaV ξ.2.1))∧(ξ.2.2.1=ξ.2.1.length)∧(ξ.2.2.1≤ξ.1))) (μ:=(fun ξ:Nat × List XA × Nat × Option Addr × Nat × Grp=>ats.length - ξ.1)) (s0:=(0,[],0,none,0,[])) [0,1,6,8,11,12,17,146,147,148] kr kr ⟨(Nat.zero_le _),rfl,Go.Sw.Own.nil,rfl,(Nat.le_refl _)⟩ ?_)))))
     rintro ⟨k,out,no,oa,oc,og⟩ ⟨hkl,hM,hAO,hno,hnk2⟩
     dsimp only at hkl hM hAO hno hnk2
     refine A1 (G_p [0] [0,1,6,8,11,12,17,146,147,148,149] (k:=A0 (A1 (B1 (b:=decide (((k:Nat):Int)<((ats.length:Nat):Int))) kr (fun hc43=>?_) (fun hc43=>?_)))))
     ·
      have hk:k<ats.length:=by have:=hc43; simp only [decide_eq_true_eq] at this; omega
      refine A7 (A0 (A1 (B3 (A1 (A2 (E4 (a:=ta) (S:=(inG tg)) (cs:=(atV ats)) ats.length ((k:Nat):Int) 4 (E8 hTA) (by exact ⟨by omega,by omega,by intro h; have h2:=congrArg List.length h; rw [atV_len] at h2; simp only [List.length_nil] at h2; omega⟩) ?_))))))
      obtain ⟨x,hx⟩:∃ x,x=ats[k]'hk:=⟨_,rfl⟩
      have hxm:x∈ats:=by rw [hx]; exact List.getElem_mem hk
      refine J8 (ch:=[]) (a:=ta) (q:=k * 4) (S:=(inG tg)) (cs:=(atV ats)) (l:=[.string (bk x.q.pre),.string (bk x.q.name),.string (bk x.value),.bool x.q.has]) (hrd:=E8 hTA) (hS:=E0 4 rfl) (hl:=List.cons_ne_nil _ _) (hv:=(fun _=>(elt4 (by rw [hx]; exact atV_at hk)))) (k:=J0 (.agg #[.string eB,.string eB,.string eB,.bool false]) (fun b44=>C9 0 0 (.agg #[.string (bk x.q.pre),.string (bk x.q.name),.string (bk x.value),.bool x.q.has]) rfl (A5 [] [0,1,6,8,11,12,17,21,146,147,148] (k:=A0 (A1 (A1 (A2 (A3 (j:=1) [0] (k:=?_)))))))))
      refine C1 0 3 rfl rfl (A3 (j:=4) [0,0] (k:=C2 (ch:=[(154,true)]) (b:=b44) (off:=0) (v:=.string (bk x.q.pre)) (hA:=At.grp 0 0 rfl rfl) (k:=A3 (j:=9) [0,6,0,0] (k:=C2 (ch:=[(159,false)]) (b:=b44) (off:=3) (v:=.bool x.q.has) (hA:=At.grp 0 0 rfl rfl) (k:=A3 (j:=13) [0,0,0] (k:=C2 (ch:=[(163,true),(159,false)]) (b:=b44) (off:=1) (v:=.string (bk x.q.name)) (hA:=At.grp 0 0 rfl rfl) (k:=A5 [0,6,5] [0,1,6,8,11,12,17,21,146,147,148,168] (k:=A0 ?_))))))))
      refine B1 (b:=(x.q.has&&((bk x.q.pre).toList==aH.toList))||((!x.q.has)&&((bk x.q.name).toList==aH.toList))) kr (fun hc45=>?_) (fun hc45=>?_)
      have hd:(M0 x).isSome=true:=decl_is.2 (by have h:=hc45; simp only [Bool.or_eq_true,Bool.and_eq_true,Bool.not_eq_true'] at h; exact h.imp (fun h=>⟨h.1,(eqB _ _).1 h.2⟩) (fun h=>⟨h.1,(eqB _ _).1 h.2⟩))
      refine E7 (A6 (B6 (A0 (A2 (A3 (j:=1) [0] (k:=D1 215 (((k:Nat):Int)+1) (by omega) (by omega) kr (A5 [0] [0,1,6,8,11,12,17,146,147,148] (k:=F8 1 [1,1,1,1,1,1,1] ?_))))))))
      refine D2 (s':=((k+1),out,no,oa,oc,og)) [0,1,6,8,11,12,17,146,147,148] kr kr ⟨(by dsimp only; omega),(by dsimp only; rw [hM,drop_cons hk,← hx,mkE_skip hd]),hAO,hno,(by dsimp only; omega)⟩ (by dsimp only; omega)
      ·
       have hd:(M0 x).isSome=false:=by
        rw [← Bool.not_eq_true,decl_is]
        have h2:=hc45
        rintro (h | h)
        rw [h.1,show ((bk x.q.pre).toList==aH.toList)=true from (eqB _ _).2 h.2] at h2; exact Bool.noConfusion h2
        rw [h.1,show ((bk x.q.name).toList==aH.toList)=true from (eqB _ _).2 h.2] at h2; simp at h2
       refine A7 (A0 (A1 (A2 (A3 (j:=1) [0] (k:=C1 0 1 rfl rfl (A3 (j:=3) [0] (k:=C1 0 2 rfl rfl (A3 (j:=5) [0] (k:=?_)))))))))
       refine J0 (.agg #[.string eB,.string eB,.string eB]) (fun b47=>C9 0 0 (.agg #[.string eB,.string (bk x.q.name),.string (bk x.value)]) rfl (A5 [] [0,1,6,8,11,12,17,21,22,146,147,148] (k:=A0 (A1 (A1 (A2 (A3 (j:=1) [0] (k:=C1 1 3 rfl rfl ?_))))))))
       refine A5 [] [0,1,6,8,11,12,17,21,22,146,147,148,175] (k:=A0 (G_joinR (T:=Unit) (fun _:Unit=>[⟨0,[],pt t⟩,⟨1,[],.int .i64 d⟩,⟨6,[],pt b1⟩,⟨8,[],pt b3⟩,⟨11,[],.bool cl⟩,⟨12,[],.slice na nn nc⟩,⟨17,[],pt b41⟩,⟨22,[],pt b47⟩,⟨146,[],.slice ta ats.length tc⟩,⟨147,[],.int .i64 ((ats.length:Nat):Int)⟩,⟨148,[],.int .i64 ((k:Nat):Int)⟩]) (fun _:Unit=>([(b47,.cells #[.string (bk (asX spk x)),.string (bk x.q.name),.string (bk x.value)] 59 (0,0))]::[(b44,.cells #[.string (bk x.q.pre),.string (bk x.q.name),.string (bk x.value),.bool x.q.has] 85 (0,0))]::og::[(b41,.cells #[.string (bk ((K7 spk q2.pre).getD [])),.string (bk q2.name),.slice oa no oc,.slice none 0 0,.string eB] 27 (0,0))]::ng::[(t,.cells #[.string (bk l),.int .i64 ((zT:Nat):Int)] 53 (0,0))]::tg::[(b3,.cells #[.string (bk q2.pre),.string (bk q2.name),.string eB,.bool q2.has] 85 (0,0))]::[(b1,.cells zN.toArray 27 (0,0))]::H)) (fun _:Unit=>(x.q.has=true→(K7 spk x.q.pre).isSome=true)) ?_ ?_))
       refine B1 (b:=x.q.has) kr (fun hc48=>?_) (fun hc48=>?_)
       have hhas:=hc48
       refine A1 (A2 (A3 (j:=2) [0,0] (k:=C1 1 0 rfl rfl (D9 Tryz.func48 (rTfindN_ spk nn hns na nc (inG ng) (E8 hNO) (by omega) x.q.pre _ _ (E0 4 rfl)) ?_))))
       rintro _ _ ⟨rfl,rfl⟩
       refine A5 [0,0,0,0,0] [0,1,6,8,11,12,17,22,23,24,146,147,148] (k:=A0 (A1 (A1 (G_p [0,0] [0,1,6,8,11,12,17,22,23,146,147,148,184] (k:=A0 (B1 (b:=!((K7 spk x.q.pre).isSome)) kr (fun hc49=>?_) (fun hc49=>?_)))))))
       have hE:=el_m (lv:=lv) hqn htg hsp hspk (show O3 ats [] spk=none by rw [hM,drop_cons hk,← hx,mkE_bad hd hhas (by have h9:=hc49; rwa [Bool.not_eq_true'] at h9)])
       refine A1 (A2 (A3 (j:=1) [0] (k:=C9 8 0 (.agg zN.toArray) rfl (C0 (E':=[⟨6,[],pt b1⟩,⟨7,[],.int .i64 70⟩]) [0] [6,7] (k:=A0 (B4 (A4 (N_joinRet ?_))))))))
       refine A4 (B0 (A4 (A4 (B0 (A4 (P2 7 [5,7] ([(t,.cells #[.string (bk l),.int .i64 ((zT:Nat):Int)] 53 (0,0))]::[(b1,.cells zN.toArray 27 (0,0))]::H) (F3 (H':=([(t,.cells #[.string (bk l),.int .i64 ((zT:Nat):Int)] 53 (0,0))]::[(b1,.cells zN.toArray 27 (0,0))]::H)) (fun w h=>Sat.flat h (List.Perm.of_eq (by simp []))) (J6 [.cell 6 27,.tmp 7] [.agg zN.toArray,.int .i64 70] rfl (.cons (.aq 1 0 rfl) (.cons .tq (.nil))) rfl ⟨_,?_,fun w h=>(h.pk 1 [0])⟩))))))))
       exact .inr ⟨_,_,hE,by first | decide | exact heP,by omega,rfl,rfl⟩
       have hsx0:x.q.has=true→(K7 spk x.q.pre).isSome=true:=fun _=>by have h9:=hc49; rwa [Bool.not_eq_false'] at h9
       refine A7 (A0 (A2 (A3 (j:=2) [0,0] (k:=C9 0 0 (.string (bk ((K7 spk x.q.pre).getD []))) rfl (A5 [] [0,1,6,8,11,12,17,22,146,147,148] (k:=L7 (E':=[⟨0,[],pt t⟩,⟨1,[],.int .i64 d⟩,⟨6,[],pt b1⟩,⟨8,[],pt b3⟩,⟨11,[],.bool cl⟩,⟨12,[],.slice na nn nc⟩,⟨17,[],pt b41⟩,⟨22,[],pt b47⟩,⟨146,[],.slice ta ats.length tc⟩,⟨147,[],.int .i64 ((ats.length:Nat):Int)⟩,⟨148,[],.int .i64 ((k:Nat):Int)⟩]) kr ?_))))))
       have hq9:=as_yes (sp:=spk) hhas
       refine R5 (H':=([(b47,.cells #[.string (bk ((K7 spk x.q.pre).getD [])),.string (bk x.q.name),.string (bk x.value)] 59 (0,0))]::[(b44,.cells #[.string (bk x.q.pre),.string (bk x.q.name),.string (bk x.value),.bool x.q.has] 85 (0,0))]::og::[(b41,.cells #[.string (bk ((K7 spk q2.pre).getD [])),.string (bk q2.name),.slice oa no oc,.slice none 0 0,.string eB] 27 (0,0))]::ng::[(t,.cells #[.string (bk l),.int .i64 ((zT:Nat):Int)] 53 (0,0))]::tg::[(b3,.cells #[.string (bk q2.pre),.string (bk q2.name),.string eB,.bool q2.has] 85 (0,0))]::[(b1,.cells zN.toArray 27 (0,0))]::H)) kr (R5 (H':=([(b47,.cells #[.string (bk (asX spk x)),.string (bk x.q.name),.string (bk x.value)] 59 (0,0))]::[(b44,.cells #[.string (bk x.q.pre),.string (bk x.q.name),.string (bk x.value),.bool x.q.has] 85 (0,0))]::og::[(b41,.cells #[.string (bk ((K7 spk q2.pre).getD [])),.string (bk q2.name),.slice oa no oc,.slice none 0 0,.string eB] 27 (0,0))]::ng::[(t,.cells #[.string (bk l),.int .i64 ((zT:Nat):Int)] 53 (0,0))]::tg::[(b3,.cells #[.string (bk q2.pre),.string (bk q2.name),.string eB,.bool q2.has] 85 (0,0))]::[(b1,.cells zN.toArray 27 (0,0))]::H)) (by rw [hq9]; try rfl) (N_joinR (()) [0,1,6,8,11,12,17,22,146,147,148] kr (fun w h=>h.pkT 0 []) hsx0))
       have hhas:=hc48
       refine A7 (L7 (E':=[⟨0,[],pt t⟩,⟨1,[],.int .i64 d⟩,⟨6,[],pt b1⟩,⟨8,[],pt b3⟩,⟨11,[],.bool cl⟩,⟨12,[],.slice na nn nc⟩,⟨17,[],pt b41⟩,⟨21,[],pt b44⟩,⟨22,[],pt b47⟩,⟨146,[],.slice ta ats.length tc⟩,⟨147,[],.int .i64 ((ats.length:Nat):Int)⟩,⟨148,[],.int .i64 ((k:Nat):Int)⟩,⟨175,[],.bool x.q.has⟩]) kr ?_)
       have hq9:=as_no (sp:=spk) hhas
       have hsx0:x.q.has=true→(K7 spk x.q.pre).isSome=true:=fun h9=>by rw [hhas] at h9; cases h9
       refine R5 (H':=([(b47,.cells #[.string eB,.string (bk x.q.name),.string (bk x.value)] 59 (0,0))]::[(b44,.cells #[.string (bk x.q.pre),.string (bk x.q.name),.string (bk x.value),.bool x.q.has] 85 (0,0))]::og::[(b41,.cells #[.string (bk ((K7 spk q2.pre).getD [])),.string (bk q2.name),.slice oa no oc,.slice none 0 0,.string eB] 27 (0,0))]::ng::[(t,.cells #[.string (bk l),.int .i64 ((zT:Nat):Int)] 53 (0,0))]::tg::[(b3,.cells #[.string (bk q2.pre),.string (bk q2.name),.string eB,.bool q2.has] 85 (0,0))]::[(b1,.cells zN.toArray 27 (0,0))]::H)) kr (R5 (H':=([(b47,.cells #[.string (bk (asX spk x)),.string (bk x.q.name),.string (bk x.value)] 59 (0,0))]::[(b44,.cells #[.string (bk x.q.pre),.string (bk x.q.name),.string (bk x.value),.bool x.q.has] 85 (0,0))]::og::[(b41,.cells #[.string (bk ((K7 spk q2.pre).getD [])),.string (bk q2.name),.slice oa no oc,.slice none 0 0,.string eB] 27 (0,0))]::ng::[(t,.cells #[.string (bk l),.int .i64 ((zT:Nat):Int)] 53 (0,0))]::tg::[(b3,.cells #[.string (bk q2.pre),.string (bk q2.name),.string eB,.bool q2.has] 85 (0,0))]::[(b1,.cells zN.toArray 27 (0,0))]::H)) (by rw [hq9]; try rfl) (N_joinR (()) [0,1,6,8,11,12,17,22,146,147,148] kr (fun w h=>h.pkT 0 []) hsx0))
       ·
        rintro _ hsx
        refine A0 (A1 (A1 (A2 (A3 (j:=1) [0] (k:=C1 3 2 rfl rfl (A5 [0,0] [0,1,6,8,11,12,17,22,146,147,148,189,190,191] (k:=A0 (B3 ?_))))))))
        refine I5 (EI:=(fun ξ:Nat=>[⟨0,[],pt t⟩,⟨1,[],.int .i64 d⟩,⟨6,[],pt b1⟩,⟨8,[],pt b3⟩,⟨11,[],.bool cl⟩,⟨12,[],.slice na nn nc⟩,⟨17,[],pt b41⟩,⟨22,[],pt b47⟩,⟨146,[],.slice ta ats.length tc⟩,⟨147,[],.int .i64 ((ats.length:Nat):Int)⟩,⟨148,[],.int .i64 ((k:Nat):Int)⟩,⟨189,[],.slice oa no oc⟩,⟨190,[],.int .i64 ((no:Nat):Int)⟩,⟨191,[],.int .i64 ((ξ:Nat):Int)⟩])) (HI:=(fun ξ:Nat=>([(b47,.cells #[.string (bk (asX spk x)),.string (bk x.q.name),.string (bk x.value)] 59 (0,0))]::[(b44,.cells #[.string (bk x.q.pre),.string (bk x.q.name),.string (bk x.value),.bool x.q.has] 85 (0,0))]::og::[(b41,.cells #[.string (bk ((K7 spk q2.pre).getD [])),.string (bk q2.name),.slice oa no oc,.slice none 0 0,.string eB] 27 (0,0))]::ng::[(t,.cells #[.string (bk l),.int .i64 ((zT:Nat):Int)] 53 (0,0))]::tg::[(b3,.cells #[.string (bk q2.pre),.string (bk q2.name),.string eB,.bool q2.has] 85 (0,0))]::[(b1,.cells zN.toArray 27 (0,0))]::H))) (Φ:=(fun ξ:Nat=>(ξ≤out.length)∧(∀ y∈out.take ξ,(y.space==asX spk x&&y.name==x.q.name)=false))) (μ:=(fun ξ:Nat=>out.length - ξ)) (s0:=(0)) [0,1,6,8,11,12,17,22,146,147,148,189,190,191] kr kr ⟨(Nat.zero_le _),(fun o h=>absurd h (by rw [List.take_zero]; exact List.not_mem_nil))⟩ ?_
        rintro j ⟨hjk,hny⟩
        try dsimp only at hjk hny
        refine A1 (G_p [0] [0,1,6,8,11,12,17,22,146,147,148,189,190,191,192] (k:=A0 (A1 (B1 (b:=decide (((j:Nat):Int)<((no:Nat):Int))) kr (fun hc50=>?_) (fun hc50=>?_)))))
        have hj2:j<out.length:=by have:=hc50; simp only [decide_eq_true_eq] at this; omega
        refine A7 (A0 (A1 (B3 (A1 (A2 (E4 (a:=oa) (S:=(inG og)) (cs:=(xaV out)) no ((j:Nat):Int) 3 (E8 hAO) (by exact ⟨by omega,by omega,by intro h; have h2:=congrArg List.length h; rw [Z8] at h2; simp only [List.length_nil] at h2; omega⟩) ?_))))))
        obtain ⟨y,hy⟩:∃ y,y=out[j]'hj2:=⟨_,rfl⟩
        refine J8 (ch:=[]) (a:=oa) (q:=j * 3) (S:=(inG og)) (cs:=(xaV out)) (l:=[.string (bk y.space),.string (bk y.name),.string (bk y.value)]) (hrd:=E8 hAO) (hS:=E0 2 rfl) (hl:=List.cons_ne_nil _ _) (hv:=(fun _=>(elt3 (by rw [hy]; exact xaV_at hj2)))) (k:=J0 (.agg #[.string eB,.string eB,.string eB]) (fun b51=>C9 0 0 (.agg #[.string (bk y.space),.string (bk y.name),.string (bk y.value)]) rfl (A5 [] [0,1,6,8,11,12,17,22,26,146,147,148,189,190,191] (k:=A0 (A1 (A2 (A3 (j:=1) [0] (k:=C1 1 0 rfl rfl ?_))))))))
        refine A3 (j:=3) [0] (k:=C1 0 0 rfl rfl (A3 (j:=7) [0,0,0] (k:=C2 (ch:=[(200,true)]) (b:=b47) (off:=1) (v:=.string (bk x.q.name)) (hA:=At.grp 1 0 rfl rfl) (k:=A3 (j:=9) [0] (k:=C2 (ch:=[(200,true)]) (b:=b51) (off:=1) (v:=.string (bk y.name)) (hA:=At.grp 0 0 rfl rfl) (k:=A5 [0,6] [0,1,6,8,11,12,17,22,146,147,148,189,190,191,206] (k:=A0 (B1 (b:=((bk (asX spk x)).toList==(bk y.space).toList)&&((bk x.q.name).toList==(bk y.name).toList)) kr (fun hc52=>?_) (fun hc52=>?_)))))))))
        have hE:=el_m (lv:=lv) hqn htg hsp hspk (show O3 ats [] spk=none by rw [hM,drop_cons hk,← hx,mkE_go hd hsx,if_pos (any_yes (y:=y) (by rw [hy]; exact List.getElem_mem hj2) (by rw [← a_eq]; exact hc52))])
        refine A1 (A2 (A3 (j:=1) [0] (k:=C9 9 0 (.agg zN.toArray) rfl (C0 (E':=[⟨6,[],pt b1⟩,⟨7,[],.int .i64 70⟩]) [0] [6,7] (k:=A0 (B4 (B0 (A4 ?_))))))))
        refine A4 (B0 (A4 (B0 (A4 (A4 (B0 (A4 (P2 8 [6,8] ([(t,.cells #[.string (bk l),.int .i64 ((zT:Nat):Int)] 53 (0,0))]::[(b1,.cells zN.toArray 27 (0,0))]::H) ?_))))))))
        refine F3 (H':=([(t,.cells #[.string (bk l),.int .i64 ((zT:Nat):Int)] 53 (0,0))]::[(b1,.cells zN.toArray 27 (0,0))]::H)) (fun w h=>Sat.flat h (List.Perm.of_eq (by simp []))) (J6 [.cell 6 27,.tmp 7] [.agg zN.toArray,.int .i64 70] rfl (.cons (.aq 1 0 rfl) (.cons .tq (.nil))) rfl ⟨_,?_,fun w h=>(h.pk 1 [0])⟩)
        exact .inr ⟨_,_,hE,by first | decide | exact heP,by omega,rfl,rfl⟩
        have hsm:(y.space==asX spk x&&y.name==x.q.name)=false:=by rw [← a_eq]; exact hc52
        refine A7 (B8 (A0 (A2 (A3 (j:=1) [0] (k:=D1 208 (((j:Nat):Int)+1) (by omega) (by omega) kr (A5 [0] [0,1,6,8,11,12,17,22,146,147,148,189,190,191] (k:=F8 1 [1,1,1,1,1,1,1,1,1] (D2 (s':=(j+1)) [0,1,6,8,11,12,17,22,146,147,148,189,190,191] kr kr ⟨(by omega),(all_snoc hj2 hy hny hsm)⟩ (by omega)))))))))
        have hj2:j=out.length:=by have:=hc50; simp only [decide_eq_false_iff_not] at this; omega
        rw [hj2,List.take_length] at hny
        have hany:=any_no hny
        refine E7 (A6 (A6 (B6 (A0 (A2 (A3 (j:=1) [0] (k:=C1 3 2 rfl rfl (M8 0 0 3 rfl ?_))))))))
        refine G8 59 1 [.string (bk (asX spk x)),.string (bk x.q.name),.string (bk x.value)] (fun b54=>L8 (inf:=Tryz.t59) 1 0 3 rfl rfl hAO (by omega) (by show (no+1) * 48≤140737488355328; omega) (fun v55 g56 hO57=>?_))
        obtain ⟨a58,cap59,rfl,hcap60,hrd61⟩:=hO57.shape
        refine A3 (j:=6) [0] (k:=C9 4 2 (.slice a58 (no+1) cap59) rfl (A5 [] [0,1,6,8,11,12,17,146,147,148] (k:=B8 (A0 (A2 (A3 (j:=1) [0] (k:=D1 215 (((k:Nat):Int)+1) (by omega) (by omega) kr (A5 [0] [0,1,6,8,11,12,17,146,147,148] (k:=?_)))))))))
        refine F8 3 [3,3,3,3,3,3,3] (D2 (s':=((k+1),(out++[⟨asX spk x,x.q.name,x.value⟩]),(no+1),a58,cap59,g56)) [0,1,6,8,11,12,17,146,147,148] kr kr ⟨(by dsimp only; omega),(by dsimp only; rw [hM,drop_cons hk,← hx,mkE_go hd hsx,if_neg (by rw [hany]; decide)]),(by dsimp only; rw [xaV_app]; exact hO57),(by dsimp only; rw [List.length_append,hno]; rfl),(by dsimp only; omega)⟩ (by dsimp only; omega))
     have hk:ats.length≤k:=by have:=hc43; simp only [decide_eq_false_iff_not] at this; omega
     have hma:O3 ats [] spk=some out:=by rw [hM,List.drop_eq_nil_of_le hk]; rfl
     have hhd0:=el_head hqn htg hsp hspk hma
     refine E7 (A6 (A6 (B6 (A0 (A1 (A1 (G_p [0,0] [0,1,6,8,11,12,17,217] (k:=A0 ?_))))))))
     refine B1 (b:=d==24) kr (fun hc63=>?_) (fun hc63=>?_)
     have hl0:lv=0:=by have:=hc63; simp only [beq_iff_eq] at this; omega
     have hE:elE lv sp (l.drop i)=.error 71:=by rw [hl0]; exact el_0 hhd0
     refine A1 (A2 (A3 (j:=1) [0] (k:=C9 6 0 (.agg zN.toArray) rfl (C0 (E':=[⟨6,[],pt b1⟩,⟨7,[],.int .i64 71⟩]) [0] [6,7] (k:=A0 (B4 (A4 (P2 5 [3,5] ([(t,.cells #[.string (bk l),.int .i64 ((zT:Nat):Int)] 53 (0,0))]::[(b1,.cells zN.toArray 27 (0,0))]::H) ?_))))))))
     refine F3 (H':=([(t,.cells #[.string (bk l),.int .i64 ((zT:Nat):Int)] 53 (0,0))]::[(b1,.cells zN.toArray 27 (0,0))]::H)) (fun w h=>Sat.flat h (List.Perm.of_eq (by simp []))) (J6 [.cell 6 27,.tmp 7] [.agg zN.toArray,.int .i64 71] rfl (.cons (.aq 1 0 rfl) (.cons .tq (.nil))) rfl ⟨_,?_,fun w h=>(h.pk 1 [0])⟩)
     exact .inr ⟨_,_,hE,by first | decide | exact heP,by omega,rfl,rfl⟩
     obtain ⟨m,hlm⟩:∃ m,lv=m+1:=⟨lv - 1,by have:=hc63; simp only [beq_eq_false_iff_ne] at this; omega⟩
     refine A7 (A0 (A1 (A1 (G_p [0] [0,1,6,8,12,17,219] (k:=A0 (B1 (b:=cl) kr (fun hc64=>?_) (fun hc64=>?_)))))))
     have hcl:=hc64
     subst hcl
     have hE:elE lv sp (l.drop i)=_:=(congrArg (fun n=>elE n sp (l.drop i)) hlm).trans (el_c hhd0)
     refine A1 (A2 (M8 1 0 5 rfl (C9 6 0 (.agg #[.string (bk ((K7 spk q2.pre).getD [])),.string (bk q2.name),.slice oa no oc,.slice none 0 0,.string eB]) rfl (C0 (E':=[⟨6,[],pt b1⟩,⟨7,[],.int .i64 0⟩]) [0] [6,7] (k:=A0 (B4 (A4 (P2 4 [3,5,0] ([(t,.cells #[.string (bk l),.int .i64 ((zT:Nat):Int)] 53 (0,0))]::[(b1,.cells #[.string (bk ((K7 spk q2.pre).getD [])),.string (bk q2.name),.slice oa no oc,.slice none 0 0,.string eB] 27 (0,0))]::og::H) ?_))))))))
     refine F3 (H':=([(t,.cells #[.string (bk l),.int .i64 ((zT:Nat):Int)] 53 (0,0))]::[(b1,.cells #[.string (bk ((K7 spk q2.pre).getD [])),.string (bk q2.name),.slice oa no oc,.slice none 0 0,.string eB] 27 (0,0))]::(og++([]++[]))::H)) (fun w h=>Sat.flat h (List.Perm.of_eq (by simp []))) (J6 [.cell 6 27,.tmp 7] [.agg #[.string (bk ((K7 spk q2.pre).getD [])),.string (bk q2.name),.slice oa no oc,.slice none 0 0,.string eB],.int .i64 0] rfl (.cons (.aq 1 0 rfl) (.cons .tq (.nil))) rfl ⟨_,?_,fun w h=>(h.pk 1 [0,1])⟩)
     subst hno; exact .inl ⟨_,zT,_,_,hE,by omega,hzT,rfl,.mk (l:=[]) hAO Go.Sw.Own.nil .nil,rfl,rfl⟩
     have hcl:=hc64
     subst hcl
     have hhd:=hhd0
     refine A7 (A0 (A1 (B3 (R2 (H':=([]::[]::og::[(b41,.cells #[.string (bk ((K7 spk q2.pre).getD [])),.string (bk q2.name),.slice oa no oc,.slice none 0 0,.string eB] 27 (0,0))]::ng::[(t,.cells #[.string (bk l),.int .i64 ((zT:Nat):Int)] 53 (0,0))]::tg::[(b3,.cells #[.string (bk q2.pre),.string (bk q2.name),.string eB,.bool q2.has] 85 (0,0))]::[(b1,.cells zN.toArray 27 (0,0))]::H)) (fun w h=>h.flat (List.Perm.refl _)) (I5 (EI:=(fun ξ:Nat × Nat × List XN × Nat × Option Addr × Nat × Grp × Grp × List Value=>[⟨0,[],pt t⟩,⟨1,[],.int .i64 d⟩,⟨6,[],pt b1⟩,⟨8,[],pt b3⟩,⟨12,[],.slice na nn nc⟩,⟨17,[],pt b41⟩])) (HI:=(fun ξ:Nat × Nat × List XN × Nat × Option Addr × Nat × Grp × Grp × List Value=>(ξ.2.2.2.2.2.2.1::ξ.2.2.2.2.2.2.2.1::og::[(b41,.cells #[.string (bk ((K7 spk q2.pre).getD [])),.string (bk q2.name),.slice oa no oc,.slice ξ.2.2.2.2.1 ξ.2.2.2.1 ξ.2.2.2.2.2.1,.string eB] 27 (0,0))]::ng::[(t,.cells #[.string (bk l),.int .i64 ((ξ.2.1:Nat):Int)] 53 (0,0))]::tg::[(b3,.cells #[.string (bk q2.pre),.string (bk q2.name),.string eB,.bool q2.has] 85 (0,0))]::[(b1,.cells zN.toArray 27 (0,0))]::H))) (Φ:=(fun ξ:Nat × Nat × List XN × Nat × Option Addr × Nat × Grp × Grp × List Value=>(zT≤ξ.2.1)∧(ξ.2.1≤l.length)∧(l.length - ξ.2.1<ξ.1)∧(X0 (elE m spk) ((l.drop zT).length+1) [] (l.drop zT)=X0 (elE m spk) ξ.1 ξ.2.2.1 (l.drop ξ.2.1))∧(Go.Sw.Own 27 5 (.slice ξ.2.2.2.2.1 ξ.2.2.2.1 ξ.2.2.2.2.2.1) ξ.2.2.2.2.2.2.1 ξ.2.2.2.1 ξ.2.2.2.2.2.2.2.2)∧(ξ.2.2.2.1=ξ.2.2.1.length)∧(XRepL 59 27 ξ.2.2.1 ξ.2.2.2.2.2.2.2.2 ξ.2.2.2.2.2.2.2.1)∧(ξ.2.2.2.1≤ξ.2.1)∧(lastT ξ.2.2.1≤4 * ξ.2.1))) (μ:=(fun ξ:Nat × Nat × List XN × Nat × Option Addr × Nat × Grp × Grp × List Value=>l.length - ξ.2.1)) (s0:=(((l.drop zT).length+1),zT,[],0,none,0,[],[],[])) [0,1,6,8,12,17] kr kr ⟨(Nat.le_refl _),hzT,(by dsimp only; rw [List.length_drop]; omega),rfl,Go.Sw.Own.nil,rfl,.nil,(Nat.zero_le _),(Nat.zero_le _)⟩ ?_)))))
     rintro ⟨f,j,ks,kn,ka,kc,kg,gs,kcs⟩ ⟨hzj,hj,hf,hCT,hKO,hkn,hKP,hkb,hlt⟩
     dsimp only at hzj hj hf hCT hKO hkn hKP hkb hlt
     obtain ⟨f1,rfl⟩:∃ f1,f=f1+1:=⟨f - 1,by omega⟩
     refine A1 (A1 (A2 (A3 (j:=1) [0] (k:=M1 0 [5] (D9 Tryz.func22 (R8 t l j hl (by omega) [60,47] (Nat.le_of_ble_eq_true rfl) _ _) ?_)))))
     rintro _ _ (⟨hk65,hk65l,rfl,rfl⟩ | ⟨hk65,rfl,rfl⟩)
     have hk65:[60,47].isPrefixOf (l.drop j)=true:=hk65
     have hk65l:j+2≤l.length:=hk65l
     have hCE:_=_:=hCT.trans (ct_end hk65)
     refine A5 [0] [0,1,6,8,12,17,223] (k:=A0 (C5 kr (E7 (A6 (A6 (B6 (A0 (A1 ?_))))))))
     refine A2 (A3 (j:=1) [0] (k:=D9 Tryz.func46 (rTmark_ t l (j+2) hl (by omega) _ _) ?_))
     rintro _ _ ⟨q66,z66,hq66g,hq66l,rfl,hq66,rfl⟩
     have hqw:=hq66
     refine A3 (j:=5) [0,0,0] (k:=J0 (.agg #[.string eB,.string eB,.string eB,.bool false]) (fun b67=>C9 0 0 (.agg #[.string (bk q66.pre),.string (bk q66.name),.string eB,.bool q66.has]) rfl (A5 [0] [0,6,8,9,17,28] (k:=A0 (A1 (A2 (A3 (j:=1) [0] (k:=M1 0 [1] ?_))))))))
     refine D9 Tryz.func44 (rTblanks_ t l z66 hl (by omega) _ _) ?_
     rintro _ _ ⟨i68,hbi68,hbi68g,hbi68l,rfl,rfl⟩
     have hbl:=hbi68
     refine A5 [] [0,6,8,9,17,28] (k:=A0 (A1 (A1 ?_)))
     rcases q_roads q2 hqw with hq2 | ⟨hq2,hqb⟩ | ⟨hq2,hqb⟩
     have hE:elE lv sp (l.drop i)=.error 70:=by rw [hlm,el_n hhd,hCE]; dsimp only; rw [en_q hq2]
     refine A2 (A3 (j:=2) [0,0] (k:=E3 240 (x:=.bool (!((G4 (l.drop (j+2))).isSome))) (y:=.bool true) (by rw [hq2]; rfl) (A5 [0,1,1,1,2,0,1,1,1,2] [6,17,250] (k:=A0 (B9 kr (A1 (A2 (A3 (j:=1) [0] (k:=?_)))))))))
     refine C9 9 0 (.agg zN.toArray) rfl (C0 (E':=[⟨6,[],pt b1⟩,⟨7,[],.int .i64 70⟩]) [0] [6,7] (k:=A0 (B4 (A4 (P2 8 [0,8] ([(t,.cells #[.string (bk l),.int .i64 ((i68:Nat):Int)] 53 (0,0))]::[(b1,.cells zN.toArray 27 (0,0))]::H) (F3 (H':=([(t,.cells #[.string (bk l),.int .i64 ((i68:Nat):Int)] 53 (0,0))]::[(b1,.cells zN.toArray 27 (0,0))]::H)) (fun w h=>Sat.flat h (List.Perm.of_eq (by simp []))) (J6 [.cell 6 27,.tmp 7] [.agg zN.toArray,.int .i64 70] rfl (.cons (.aq 1 0 rfl) (.cons .tq (.nil))) rfl ⟨_,?_,fun w h=>(h.pk 1 [0])⟩)))))))
     exact .inr ⟨_,_,hE,by first | decide | exact heP,by omega,rfl,rfl⟩
     have hE:elE lv sp (l.drop i)=.error 70:=by rw [hlm,el_n hhd,hCE]; dsimp only; rw [en_ne hq2 hqb]
     refine A2 (A3 (j:=2) [0,0] (k:=E3 240 (x:=.bool (!((G4 (l.drop (j+2))).isSome))) (y:=.bool false) (by rw [hq2]; rfl) (A3 (j:=3) [0] (k:=Q1 (ch:=[(241,false)]) (b:=b67) (off:=0) (l:=[.string (bk q66.pre),.string (bk q66.name),.string eB,.bool q66.has]) (hA:=At.grp 1 0 rfl rfl) (k:=Q1 (ch:=[(241,false)]) (b:=b3) (off:=0) (l:=[.string (bk q2.pre),.string (bk q2.name),.string eB,.bool q2.has]) (hA:=At.grp 8 0 rfl rfl) (k:=GL_eqAgg (ch:=[(241,false)]) (A:=[.string (bk q66.pre),.string (bk q66.name),.string eB,.bool q66.has]) (B:=[.string (bk q2.pre),.string (bk q2.name),.string eB,.bool q2.has]) (r:=(!((((bk q66.pre)).toList==((bk q2.pre)).toList)&&((((bk q66.name)).toList==((bk q2.name)).toList)&&(((eB).toList==(eB).toList)&&((q66.has==q2.has)&&true)))))) true (hr:=rfl) (k:=N7 244 [(241,false)] (x:=.bool (!((((bk q66.pre)).toList==((bk q2.pre)).toList)&&((((bk q66.name)).toList==((bk q2.name)).toList)&&(((eB).toList==(eB).toList)&&((q66.has==q2.has)&&true)))))) (y:=.bool true) (by rw [mk_ne,decide_eq_true hqb]) (A5 [3,0,1,1,1,2] [6,17,250] (k:=?_)))))))))
     refine A0 (B9 kr (A1 (A2 (A3 (j:=1) [0] (k:=C9 9 0 (.agg zN.toArray) rfl (C0 (E':=[⟨6,[],pt b1⟩,⟨7,[],.int .i64 70⟩]) [0] [6,7] (k:=A0 (B4 ?_))))))))
     refine A4 (P2 8 [0,8] ([(t,.cells #[.string (bk l),.int .i64 ((i68:Nat):Int)] 53 (0,0))]::[(b1,.cells zN.toArray 27 (0,0))]::H) (F3 (H':=([(t,.cells #[.string (bk l),.int .i64 ((i68:Nat):Int)] 53 (0,0))]::[(b1,.cells zN.toArray 27 (0,0))]::H)) (fun w h=>Sat.flat h (List.Perm.of_eq (by simp []))) (J6 [.cell 6 27,.tmp 7] [.agg zN.toArray,.int .i64 70] rfl (.cons (.aq 1 0 rfl) (.cons .tq (.nil))) rfl ⟨_,?_,fun w h=>(h.pk 1 [0])⟩)))
     exact .inr ⟨_,_,hE,by first | decide | exact heP,by omega,rfl,rfl⟩
     rw [hqb] at hq2
     refine A2 (A3 (j:=2) [0,0] (k:=E3 240 (x:=.bool (!((G4 (l.drop (j+2))).isSome))) (y:=.bool false) (by rw [hq2]; rfl) (A3 (j:=3) [0] (k:=Q1 (ch:=[(241,false)]) (b:=b67) (off:=0) (l:=[.string (bk q66.pre),.string (bk q66.name),.string eB,.bool q66.has]) (hA:=At.grp 1 0 rfl rfl) (k:=Q1 (ch:=[(241,false)]) (b:=b3) (off:=0) (l:=[.string (bk q2.pre),.string (bk q2.name),.string eB,.bool q2.has]) (hA:=At.grp 8 0 rfl rfl) (k:=GL_eqAgg (ch:=[(241,false)]) (A:=[.string (bk q66.pre),.string (bk q66.name),.string eB,.bool q66.has]) (B:=[.string (bk q2.pre),.string (bk q2.name),.string eB,.bool q2.has]) (r:=(!((((bk q66.pre)).toList==((bk q2.pre)).toList)&&((((bk q66.name)).toList==((bk q2.name)).toList)&&(((eB).toList==(eB).toList)&&((q66.has==q2.has)&&true)))))) true (hr:=rfl) (k:=N7 244 [(241,false)] (x:=.bool (!((((bk q66.pre)).toList==((bk q2.pre)).toList)&&((((bk q66.name)).toList==((bk q2.name)).toList)&&(((eB).toList==(eB).toList)&&((q66.has==q2.has)&&true)))))) (y:=.bool false) (by rw [mk_ne,hqb]; simp) (A3 (j:=9) [3,0,0] (k:=?_)))))))))
     refine Q3 (ch:=[(246,false)]) (f:=22) (fst:=#[]) (caps:=#[]) (vs:=[pt t,.string (mB #[62])]) (hf:=Tryz.func22) (hsure:=M3 kr) (hc:=R8 t l i68 hl (by omega) [62] (Nat.le_of_ble_eq_true rfl) _ _) (k:=?_)
     rintro _ _ (⟨hk69,hk69l,rfl,rfl⟩ | ⟨hk69,rfl,rfl⟩)
     have hk69:[62].isPrefixOf (l.drop i68)=true:=hk69
     have hk69l:i68+1≤l.length:=hk69l
     have hen:=en_yes hq2 hbl hk69
     refine A5 [0,3] [6,17,250] (k:=A0 (C5 kr (A7 (A0 (A1 (A2 (M8 5 0 5 rfl (C9 9 0 (.agg #[.string (bk ((K7 spk q2.pre).getD [])),.string (bk q2.name),.slice oa no oc,.slice ka kn kc,.string eB]) rfl ?_))))))))
     refine C0 (E':=[⟨6,[],pt b1⟩,⟨7,[],.int .i64 0⟩]) [0] [6,7] (k:=A0 (B4 (P2 5 [0,8,3,1,1] ([(t,.cells #[.string (bk l),.int .i64 ((i68+1:Nat):Int)] 53 (0,0))]::[(b1,.cells #[.string (bk ((K7 spk q2.pre).getD [])),.string (bk q2.name),.slice oa no oc,.slice ka kn kc,.string eB] 27 (0,0))]::og::kg::gs::H) (F3 (H':=([(t,.cells #[.string (bk l),.int .i64 ((i68+1:Nat):Int)] 53 (0,0))]::[(b1,.cells #[.string (bk ((K7 spk q2.pre).getD [])),.string (bk q2.name),.slice oa no oc,.slice ka kn kc,.string eB] 27 (0,0))]::(og++(kg++gs))::H)) (fun w h=>Sat.flat h (List.Perm.of_eq (by simp []))) (J6 [.cell 6 27,.tmp 7] [.agg #[.string (bk ((K7 spk q2.pre).getD [])),.string (bk q2.name),.slice oa no oc,.slice ka kn kc,.string eB],.int .i64 0] rfl (.cons (.aq 1 0 rfl) (.cons .tq (.nil))) rfl ⟨_,?_,fun w h=>(h.pk 1 [0,1])⟩)))))
     have hE:elE lv sp (l.drop i)=.ok (.mk ((K7 spk q2.pre).getD []) q2.name out ks [],l.drop (i68+1)):=by rw [hlm,el_n hhd,hCE]; dsimp only; rw [hen]
     subst hno; subst hkn; exact .inl ⟨_,_,_,_,hE,by omega,by omega,rfl,.mk hAO hKO hKP,rfl,rfl⟩
     have hk69:[62].isPrefixOf (l.drop i68)=false:=hk69
     have hE:elE lv sp (l.drop i)=.error 70:=by rw [hlm,el_n hhd,hCE]; dsimp only; rw [en_no hq2 hbl hk69]
     refine A5 [0,3] [6,17,250] (k:=A0 (B9 kr (A1 (A2 (A3 (j:=1) [0] (k:=C9 9 0 (.agg zN.toArray) rfl (C0 (E':=[⟨6,[],pt b1⟩,⟨7,[],.int .i64 70⟩]) [0] [6,7] (k:=A0 ?_))))))))
     refine B4 (A4 (P2 8 [0,8] ([(t,.cells #[.string (bk l),.int .i64 ((i68:Nat):Int)] 53 (0,0))]::[(b1,.cells zN.toArray 27 (0,0))]::H) (F3 (H':=([(t,.cells #[.string (bk l),.int .i64 ((i68:Nat):Int)] 53 (0,0))]::[(b1,.cells zN.toArray 27 (0,0))]::H)) (fun w h=>Sat.flat h (List.Perm.of_eq (by simp []))) (J6 [.cell 6 27,.tmp 7] [.agg zN.toArray,.int .i64 70] rfl (.cons (.aq 1 0 rfl) (.cons .tq (.nil))) rfl ⟨_,?_,fun w h=>(h.pk 1 [0])⟩))))
     exact .inr ⟨_,_,hE,by first | decide | exact heP,by omega,rfl,rfl⟩
     have hk65:[60,47].isPrefixOf (l.drop j)=false:=hk65
     have hce:=hk65
     refine A5 [0] [0,1,6,8,12,17,223] (k:=A0 (B9 kr (A7 (A0 (B3 (A1 (A2 (A3 (j:=3) [0,0,0] (k:=?_)))))))))
     refine M1 0 [0,3] (D9 Tryz.func49 (rTpiece_ t l j hl hj b41 (.string (bk ((K7 spk q2.pre).getD []))) (.string (bk q2.name)) (.slice oa no oc) (.string eB) ks kn ka kc kg gs kcs hkn hKO hKP (by omega) (by omega) d (by omega) (elE m spk) na nn nc (inG ng) (fun i hi W0 H hS=>hel m hlm i hi spk na nn nc (inG ng) hns (E8 hNO) (by omega) W0 H hS) _ _ (E0 1 rfl)) ?_)
     rintro _ _ (⟨ksP,jP,knP,kaP,kcP,kgP,csP,gsP,hpE,hjP,hjPl,rfl,hknP,hKOP,hKPP,hbP,hltP,rfl⟩ | ⟨eP,zP,cP,kgP,hpE,heP,hzP,rfl,rfl⟩)
     refine A5 [0] [0,1,6,8,12,17,27] (k:=A0 (A1 (G_p [0,0] [0,1,6,8,12,17,27,229] (k:=A0 (C5 kr (A7 (B8 (F8 0 [2,2,2,1,1,0,0,0,0] ?_))))))))
     refine D2 (s':=(f1,jP,ksP,knP,kaP,kcP,kgP,gsP,csP)) [0,1,6,8,12,17] kr kr ⟨(by dsimp only; omega),hjPl,(by dsimp only; omega),(by dsimp only; rw [hCT,ct_go hce hpE]),hKOP,hknP,hKPP,hbP,hltP⟩ (by dsimp only; omega)
     have hE:elE lv sp (l.drop i)=.error eP:=by rw [hlm,el_n hhd,hCT,ct_err hce hpE]
     refine A5 [0] [0,1,6,8,12,17,27] (k:=A0 (A1 (G_p [0,0] [0,1,6,8,12,17,27,229] (k:=A0 (B1 (b:=eP != 0) kr (fun hc70=>?_) (fun hc70=>?_))))))
     refine A1 (A2 (A3 (j:=2) [0,0] (k:=C9 7 0 (.agg zN.toArray) rfl (C0 (E':=[⟨6,[],pt b1⟩,⟨7,[],.int .i64 eP⟩]) [0] [6,7] (k:=A0 (B4 (B0 (A4 ?_))))))))
     refine B0 (A4 (P2 6 [0,6] ([(t,.cells #[.string (bk l),.int .i64 ((zP:Nat):Int)] 53 (0,0))]::[(b1,.cells zN.toArray 27 (0,0))]::H) (F3 (H':=([(t,.cells #[.string (bk l),.int .i64 ((zP:Nat):Int)] 53 (0,0))]::[(b1,.cells zN.toArray 27 (0,0))]::H)) (fun w h=>Sat.flat h (List.Perm.of_eq (by simp []))) (J6 [.cell 6 27,.tmp 7] [.agg zN.toArray,.int .i64 eP] rfl (.cons (.aq 1 0 rfl) (.cons .tq (.nil))) rfl ⟨_,?_,fun w h=>(h.pk 1 [0])⟩))))
     exact .inr ⟨_,_,hE,by first | decide | exact heP,by omega,rfl,rfl⟩
     exact absurd (by have h9:=hc70; simpa using h9) heP
  have hE:=el_t (lv:=lv) (sp0:=sp) hqn htg
  refine A5 [0,0,0,0,0,0,0] [0,1,2,6,8,9,10,11] (k:=A0 (A1 (A1 (G_p [0,0] [0,1,2,6,8,10,11,44] (k:=A0 (B9 kr (A1 (A2 ?_))))))))
  refine A3 (j:=1) [0] (k:=C9 2 0 (.agg zN.toArray) rfl (C0 (E':=[⟨6,[],pt b1⟩,⟨7,[],.int .i64 70⟩]) [0] [6,7] (k:=A0 (B4 (A4 (P2 1 [0,1] ([(t,.cells #[.string (bk l),.int .i64 ((zT:Nat):Int)] 53 (0,0))]::[(b1,.cells zN.toArray 27 (0,0))]::H) (F3 (H':=([(t,.cells #[.string (bk l),.int .i64 ((zT:Nat):Int)] 53 (0,0))]::[(b1,.cells zN.toArray 27 (0,0))]::H)) (fun w h=>Sat.flat h (List.Perm.of_eq (by simp []))) (J6 [.cell 6 27,.tmp 7] [.agg zN.toArray,.int .i64 70] rfl (.cons (.aq 1 0 rfl) (.cons .tq (.nil))) rfl ⟨_,?_,fun w h=>(h.pk 1 [0])⟩))))))))
  exact .inr ⟨_,_,hE,by first | decide | exact heP,by omega,rfl,rfl⟩
end Go.Proofs.YtcgmnagcgkhogaaGreatDoor
namespace Go.Proofs.YtcgmnagcgkhogaaGreatDoor
open Go.Sw Go.Sha Go.Esc Go.RowKit Go.Json Go.Xml
theorem GH_off {P:Program} {ops:Array Oper} {L:List Grp} {fuel:Nat} {listed:Array Bool} {Q:F0} {n:Fr} {E:Env} {W0:World} {H:List Grp} {o:Oper} (i:Nat)
  (ho:ops[i]? = some o) (hp:pstep P ops n 1 o E=some (Env.put E o.dst [] undef)) (hs:Region.noSelect ops=true) (hf:Region.free .any ops listed i=true)
  (hr:(Region.ready .any ops listed).contains i=true) (hL:∀ w,Sat W0 H w→Sat W0 L w)
  (k:GH P ops L fuel (listed.setIfInBounds i true) Q n (Env.put E o.dst [] undef) W0 H):GH P ops L (fuel+1) listed Q n E W0 H:=by
 intro a w ha hsat
 rcases pstep_sound hp ha with ⟨hw,hput⟩ | ⟨hw,v,hv,hput⟩
 exact wpAnyH_take (v:=undef) ho hs hf hr (fun c a w h=>absurd h.1 (by intro h; cases h)) (.inr ⟨hw,rfl⟩) (hL w hsat) (k _ w hput hsat)
 exact wpAnyH_take (v:=v) ho hs hf hr (fun c a w h=>absurd h.1 (by intro h; cases h)) (.inl ⟨hw,fun w' _=>hv w'⟩) (hL w hsat) (k _ w hput hsat)
section
variable {l : List UInt8} {x y z : Nat} {k : XN} {e : Int}
theorem pe_1 (h:65536<l.length):parE l=(J2,72):=if_pos h
theorem pe_0 (h:¬ 65536<l.length) (hv:(K4 (D6 l)&&(I0 (D6 l)==D6 l))=true):parE l=match I6 (((D6 l).drop 0).length+1) ((D6 l).drop 0) with
    | none=>(J2,70)
    | some r=>match O9 [60] r with
      | none=>(J2,70)
      | some r1=>match elE 24 I3 r1 with
        | .error e=>(J2,e)
        | .ok (k,r2)=>match I6 (r2.length+1) r2 with
          | none=>(J2,70)
          | some r3=>if r3=[] then (k,0) else (J2,70):=by
  unfold parE
  rw [Bool.and_eq_true,beq_iff_eq] at hv
  rw [if_neg h,if_neg (by rintro (h1 | h1); rw [hv.1] at h1; cases h1; exact h1 hv.2)]
  rfl
theorem pe_2 (h:¬ 65536<l.length) (hv:¬ (K4 (D6 l)&&(I0 (D6 l)==D6 l))=true):parE l=(J2,70):=by
 unfold parE
 rw [if_neg h,if_pos]
 rw [Bool.and_eq_true,beq_iff_eq] at hv
 by_cases h1:K4 (D6 l)=true
 exact .inr (fun h2=>hv ⟨h1,h2⟩)
 exact .inl (by simpa using h1)
theorem pe_3 (h:¬ 65536<l.length) (hv:(K4 (D6 l)&&(I0 (D6 l)==D6 l))=true) (h3:I6 (((D6 l).drop 0).length+1) ((D6 l).drop 0)=none):parE l=(J2,70):=by rw [pe_0 h hv,h3]
theorem pe_4 (h:¬ 65536<l.length) (hv:(K4 (D6 l)&&(I0 (D6 l)==D6 l))=true) (h3:I6 (((D6 l).drop 0).length+1) ((D6 l).drop 0)=some ((D6 l).drop z)) (h4:[60].isPrefixOf ((D6 l).drop z)=false):parE l=(J2,70):=by
 rw [pe_0 h hv,h3]; dsimp only; unfold O9; rw [if_neg (by rw [h4]; decide)]
theorem pe_5 (h:¬ 65536<l.length) (hv:(K4 (D6 l)&&(I0 (D6 l)==D6 l))=true) (h3:I6 (((D6 l).drop 0).length+1) ((D6 l).drop 0)=some ((D6 l).drop z)) (h4:[60].isPrefixOf ((D6 l).drop z)=true):parE l=match elE 24 I3 ((D6 l).drop (z+1)) with
        | .error e=>(J2,e)
        | .ok (k,r2)=>match I6 (r2.length+1) r2 with
          | none=>(J2,70)
          | some r3=>if r3=[] then (k,0) else (J2,70):=by
  rw [pe_0 h hv,h3]; dsimp only; unfold O9; rw [if_pos h4,List.drop_drop]; rfl
theorem pe_6 (hp:parE l=match elE 24 I3 ((D6 l).drop (z+1)) with
        | .error e=>(J2,e)
        | .ok (k,r2)=>match I6 (r2.length+1) r2 with
          | none=>(J2,70)
          | some r3=>if r3=[] then (k,0) else (J2,70)) (h:elE 24 I3 ((D6 l).drop (z+1))=.error e):parE l=(J2,e):=by rw [hp,h]
theorem pe_7 (hp:parE l=match elE 24 I3 ((D6 l).drop (z+1)) with
        | .error e=>(J2,e)
        | .ok (k,r2)=>match I6 (r2.length+1) r2 with
          | none=>(J2,70)
          | some r3=>if r3=[] then (k,0) else (J2,70)) (h:elE 24 I3 ((D6 l).drop (z+1))=.ok (k,(D6 l).drop y)):parE l=match I6 (((D6 l).drop y).length+1) ((D6 l).drop y) with
          | none=>(J2,70)
          | some r3=>if r3=[] then (k,0) else (J2,70):=by rw [hp,h]
theorem dr_nil {B:List UInt8}:B.drop x=[] ↔ ¬ x<B.length:=by rw [List.drop_eq_nil_iff]; omega
end
theorem rTel_:∀ (lv:Nat),lv≤24→∀ (d:Int),d=24 - (lv:Int)→∀ (t:Nat) (l:List UInt8),l.length≤1000000→∀ (i:Nat),i≤l.length→∀ (sp:SPX) (sa:Option Addr) (sn sc:Nat) (S:Nat→Obj→Prop),sn=sp.length→Rd S sa (spV sp)→sp.length+lv * 1000001≤30000000→∀ (W0:World) (H:List Grp),(∀ y o,S y o→At W0 H y o)→Tri Tryz.prog 23 #[pt t,.int .i64 d,.slice sa sn sc] W0 (Y2 t l (i:Int)::H) (fun v H2=>(∃ k j c g,(elE lv sp) (l.drop i)=.ok (k,l.drop j)∧i≤j∧j≤l.length∧k.text=[]∧XRep 59 27 k c g∧v=.tuple #[.agg c.toArray,.int .i64 0]∧H2=Y2 t l (j:Int)::g::H)∨(∃ e z,(elE lv sp) (l.drop i)=.error e∧e≠0∧z≤l.length∧v=.tuple #[.agg zN.toArray,.int .i64 e]∧H2=Y2 t l ((z:Nat):Int)::H))
  | 0,h,d,hd,t,l,hl,i,hi,sp,sa,sn,sc,S,h1,h2,h3,W0,H,hS=>by subst h1; exact rTelW_ 0 d hd h t l hl (fun n hn=>absurd hn (by omega)) i hi sp sa _ sc S rfl h2 h3 W0 H hS
  | m+1,h,d,hd,t,l,hl,i,hi,sp,sa,sn,sc,S,h1,h2,h3,W0,H,hS=>by
    subst h1
    exact rTelW_ (m+1) d hd h t l hl (fun n hn i hi sp sa sn sc S h1 h2 h3 W0 H hS=>by
      obtain rfl:m=n:=by omega
      exact rTel_ m (by omega) (d+1) (by omega) t l hl i hi sp sa sn sc S h1 h2 h3 W0 H hS) i hi sp sa _ sc S rfl h2 h3 W0 H hS
theorem rTparse_ (a:Option Addr) (c:Nat) (l:List UInt8) (S:Nat→Obj→Prop) (hrd:Rd S a (u8s l)) (W0:World) (H:List Grp) (hS:∀ y o,S y o→At W0 H y o):Tri Tryz.prog 6 #[.slice a l.length c] W0 H (fun v H2=>∃ c g,XRep 59 27 (parE l).1 c g∧v=.tuple #[.agg c.toArray,.int .i64 (parE l).2]∧H2=g::H):=by
 have hbl:=bom_len l
 have hbz:=D0 l
 have hbzb:=D0 (D6 l)
 refine D5 71 Tryz.func6 ?_
 refine A1 (A2 (J0 (.agg zN.toArray) (fun b1=>A5 [0] [0,2] (k:=A0 (A1 (A1 (G_p [0,0,0] [0,2,9] (k:=A0 ?_))))))))
 refine B1 (b:=decide (((l.length:Nat):Int) > 65536)) kr (fun hc2=>?_) (fun hc2=>?_)
 simp only [gt_iff_lt,decide_eq_true_eq] at hc2
 have hP:=pe_1 (l:=l) (by omega)
 refine A1 (A2 (A3 (j:=1) [0] (k:=C9 0 0 (.agg zN.toArray) rfl (C0 (E':=[⟨2,[],pt b1⟩,⟨3,[],.int .i64 72⟩]) [0] [2,3] (k:=A0 (B4 (A4 (R5 (H':=([(b1,.cells zN.toArray 27 (0,0))]::H)) kr ?_))))))))
 refine F3 (H':=([(b1,.cells zN.toArray 27 (0,0))]::[]::H)) (fun w h=>Sat.flat h (List.Perm.of_eq (by simp []))) (J6 [.cell 2 27,.tmp 3] [.agg zN.toArray,.int .i64 72] rfl (.cons (.aq 0 0 rfl) (.cons .tq (.nil))) rfl ⟨_,?_,fun w h=>(h.pk 1 [1])⟩)
 rw [hP]; exact ⟨_,_,XRep.nul,rfl,rfl⟩
 simp only [gt_iff_lt,decide_eq_false_iff_not] at hc2
 have hlen:¬ 65536<l.length:=by omega
 refine A7 (A0 (A1 (A2 (A3 (j:=1) [0] (k:=Z7 (ch:=[]) (a:=a) (cap:=c) (e:=5) (S:=S) (bk l) (hrd:=hrd) (hS:=(fun y o h=>At.cons (hS y o h))) (k:=A3 (j:=3) [0] (k:=V3 (.agg #[.string (bk l),.int .i64 0]) (fun b3=>C0 (E':=[⟨2,[],pt b1⟩,⟨4,[],pt b3⟩]) [0] [2,4] (k:=?_)))))))))
 refine A0 (A1 (A1 (A2 (A3 (j:=1) [0] (k:=D9 Tryz.func19 (rTlooks_ b3 l 0 (by omega) (by omega) [239,187,191] (Nat.le_of_ble_eq_true rfl) _ _) ?_)))))
 rintro _ _ ⟨rfl,rfl⟩
 refine A5 [] [2,4,16] (k:=A0 (P7 (T:=Unit) (fun _:Unit=>[⟨2,[],pt b1⟩,⟨4,[],pt b3⟩]) (fun _:Unit=>([(b3,.cells #[.string (bk (D6 l)),.int .i64 ((0:Nat):Int)] 53 (0,0))]::[(b1,.cells zN.toArray 27 (0,0))]::H)) (fun _:Unit=>True) ?_ ?_))
 refine B1 (b:=([239,187,191].isPrefixOf (l.drop 0))) kr (fun hc4=>?_) (fun hc4=>?_)
 have hp:[239,187,191].isPrefixOf l=true:=hc4
 have hq9:D6 l=l.drop 3:=if_pos hp
 refine A2 (A3 (j:=4) [0,0,0,0] (k:=C1 0 0 rfl rfl (M6 (bk l) 3 ((bk l).size:Int) (by intro _; have h9:=pre_le hp; simp only [List.length_cons,List.length_nil] at h9; exact ⟨by omega,by omega,by omega⟩) (E3 22 (x:=.string ((bk l).extract 3 (bk l).size)) (y:=.string (bk (l.drop 3))) (by rw [ext_bk]) (A3 (j:=8) [0,0] (k:=C9 0 0 (.string (bk (l.drop 3))) rfl (C0 (E':=[⟨2,[],pt b1⟩,⟨4,[],pt b3⟩]) [] [2,4] (k:=R5 (H':=([(b3,.cells #[.string (bk (l.drop 3)),.int .i64 0] 53 (0,0))]::[(b1,.cells zN.toArray 27 (0,0))]::H)) kr ?_))))))))
 refine R5 (H':=([(b3,.cells #[.string (bk (D6 l)),.int .i64 ((0:Nat):Int)] 53 (0,0))]::[(b1,.cells zN.toArray 27 (0,0))]::H)) (by rw [hq9]; try rfl) (E6 (()) [2,4] kr (fun w h=>h) trivial)
 have hq9:D6 l=l:=if_neg (by have h9:[239,187,191].isPrefixOf l=false:=hc4; rw [h9]; decide)
 refine A7 (L7 (E':=[⟨2,[],pt b1⟩,⟨4,[],pt b3⟩,⟨16,[],.bool ([239,187,191].isPrefixOf (l.drop 0))⟩]) kr (R5 (H':=([(b3,.cells #[.string (bk (D6 l)),.int .i64 ((0:Nat):Int)] 53 (0,0))]::[(b1,.cells zN.toArray 27 (0,0))]::H)) (by rw [hq9]; try rfl) (E6 (()) [2,4] kr (fun w h=>h) trivial)))
 rintro _ _
 refine A0 (A1 (A1 ?_))
 by_cases hv:(K4 (D6 l)&&(I0 (D6 l)==D6 l))=true
 refine A2 (A3 (j:=3) [0,0,0] (k:=C1 0 0 rfl rfl (H5 Tryz.func20 (rxplain_ (bk (D6 l)) (by rw [D0]; omega) _ _) (A3 (j:=6) [0] (k:=E3 30 (x:=.bool (!(K4 (D6 l)&&(I0 (D6 l)==(D6 l))))) (y:=.bool false) (by rw [hv]; rfl) (A3 (j:=8) [0,0] (k:=Q3 (ch:=[(31,false)]) (f:=21) (fst:=#[]) (caps:=#[]) (vs:=[pt b3]) (hf:=Tryz.func21) (hsure:=M3 kr) (hc:=rTaround_ b3 (D6 l) 0 (by omega) (by omega) _ _) (k:=?_))))))))
 rintro _ _ ⟨z5,hr5l,⟨hr5,rfl⟩ | ⟨hr5,rfl⟩,rfl⟩
 have ha1:_=some ((D6 l).drop z5):=hr5
 refine A3 (j:=13) [0,3,0,0] (k:=Q3 (ch:=[(36,false)]) (f:=22) (fst:=#[]) (caps:=#[]) (vs:=[pt b3,.string (mB #[60])]) (hf:=Tryz.func22) (hsure:=M3 kr) (hc:=R8 b3 (D6 l) z5 (by omega) (by omega) [60] (Nat.le_of_ble_eq_true rfl) _ _) (k:=?_))
 rintro _ _ (⟨hk6,hk6l,rfl,rfl⟩ | ⟨hk6,rfl,rfl⟩)
 have hk6:[60].isPrefixOf ((D6 l).drop z5)=true:=hk6
 have hk6l:z5+1≤(D6 l).length:=hk6l
 have hp0:=pe_5 hlen hv ha1 hk6
 refine A5 [0,3] [2,4,40] (k:=A0 (C5 kr (A7 (A0 (A1 (A2 (A3 (j:=3) [0,0,0] (k:=G8 56 2 [.string eB,.string eB,.string aJ,.string aA] (fun b7=>?_)))))))))
 refine M1 0 [1] (D9 (vs:=[pt b3,.int .i64 0,.slice (some ⟨b7,0,none⟩) 2 2]) Tryz.func23 (rTel_ 24 (Nat.le_refl _) 0 (by decide) b3 (D6 l) (by omega) (z5+1) (by omega) I3 (some ⟨b7,0,none⟩) 2 2 (inG [(b7,.cells (spV I3).toArray 56 (0,0))]) rfl (E8 (Go.Sw.Own.lit (et:=56) (sz:=2) (n:=2) (cs:=spV I3) rfl)) (Nat.le_of_ble_eq_true rfl) _ _ (E0 0 rfl)) ?_)
 rintro _ _ (⟨kE,jE,cE,gE,heE,hjEg,hjE,hkE,hJE,rfl,rfl⟩ | ⟨eE,zE,heE,hneE,hzE,rfl,rfl⟩)
 obtain ⟨eE0q,eE1q,eE2q,eE3q,eE4q,rfl,hEc⟩:=hJE.cells5
 have hp1:=pe_7 hp0 heE
 refine A3 (j:=8) [0,0,0] (k:=J0 (.agg zN.toArray) (fun b8=>?_))
 refine GL_st (ch:=[]) (b:=b8) (off:=0) (v:=.agg #[eE0q,eE1q,eE2q,eE3q,eE4q]) (j:=0) ([(b8,.cells #[eE0q,eE1q,eE2q,eE3q,eE4q] 27 (0,0))]::[(b3,.cells #[.string (bk (D6 l)),.int .i64 ((jE:Nat):Int)] 53 (0,0))]::gE::[(b7,.cells #[.string eB,.string eB,.string aJ,.string aA] 56 (0,0))]::[(b1,.cells zN.toArray 27 (0,0))]::H) (h1:=hEc) (hoff:=Nat.le_of_ble_eq_true rfl) (hfz:=(fun _ _=>thaw0)) (k:=A5 [0] [2,4,5,6] (k:=A0 (A1 (A1 (G_p [0,0] [2,4,5,6,51] (k:=A0 ?_))))))
 refine C5 kr (A7 (A0 (A1 (A1 (H3 ([(b8,.cells #[eE0q,eE1q,eE2q,eE3q,eE4q] 27 (0,0))]::gE::[(b7,.cells #[.string eB,.string eB,.string aJ,.string aA] 56 (0,0))]::[(b1,.cells zN.toArray 27 (0,0))]::H) kr (G0 (fuel:=14) [(0,0)] (fun w h=>(h.pk 1 [0,1,1,1])) (k:=C6 1 (k:=M1 0 [1] ?_))))))))
 refine D9 Tryz.func21 (rTaround_ b3 (D6 l) jE (by omega) (by omega) _ _) ?_
 rintro _ _ ⟨z9,hr9l,⟨hr9,rfl⟩ | ⟨hr9,rfl⟩,rfl⟩
 have ha2:=hr9
 refine A9 kr (fun w h=>(h.pk 1 [1,1,1,1])) (M2 ([(b3,.cells #[.string (bk (D6 l)),.int .i64 ((z9:Nat):Int)] 53 (0,0))]::[(b8,.cells #[eE0q,eE1q,eE2q,eE3q,eE4q] 27 (0,0))]::gE::[(b7,.cells #[.string eB,.string eB,.string aJ,.string aA] 56 (0,0))]::[(b1,.cells zN.toArray 27 (0,0))]::H) (fun w h=>(h.pk 1 [1,1,1,1])) (G0 (fuel:=10) [(2,0),(3,0),(4,0)] (fun w h=>h) (k:=GH_nilG (ad:=⟨b3,0,none⟩) 5 [(57,false)] rfl rfl kr kr kr kr kr kr kr (fun w h=>h) (G0 (fuel:=8) [(6,0)] (fun w h=>h) (k:=F6 7 (hL:=(fun w h=>h)) (hy:=C2 (i:=7) (ch:=[(57,false)]) (b:=b3) (off:=1) (v:=.int .i64 ((z9:Nat):Int)) (hA:=At.grp 0 0 rfl rfl) (k:=G5 kr rfl)) (k:=G0 (fuel:=6) [(8,0)] (fun w h=>h) (k:=GH_nilG (ad:=⟨b3,0,none⟩) 9 [(57,false)] rfl rfl kr kr kr kr kr kr kr (fun w h=>h) (G0 (fuel:=4) [(10,0)] (fun w h=>h) (k:=?_)))))))))
 refine F6 11 (hL:=(fun w h=>h)) (hy:=C2 (i:=11) (ch:=[(57,false)]) (b:=b3) (off:=0) (v:=.string (bk (D6 l))) (hA:=At.grp 0 0 rfl rfl) (k:=G5 kr rfl)) (k:=C6 12 (k:=GL_pure (E':=[⟨66,[(57,false)],.int .i64 ((bk (D6 l)).size:Int)⟩,⟨65,[(57,false)],.string (bk (D6 l))⟩,⟨64,[(57,false)],pt b3⟩,⟨63,[(57,false)],pt b3⟩,⟨62,[(57,false)],pt b3⟩,⟨61,[(57,false)],.int .i64 ((z9:Nat):Int)⟩,⟨60,[(57,false)],.pointer (some ⟨b3,1,none⟩)⟩,⟨59,[(57,false)],pt b3⟩,⟨58,[(57,false)],pt b3⟩,⟨57,[],.bool false⟩,⟨56,[],.bool false⟩,⟨55,[],.bool true⟩,⟨54,[],pt b3⟩,⟨2,[],pt b1⟩,⟨4,[],pt b3⟩,⟨5,[],pt b8⟩,⟨6,[],.int .i64 0⟩,⟨51,[],.bool false⟩]) [0] kr (j:=13) rfl (A9 kr (fun w h=>h) (G0 (fuel:=0) [(13,0),(14,3)] (fun w h=>h) (k:=D8 (E':=[⟨2,[],pt b1⟩,⟨5,[],pt b8⟩,⟨68,[],.bool (decide (((z9:Nat):Int)<((bk (D6 l)).size:Int)))⟩]) [2,5,68] (k:=A0 (B1 (b:=decide (((z9:Nat):Int)<((bk (D6 l)).size:Int))) kr (fun hc10=>?_) (fun hc10=>?_))))))))
 have hP:parE l=(J2,70):=by rw [hp1,ha2]; exact if_neg (fun h9=>dr_nil.1 h9 (by have h8:=hc10; simp only [decide_eq_true_eq] at h8; omega))
 refine A1 (A2 (A3 (j:=1) [0] (k:=C9 4 0 (.agg zN.toArray) rfl (C0 (E':=[⟨2,[],pt b1⟩,⟨3,[],.int .i64 70⟩]) [0] [2,3] (k:=A0 (B4 (A4 (P2 4 [4] ([(b1,.cells zN.toArray 27 (0,0))]::H) ?_))))))))
 refine F3 (H':=([(b1,.cells zN.toArray 27 (0,0))]::[]::H)) (fun w h=>Sat.flat h (List.Perm.of_eq (by simp []))) (J6 [.cell 2 27,.tmp 3] [.agg zN.toArray,.int .i64 70] rfl (.cons (.aq 0 0 rfl) (.cons .tq (.nil))) rfl ⟨_,?_,fun w h=>(h.pk 1 [1])⟩)
 rw [hP]; exact ⟨_,_,XRep.nul,rfl,rfl⟩
 have hP:parE l=(kE,0):=by rw [hp1,ha2]; exact if_pos (dr_nil.2 (by have h8:=hc10; simp only [decide_eq_false_iff_not] at h8; omega))
 refine A7 (A0 (A1 (A2 (M8 1 0 5 rfl (GL_st (ch:=[]) (b:=b1) (off:=0) (v:=.agg #[eE0q,eE1q,eE2q,eE3q,eE4q]) (j:=4) ([(b3,.cells #[.string (bk (D6 l)),.int .i64 ((z9:Nat):Int)] 53 (0,0))]::[(b8,.cells #[eE0q,eE1q,eE2q,eE3q,eE4q] 27 (0,0))]::gE::[(b7,.cells #[.string eB,.string eB,.string aJ,.string aA] 56 (0,0))]::[(b1,.cells #[eE0q,eE1q,eE2q,eE3q,eE4q] 27 (0,0))]::H) (h1:=hEc) (hoff:=Nat.le_of_ble_eq_true rfl) (hfz:=(fun _ _=>thaw0)) (k:=C0 (E':=[⟨2,[],pt b1⟩,⟨3,[],.int .i64 0⟩]) [0] [2,3] (k:=A0 (B4 ?_))))))))
 refine P2 3 [4,2] ([(b1,.cells #[eE0q,eE1q,eE2q,eE3q,eE4q] 27 (0,0))]::gE::H) (F3 (H':=([(b1,.cells #[eE0q,eE1q,eE2q,eE3q,eE4q] 27 (0,0))]::gE::H)) (fun w h=>Sat.flat h (List.Perm.of_eq (by simp []))) (J6 [.cell 2 27,.tmp 3] [.agg #[eE0q,eE1q,eE2q,eE3q,eE4q],.int .i64 0] rfl (.cons (.aq 0 0 rfl) (.cons .tq (.nil))) rfl ⟨_,?_,fun w h=>(h.pk 1 [1])⟩))
 rw [hP]; exact ⟨_,_,hJE,rfl,rfl⟩
 have hP:parE l=(J2,70):=by rw [hp1,hr9]
 refine A9 kr (fun w h=>(h.pk 1 [1,1,1,1])) (M2 ([(b3,.cells #[.string (bk (D6 l)),.int .i64 ((z9:Nat):Int)] 53 (0,0))]::[(b8,.cells #[eE0q,eE1q,eE2q,eE3q,eE4q] 27 (0,0))]::gE::[(b7,.cells #[.string eB,.string eB,.string aJ,.string aA] 56 (0,0))]::[(b1,.cells zN.toArray 27 (0,0))]::H) (fun w h=>(h.pk 1 [1,1,1,1])) (G0 (fuel:=10) [(2,0),(3,0),(4,1)] (fun w h=>h) (k:=GH_off 5 rfl kr kr kr kr (fun w h=>h) (G0 (fuel:=6) [(6,1),(7,1),(8,1)] (fun w h=>h) (k:=GH_off 9 rfl kr kr kr kr (fun w h=>h) (G0 (fuel:=3) [(10,1),(11,1)] (fun w h=>h) (k:=C6 12 (k:=GL_pure (E':=[⟨66,[],.tuple #[]⟩,⟨65,[],.tuple #[]⟩,⟨64,[],.tuple #[]⟩,⟨63,[],.tuple #[]⟩,⟨62,[],.tuple #[]⟩,⟨61,[],.tuple #[]⟩,⟨60,[],.tuple #[]⟩,⟨59,[],.tuple #[]⟩,⟨58,[],.tuple #[]⟩,⟨57,[],.bool true⟩,⟨56,[],.bool true⟩,⟨55,[],.bool false⟩,⟨54,[],pt b3⟩,⟨2,[],pt b1⟩,⟨4,[],pt b3⟩,⟨5,[],pt b8⟩,⟨6,[],.int .i64 0⟩,⟨51,[],.bool false⟩]) [1] kr (j:=13) rfl ?_))))))))
 refine A9 kr (fun w h=>h) (G0 (fuel:=0) [(13,1),(14,2)] (fun w h=>h) (k:=D8 (E':=[⟨2,[],pt b1⟩,⟨5,[],pt b8⟩,⟨68,[],.bool true⟩]) [2,5,68] (k:=A0 (B9 kr (A1 (A2 (A3 (j:=1) [0] (k:=C9 4 0 (.agg zN.toArray) rfl ?_))))))))
 refine C0 (E':=[⟨2,[],pt b1⟩,⟨3,[],.int .i64 70⟩]) [0] [2,3] (k:=A0 (B4 (A4 (P2 4 [4] ([(b1,.cells zN.toArray 27 (0,0))]::H) (F3 (H':=([(b1,.cells zN.toArray 27 (0,0))]::[]::H)) (fun w h=>Sat.flat h (List.Perm.of_eq (by simp []))) (J6 [.cell 2 27,.tmp 3] [.agg zN.toArray,.int .i64 70] rfl (.cons (.aq 0 0 rfl) (.cons .tq (.nil))) rfl ⟨_,?_,fun w h=>(h.pk 1 [1])⟩))))))
 rw [hP]; exact ⟨_,_,XRep.nul,rfl,rfl⟩
 have hP:=pe_6 hp0 heE
 refine A3 (j:=8) [0,0,0] (k:=J0 (.agg zN.toArray) (fun b11=>C9 0 0 (.agg zN.toArray) rfl (A5 [0] [2,4,5,6] (k:=A0 (A1 (A1 (G_p [0,0] [2,4,5,6,51] (k:=A0 ?_))))))))
 refine B1 (b:=eE != 0) kr (fun hc12=>?_) (fun hc12=>?_)
 refine A1 (A2 (A3 (j:=2) [0,0] (k:=C9 3 0 (.agg zN.toArray) rfl (C0 (E':=[⟨2,[],pt b1⟩,⟨3,[],.int .i64 eE⟩]) [0] [2,3] (k:=A0 (B4 (A4 (P2 3 [3] ([(b1,.cells zN.toArray 27 (0,0))]::H) ?_))))))))
 refine F3 (H':=([(b1,.cells zN.toArray 27 (0,0))]::[]::H)) (fun w h=>Sat.flat h (List.Perm.of_eq (by simp []))) (J6 [.cell 2 27,.tmp 3] [.agg zN.toArray,.int .i64 eE] rfl (.cons (.aq 0 0 rfl) (.cons .tq (.nil))) rfl ⟨_,?_,fun w h=>(h.pk 1 [1])⟩)
 rw [hP]; exact ⟨_,_,XRep.nul,rfl,rfl⟩
 exact absurd (by have h9:=hc12; simpa using h9) hneE
 have hk6:[60].isPrefixOf ((D6 l).drop z5)=false:=hk6
 have hP:=pe_4 hlen hv ha1 hk6
 refine A5 [0,3] [2,4,40] (k:=A0 (B9 kr (A1 (A2 (A3 (j:=1) [0] (k:=C9 1 0 (.agg zN.toArray) rfl (C0 (E':=[⟨2,[],pt b1⟩,⟨3,[],.int .i64 70⟩]) [0] [2,3] (k:=A0 ?_))))))))
 refine B4 (A4 (P2 1 [1] ([(b1,.cells zN.toArray 27 (0,0))]::H) (F3 (H':=([(b1,.cells zN.toArray 27 (0,0))]::[]::H)) (fun w h=>Sat.flat h (List.Perm.of_eq (by simp []))) (J6 [.cell 2 27,.tmp 3] [.agg zN.toArray,.int .i64 70] rfl (.cons (.aq 0 0 rfl) (.cons .tq (.nil))) rfl ⟨_,?_,fun w h=>(h.pk 1 [1])⟩))))
 rw [hP]; exact ⟨_,_,XRep.nul,rfl,rfl⟩
 have hP:=pe_3 hlen hv hr5
 refine A5 [0,3,0,1,1,1,2] [2,4,40] (k:=A0 (B9 kr (A1 (A2 (A3 (j:=1) [0] (k:=C9 1 0 (.agg zN.toArray) rfl (C0 (E':=[⟨2,[],pt b1⟩,⟨3,[],.int .i64 70⟩]) [0] [2,3] (k:=A0 ?_))))))))
 refine B4 (A4 (P2 1 [1] ([(b1,.cells zN.toArray 27 (0,0))]::H) (F3 (H':=([(b1,.cells zN.toArray 27 (0,0))]::[]::H)) (fun w h=>Sat.flat h (List.Perm.of_eq (by simp []))) (J6 [.cell 2 27,.tmp 3] [.agg zN.toArray,.int .i64 70] rfl (.cons (.aq 0 0 rfl) (.cons .tq (.nil))) rfl ⟨_,?_,fun w h=>(h.pk 1 [1])⟩))))
 rw [hP]; exact ⟨_,_,XRep.nul,rfl,rfl⟩
 have hP:=pe_2 hlen hv
 rw [Bool.not_eq_true] at hv
 refine A2 (A3 (j:=3) [0,0,0] (k:=C1 0 0 rfl rfl (H5 Tryz.func20 (rxplain_ (bk (D6 l)) (by rw [D0]; omega) _ _) (A3 (j:=6) [0] (k:=E3 30 (x:=.bool (!(K4 (D6 l)&&(I0 (D6 l)==(D6 l))))) (y:=.bool true) (by rw [hv]; rfl) (A5 [0,1,1,1,2,0,1,1,1,2] [2,4,40] (k:=A0 (B9 kr ?_))))))))
 refine A1 (A2 (A3 (j:=1) [0] (k:=C9 1 0 (.agg zN.toArray) rfl (C0 (E':=[⟨2,[],pt b1⟩,⟨3,[],.int .i64 70⟩]) [0] [2,3] (k:=A0 (B4 (A4 (P2 1 [1] ([(b1,.cells zN.toArray 27 (0,0))]::H) ?_))))))))
 refine F3 (H':=([(b1,.cells zN.toArray 27 (0,0))]::[]::H)) (fun w h=>Sat.flat h (List.Perm.of_eq (by simp []))) (J6 [.cell 2 27,.tmp 3] [.agg zN.toArray,.int .i64 70] rfl (.cons (.aq 0 0 rfl) (.cons .tq (.nil))) rfl ⟨_,?_,fun w h=>(h.pk 1 [1])⟩)
 rw [hP]; exact ⟨_,_,XRep.nul,rfl,rfl⟩
end Go.Proofs.YtcgmnagcgkhogaaGreatDoor
namespace Go.Proofs.YtcgmnagcgkhogaaGreatDoor
open Go.Sw Go.Sha Go.Esc Go.RowKit Go.Json Go.Xml
theorem rparseX (a:Option Addr) (c:Nat) (l:List UInt8) (S:Nat→Obj→Prop) (hrd:Rd S a (u8s l)) (x:XN) (e:Int) (hp:I4 l=(x,e)) (W0:World) (H:List Grp) (hS:∀ y o,S y o→At W0 H y o):Tri Tryz.prog 6 #[.slice a l.length c] W0 H (fun v H2=>∃ c g,XRep 59 27 x c g∧v=.tuple #[.agg c.toArray,.int .i64 e]∧H2=g::H):=by
 have h:=rTparse_ a c l S hrd W0 H hS
 rw [← par_ok,hp] at h; exact h
theorem parX_cnB (l:List UInt8):cnX (I4 l).1≤100000000:=by
 have h9:=parX_cn l
 rcases Nat.lt_or_ge 65536 l.length with h | h
 have e:I4 l=(J2,72):=by unfold I4; rw [if_pos h]
 rw [e]; exact Nat.le_of_ble_eq_true (by kernel_rfl)
 omega
theorem rd_none9 {S:Nat→Obj→Prop} {a:Option Addr} {l:List UInt8} (h:Rd S a (u8s l)) (ha:a=none):l.length=0:=by
 subst ha
 rcases h with h | ⟨b,off,c,e,fz,h1,_⟩
 have:=congrArg List.length h
 unfold u8s at this; rw [List.length_map] at this; exact this
 cases h1
theorem u8_xorX (x:UInt8):IntKind.wrap .u8 ((BitVec.ofInt (IntKind.bits .u8) (x.toNat:Int) ^^^ BitVec.ofInt (IntKind.bits .u8) 255).toNat)=((x ^^^ 255).toNat:Int):=by
 have h:∀ n:Fin 256,IntKind.wrap .u8 ((BitVec.ofInt (IntKind.bits .u8) ((UInt8.ofNat n.val).toNat:Int) ^^^ BitVec.ofInt (IntKind.bits .u8) 255).toNat)=(((UInt8.ofNat n.val) ^^^ 255).toNat:Int):=by decide +kernel
 have:=h ⟨x.toNat,x.toNat_lt⟩
 simpa using this
theorem u8s_setX {l:List UInt8} {i q:Nat} {b:UInt8} (h:q=i):(u8s l).set q (.int .u8 (b.toNat:Int))=u8s (l.set i b):=by subst h; unfold u8s; rw [List.map_set]
theorem u8s_lnX (l:List UInt8):(u8s l).length=l.length * 1:=by unfold u8s; rw [List.length_map,Nat.mul_one]
theorem u8s_noX {l:List UInt8} {k:Nat} (h:k<l.length):u8s l≠[]:=by intro e; have:=congrArg List.length e; rw [u8s_lnX,List.length_nil] at this; omega
theorem xmlParses_ (a:Option Addr) (c:Nat) (l:List UInt8) (S:Nat→Obj→Prop) (hrd:Rd S a (u8s l)) (_:l.length≤c) (hl:l.length≤140737488351232) (W0:World) (H:List Grp) (hS:∀ y o,S y o→At W0 H y o) (hX:T8 W0):Tri Tryz.prog 3 #[.slice a l.length c] W0 H (fun v H'=>v=.bool true∧H'=H):=by
 refine D5 52 Tryz.func3 ?_
 refine A1 (C3 (E':=[⟨0,[],.slice a l.length c⟩]) [0] [0] (k:=A0 (A1 (A1 (A2 (H5 Tryz.func4 (firstX_ _ _ hX) (A5 [0] [0,10] (k:=A0 ?_))))))))
 refine C5 kr (A7 (A0 (A1 (A1 (G_p [0,0,0,0,0,0,0,6] [0,18] (k:=A0 (B1 (b:=(decide (((l.length:Nat):Int) > 5000))&&(decide (((l.length:Nat):Int)≤65536))) kr (fun hc1=>?_) (fun hc1=>?_))))))))
 simp only [Bool.and_eq_true,decide_eq_true_eq,gt_iff_lt] at hc1
 refine A1 (C3 (E':=[⟨2,[],.bool true⟩]) [0] [2] (k:=A0 (B4 (A4 (B7 [.tmp 2] [.bool true] (k:=?_))))))
 first | exact ⟨rfl,rfl⟩ | exact ⟨congrArg Value.bool (by rw [beq_self_eq_true]; rfl),rfl⟩
 simp only [Bool.and_eq_false_iff,decide_eq_false_iff_not,gt_iff_lt] at hc1
 refine A7 (A0 (A1 (A2 (G8 5 0 [] (fun b2=>A3 (j:=2) [0] (k:=X4 (i:=2) (ch:=[]) (t:=22) (tx:=22) (e:=5) (inf:=Tryz.t5) (s:=.slice (some ⟨b2,0,none⟩) 0 0) (x:=.slice a l.length c) (n:=0) (m:=l.length) (j:=0) (cs:=[]) (news:=(u8s l)) (g:=[(b2,.cells #[] 5 (0,0))]) (S:=S) rfl rfl rfl rfl kr kr kr rfl rfl (.inl ⟨5,kr⟩) (fun ⟨_,h⟩=>by cases h) (fun _=>⟨5,kr⟩) kr kr kr rfl (Go.Sw.Own.lit rfl) (SrcOf.slice _ _ _ _ hrd (rd_none9 hrd)) (fun y o h=>At.cons (hS y o h)) (u8s_lnX l) u8_one (by omega) (by show (0+l.length) * 1≤140737488355328; omega) (fun v3 g4 hO5=>?_)))))))
 replace hO5:=own_from0 hO5
 obtain ⟨a6,cap7,rfl,hcap8,hrd9⟩:=hO5.shape
 refine A5 [0] [0,3] (k:=A0 (A1 (A2 (A3 (j:=1) [0] (k:=D9 Tryz.func5 (xparseV a6 cap7 l (inG g4) (E8 hO5) ((I4 l).1) ((I4 l).2) rfl _ _ (E0 0 rfl) hX) ?_)))))
 rintro _ _ ⟨c10,gp10,hJ10,rfl,rfl⟩
 obtain ⟨van10,vcn10,val10,vcl10,rfl⟩:=hJ10.shape
 refine A3 (j:=5) [0,0,0] (k:=J0 (.agg zN.toArray) (fun b11=>C9 0 0 (.agg #[.string (bk (I4 l).1.space),.string (bk (I4 l).1.name),.slice van10 ((I4 l).1.attrs.length) vcn10,.slice val10 ((I4 l).1.kids.length) vcl10,.string (bk (I4 l).1.text)]) rfl (A5 [0] [0,3,4,5] (k:=A0 (A1 (A1 (G_p [0,0,0] [0,3,4,5,28,29] (k:=A0 ?_))))))))
 refine B3 (I5 (EI:=(fun ξ:Nat × Grp × List UInt8=>[⟨0,[],.slice a l.length c⟩,⟨3,[],.slice a6 l.length cap7⟩,⟨4,[],pt b11⟩,⟨5,[],.int .i64 ((I4 l).2)⟩,⟨28,[],.int .i64 ((l.length:Nat):Int)⟩,⟨29,[],.int .i64 ((ξ.1:Nat):Int)⟩])) (HI:=(fun ξ:Nat × Grp × List UInt8=>([(b11,.cells #[.string (bk (I4 l).1.space),.string (bk (I4 l).1.name),.slice van10 ((I4 l).1.attrs.length) vcn10,.slice val10 ((I4 l).1.kids.length) vcl10,.string (bk (I4 l).1.text)] 27 (0,0))]::gp10::ξ.2.1::H))) (Φ:=(fun ξ:Nat × Grp × List UInt8=>(ξ.1≤l.length)∧(ξ.2.2.length=l.length)∧(Go.Sw.Own 5 1 (.slice a6 l.length cap7) ξ.2.1 l.length (u8s ξ.2.2)))) (μ:=(fun ξ:Nat × Grp × List UInt8=>l.length - ξ.1)) (s0:=(0,g4,l)) [0,3,4,5,28,29] kr kr ⟨(Nat.zero_le _),rfl,hO5⟩ ?_)
 rintro ⟨k,go,L2⟩ ⟨hk,hL2,hO⟩
 dsimp only at hk hL2 hO
 refine A1 (G_p [0] [0,3,4,5,28,29,30] (k:=A0 (A1 (B1 (b:=decide (((k:Nat):Int)<((l.length:Nat):Int))) kr (fun hc12=>?_) (fun hc12=>?_)))))
 simp only [decide_eq_true_eq] at hc12
 refine A7 (A0 (A1 (B3 (A1 (G_p [0,0] [0,3,4,5,6,28,29] (k:=A0 (A2 (A3 (j:=2) [0,0] (k:=?_)))))))))
 refine E4 (a:=a6) (S:=(inG go)) (cs:=(u8s L2)) l.length ((k:Nat):Int) 1 (E8 hO) (by exact ⟨by omega,by omega,u8s_noX (l:=L2) (k:=k) (by omega)⟩) (H7 (a:=a6) (S:=(inG go)) (cs:=(u8s L2)) (k * 1) (.int .u8 ((L2.getD k 0).toNat:Int)) (E8 hO) (E0 2 rfl) (fun _=>(by rw [Nat.mul_one]; exact Go.Sha.u8s_at (by omega))) (A3 (j:=5) [0] (k:=E3 36 (x:=.int .u8 (IntKind.wrap .u8 ((BitVec.ofInt (IntKind.bits .u8) ((L2.getD k 0).toNat:Int) ^^^ BitVec.ofInt (IntKind.bits .u8) 255).toNat))) (y:=.int .u8 ((L2.getD k 0 ^^^ 255).toNat:Int)) (by rw [u8_xorX]) (E4 (a:=a6) (S:=(inG go)) (cs:=(u8s L2)) l.length ((k:Nat):Int) 1 (E8 hO) (by exact ⟨by omega,by omega,u8s_noX (l:=L2) (k:=k) (by omega)⟩) (GL_storeO (ch:=[]) (a:=a6) (q:=k * 1) (len:=l.length) (cap:=cap7) (v:=.int .u8 ((L2.getD k 0 ^^^ 255).toNat:Int)) (g:=go) (j:=2) (cs:=(u8s L2)) (cs':=(u8s (L2.set k ((L2.getD k 0) ^^^ 255)))) (hO:=hO) (hq:=(by rw [u8s_lnX]; omega)) (hcs:=u8s_setX (Nat.mul_one _)) (k:=(fun g13 hO14=>?_)))))))
 refine A5 [] [0,3,4,5,28,29] (k:=B8 (A0 ?_))
 have hw15:IntKind.wrap .i64 (((k:Nat):Int)+1)=((k:Nat):Int)+1:=w64 (by omega) (by omega)
 refine A2 (A3 (j:=1) [0] (k:=E3 38 (x:=.int .i64 (IntKind.wrap .i64 (((k:Nat):Int)+1))) (y:=.int .i64 (((k:Nat):Int)+1)) (by simp only [hw15]) (E3 38 (x:=.int .i64 (((k:Nat):Int)+1)) (y:=.int .i64 ((k+1:Nat):Int)) (by rw [show ((k:Nat):Int)+1=((k+1:Nat):Int) by omega]) (A5 [0] [0,3,4,5,28,29] (k:=D2 (s':=((k+1),g13,(L2.set k ((L2.getD k 0) ^^^ 255)))) [0,3,4,5,28,29] kr kr ⟨(by dsimp only; omega),(by dsimp only; rw [List.length_set]; exact hL2),hO14⟩ (by dsimp only; omega))))))
 simp only [decide_eq_false_iff_not] at hc12
 refine E7 (A6 (A6 (B6 (A0 (A1 (A2 (A3 (j:=1) [0] (k:=D9 Tryz.func6 (rparseX a c l S hrd ((I4 l).1) ((I4 l).2) rfl _ _ (fun y o h=>At.cons (At.cons (At.cons (hS y o h))))) ?_))))))))
 rintro _ _ ⟨c16,gp16,hJ16,rfl,rfl⟩
 obtain ⟨van16,vcn16,val16,vcl16,rfl⟩:=hJ16.shape
 refine A3 (j:=5) [0,0,0] (k:=J0 (.agg zN.toArray) (fun b17=>C9 0 0 (.agg #[.string (bk (I4 l).1.space),.string (bk (I4 l).1.name),.slice van16 ((I4 l).1.attrs.length) vcn16,.slice val16 ((I4 l).1.kids.length) vcl16,.string (bk (I4 l).1.text)]) rfl (A5 [0] [4,5,7,8] (k:=A0 (A1 (A2 (A3 (j:=4) [0,0,0,0] (k:=Q1 (ch:=[(47,true)]) (b:=b11) (off:=0) (l:=[.string (bk (I4 l).1.space),.string (bk (I4 l).1.name),.slice van10 ((I4 l).1.attrs.length) vcn10,.slice val10 ((I4 l).1.kids.length) vcl10,.string (bk (I4 l).1.text)]) (hA:=At.grp 2 0 rfl rfl) (k:=?_)))))))))
 refine Q1 (ch:=[(47,true)]) (b:=b17) (off:=0) (l:=[.string (bk (I4 l).1.space),.string (bk (I4 l).1.name),.slice van16 ((I4 l).1.attrs.length) vcn16,.slice val16 ((I4 l).1.kids.length) vcl16,.string (bk (I4 l).1.text)]) (hA:=At.grp 0 0 rfl rfl) (k:=P9 (vs:=[.agg #[.string (bk (I4 l).1.space),.string (bk (I4 l).1.name),.slice van10 ((I4 l).1.attrs.length) vcn10,.slice val10 ((I4 l).1.kids.length) vcl10,.string (bk (I4 l).1.text)],.agg #[.string (bk (I4 l).1.space),.string (bk (I4 l).1.name),.slice van16 ((I4 l).1.attrs.length) vcn16,.slice val16 ((I4 l).1.kids.length) vcl16,.string (bk (I4 l).1.text)]]) [(47,true)] Tryz.func7 (fun hc=>xsameC ((I4 l).1) (parX_cnB l) [.string (bk (I4 l).1.space),.string (bk (I4 l).1.name),.slice van10 ((I4 l).1.attrs.length) vcn10,.slice val10 ((I4 l).1.kids.length) vcl10,.string (bk (I4 l).1.text)] [.string (bk (I4 l).1.space),.string (bk (I4 l).1.name),.slice van16 ((I4 l).1.attrs.length) vcn16,.slice val16 ((I4 l).1.kids.length) vcl16,.string (bk (I4 l).1.text)] (inG gp10) (inG gp16) (hJ10.rd (fun _ _ h=>h)) (hJ16.rd (fun _ _ h=>h)) _ _ (E0 3 rfl) (E0 1 rfl)) (A5 [6,0] [2] (k:=A0 (B4 (F8 5 [] (B7 [.tmp 2] [.bool ((((I4 l).2)==((I4 l).2))&&true)] (k:=?_)))))))
 first | exact ⟨rfl,rfl⟩ | exact ⟨congrArg Value.bool (by rw [beq_self_eq_true]; rfl),rfl⟩
end Go.Proofs.YtcgmnagcgkhogaaGreatDoor
namespace Go.Proofs.YtcgmnagcgkhogaaGreatDoor
open Go Go.ChangeShapes Go.WideShapes Go.ChangeAt Go.RowKit Go.Sw Go.Esc Go.Json Go.Xml
theorem ownKnobXmlParses:ownKnob Tryz.prog.godebug=none:=by kernel_rfl
set_option maxRecDepth 100000 in
theorem xmlParses_lifted (os:Os) (started:os.Started) (H:Type) (enc:TypeId × Value→H) :
  ReturnsInHanded {} Tryz.checked os 3 .any (fun w args=>(Rows.xmlParsesSpec.pre enc Tryz.prog Tryz.f3 Rows.xmlParsesRow.domain false w args∧laidMetH Tryz.prog Rows.xmlParsesRow.laid w)∧sizedMet enc Tryz.prog Tryz.f3 (OpenSpec.ofChange Rows.xmlParsesSpec) false w args)
   (Rows.xmlParsesSpec.post enc Tryz.prog Tryz.f3 false true false false):=by
 refine returnsIn_shapedZ (C:=Tryz.checked) (X:=fun w _=>laidMetH Tryz.prog Rows.xmlParsesRow.laid w) (fun _ _ _ hh h=>h.of_heap hh) ownKnobXmlParses started (by kernel_rfl) Tryz.func3
  (ChangeSpec.witness_shaped (enc:=enc) (C:=Tryz.checked) (os:=os) (X:=fun w _=>laidMetH Tryz.prog Rows.xmlParsesRow.laid w) false (World.laidAll Tryz.prog os Rows.xmlParsesRow.laid) #[.slice none 0 0] 8 (World.laidAll_os _ _ _)
   (World.shaped_of_ZipB (by kernel_rfl) (by kernel_rfl)) (by kernel_rfl) (by kernel_rfl) (by kernel_rfl)
   (by rw [MakeChecks.laidMetH_plain _ _ _ (by kernel_rfl)]; exact laidMet_laidAll _ (by kernel_rfl) (by kernel_rfl))) ?_
 intro W base args ds gs before hval0 hW hc hL hsh hz
 have hval:∀ (j:Nat) t v,Tryz.f3.params[j]? = some t→args[j]? = some v→Value.okWide Tryz.prog W .any base t v:=hval0
 have hW':=hW
 obtain ⟨p,q,hA0,hV,rfl,_,_⟩:=hW
 have hA:DataW.TrodAll enc Tryz.prog W 0 (fun _=>true) true Tryz.f3.params.toList args.toList ds p:=hA0
 rw [Tryz.params3] at hA hval
 obtain ⟨v0,d0,rfl,rfl,h0⟩:=trodAll_one hA
 obtain ⟨rfl,rfl⟩:=trodVars_none hV
 rw [Tryz.params3] at hz
 have hz2:((DataW.weights Tryz.prog 22 d0++DataW.weightsEach Tryz.prog (DataSpec.varTypes Tryz.checked.prog (OpenSpec.ofChange Rows.xmlParsesSpec).bare.plain) []).all fun x=>decide (x≤reachBytes))=true:=hz
 rw [List.all_append,Bool.and_eq_true] at hz2
 obtain ⟨a,c,l,rfl,hrd,hcap,hlz⟩:=open_bytesZ (hval 0 22 v0 rfl rfl) h0 hz2.1
 simp only [List.append_nil] at hW'
 rw [MakeChecks.laidMetH_plain _ _ _ (by kernel_rfl)] at hL
 have hB:=baseX_of (base_of hL) hsh
 have hlt:∀ x∈p,x.block<W.heap.size:=fun x hx=>by simpa using hW'.lt x hx
 refine (xmlParses_ a c l (SW W) hrd hcap hlz W [] (fun y o h=>sw_at h) hB W (sat_nil W)).mono fun e W' ⟨v,H',he,⟨hv,hH⟩,hs⟩=>?_
 subst he; subst hv; subst hH
 have hb:=hs.below
 exact ⟨_,rfl,post_below (pv:=[]) hW' (fun _ _ _=>trodAll_mk1 (shut_bool Tryz.underlying4 _)) (fun sp hsp=>trodAll_mk1 (WideElems.Trod_stays laidOut_ (by kernel_rfl) (of_decide_eq_true (by kernel_rfl)) h0 (fun x hx=>hb.same (hlt x (by simp [hx]))) (fun x hx=>hsp x (by simp [hx])))) (fun _ _=>rfl) (by simp) hb (ok_one (by kernel_rfl) rfl (okWide_bool_mk Tryz.underlying4 _))⟩
set_option maxHeartbeats 4000000 in
theorem xmlParses_closed:joinedFacts Tryz.prog 3 Tryz.f3 Rows.xmlParsesSpec Rows.xmlParsesRow=true:=by
 unfold joinedFacts
 rw [cl_may,cl_lift,cl_make,cl_heard,cl_keys]
 iterate 31 (refine and_tt ?_ (by as_aux_lemma=>kernel_rfl))
 as_aux_lemma=>kernel_rfl
theorem xmlParses_said:Rows.XmlParsesSaid :=
 OpenClaim.holds_of_wide 3 Tryz.f3 rfl rfl rfl rfl rfl rfl rfl ⟨rfl,rfl,rfl,rfl,rfl⟩ rfl rfl rfl rfl rfl (by as_aux_lemma=>kernel_rfl) Tryz.func3 xmlParses_closed
  (of_decide_eq_true (by kernel_rfl)) (by unfold Func.isWrapper; first | (rw [if_pos (by decide +kernel)]; kernel_rfl) | (rw [if_neg (by decide +kernel)]; exact ⟨rfl,rfl⟩))
  (fun os started H enc _=>xmlParses_lifted os started H enc)
theorem xmlParses_card:Rows.XmlParsesCardSaid :=
 Claim7.holds_tied_plain_at .later [] _ _ _ _ xmlParses_said (fun _ h=>by cases h) (by as_aux_lemma=>kernel_rfl) (fun _ h=>by cases h) xmlParses_row_tie rfl ⟨rfl,rfl⟩ (by as_aux_lemma=>kernel_rfl) rfl
  (fun f fn hf hfn=>by
   obtain rfl : f = 3 := Option.some.inj ((show Tryz.prog.funcNamed "broadsheet/broadsheetlaw08.XmlParses" = some 3 by as_aux_lemma => kernel_rfl).symm.trans hf) |>.symm
   obtain rfl:fn=Tryz.f3:=(Option.some.inj (Tryz.func3.symm.trans hfn)).symm
   exact ⟨by as_aux_lemma=>kernel_rfl,fun j t ht=>by
    rw [Tryz.params3] at ht
    have hm:t∈[22]:=by simpa using Array.mem_of_getElem? ht
    have hall:([22].all fun u=>!Tryz.prog.wantsStandIn u)=true:=by as_aux_lemma=>kernel_rfl
    exact (show Tryz.prog.wantsStandIn t=false by simpa using List.all_eq_true.1 hall t hm)⟩)
  (by as_aux_lemma=>kernel_rfl)
#print axioms xmlParses_card
end Go.Proofs.YtcgmnagcgkhogaaGreatDoor
