/- What the laws of JSON's reading stand on. (and what it stands on) -/
import Derived.Test.YtppgfiklmfoaeaaGreatDoorZ3
namespace Go.Proofs.YtppgfiklmfoaeaaGreatDoor
open Go.Sw Go.Sha Go.Esc Go.RowKit Go.Json
theorem u91 {b:UInt8}:(b.toNat:Int)=91 ↔ b=91:=M6 (n:=91) (by decide)
theorem u123 {b:UInt8}:(b.toNat:Int)=123 ↔ b=123:=M6 (n:=123) (by decide)
theorem u93 {b:UInt8}:(b.toNat:Int)=93 ↔ b=93:=M6 (n:=93) (by decide)
theorem u125 {b:UInt8}:(b.toNat:Int)=125 ↔ b=125:=M6 (n:=125) (by decide)
theorem u58 {b:UInt8}:(b.toNat:Int)=58 ↔ b=58:=M6 (n:=58) (by decide)
theorem u44 {b:UInt8}:(b.toNat:Int)=44 ↔ b=44:=M6 (n:=44) (by decide)
theorem numP_dropLe (l:List UInt8) {k:Nat} (h:k≤l.length):k+E3 (l.drop k)≤l.length:=by
  have:=numP_le (l.drop k)
  rw [List.length_drop] at this; omega
set_option maxHeartbeats 1000000 in
theorem rvalueW_ (lv:Nat) (d:Int) (hd:d=24 - (lv:Int)) (hlv:lv≤24) (t:Nat) (l:List UInt8) (i:Nat) (hl:l.length≤1000000) (hi:i≤l.length) (hrec:∀ n,lv=n+1→∀ i,i≤l.length→∀ (W0:World) (H:List Grp),Tri Tryz.prog 49 #[pt t,.int .i64 (d+1)] W0 (tapeG t l (i:Int)::H) (fun v H2=>(∃ x r j c g,G1 n (l.drop i)=.ok (x,r)∧JRep 9 28 x c g∧v=.tuple #[.agg c.toArray,.int .i64 0]∧l.drop j=r∧j≤l.length∧H2=tapeG t l ((j:Nat):Int)::g::H)∨(∃ e z,G1 n (l.drop i)=.error e∧e≠0∧v=.tuple #[.agg ([.int .i64 0,.string (ByteArray.mk #[]),.slice none 0 0,.slice none 0 0]:List Value).toArray,.int .i64 e]∧H2=tapeG t l z::H))) (W0:World) (H:List Grp):Tri Tryz.prog 49 #[pt t,.int .i64 d] W0 ([(t,.cells #[.string (bk l),.int .i64 ((i:Nat):Int)] 83 (0,0))]::H) (fun v H2=>(∃ x r j c g,G1 lv (l.drop i)=.ok (x,r)∧JRep 9 28 x c g∧v=.tuple #[.agg c.toArray,.int .i64 0]∧l.drop j=r∧j≤l.length∧H2=tapeG t l ((j:Nat):Int)::g::H)∨(∃ e z,G1 lv (l.drop i)=.error e∧e≠0∧v=.tuple #[.agg ([.int .i64 0,.string (ByteArray.mk #[]),.slice none 0 0,.slice none 0 0]:List Value).toArray,.int .i64 e]∧H2=tapeG t l z::H)):=by
  have hbz:=D3 l
  refine C5 (args:=[pt t,.int .i64 d]) (n:=185) Tryz.func49 rfl rfl (Nat.le_of_ble_eq_true rfl) ?_
  refine A1 (A2 ?_)
  refine F0 (ch:=[]) (z:=.agg #[.int .i64 0,.string (ByteArray.mk #[]),.slice none 0 0,.slice none 0 0]) (k:=(fun b1=>?_))
  refine A9 [0] [0,1,4] (k:=A0 ?_)
  refine A1 (A2 ?_)
  refine A4 (j:=1) [0] (k:=I1 rfl (H':=([(t,.cells #[.string (bk l),.int .i64 ((i:Nat):Int)] 83 (0,0))]::[(b1,.cells #[.int .i64 0,.string (ByteArray.mk #[]),.slice none 0 0,.slice none 0 0] 28 (0,0))]::H)) (fun w h=>(h.front (j:=1) rfl)) ?_)
  refine D5 Tryz.func50 (O5 t l i (by omega) (by omega) _ _) ?_
  rintro _ _ ⟨i1,hbi1,hbi1l,rfl⟩
  have hB:(l.drop i1)=blk (l.drop i):=hbi1
  refine A9 [] [0,1,4] (k:=A0 ?_)
  refine A1 (A2 ?_)
  refine A4 (j:=1) [0] (k:=D5 Tryz.func83 (rnext_ t l i1 _ _) ?_)
  rintro _ _ ⟨rfl,rfl⟩
  refine A9 [0] [0,1,4,6] (k:=A0 ?_)
  refine A1 (B9 ?_)
  refine A1 (A2 ?_)
  refine A4 (j:=1) [0] (k:=D5 Tryz.func84 (rword_ t l i1 (by omega) (ByteArray.mk #[110,117,108,108]) (Nat.le_of_ble_eq_true rfl) (by omega) _ _) ?_)
  rintro _ _ (⟨hk3,hk3l,rfl,rfl⟩ | ⟨hk3,rfl,rfl⟩)
  ·
    have hk3:(l.drop i1).take 4=[110,117,108,108]:=hk3
    have hk3l:i1+4≤l.length:=hk3l
    have hAt:G1 lv (l.drop i)=K9 (l.drop i1):=by rw [hB]; exact valD_atom (by rw [← hB]; exact opens_no hk3 (by decide))
    have hV:=hAt.trans (atom_null hk3)
    refine A9 [0] [0,1,4,6,20] (k:=A0 ?_)
    refine F5 kr (A1 ?_)
    refine A2 (A4 (j:=1) [0] (k:=?_))
    refine D2 (ch:=[]) (b:=b1) (off:=0) (v:=.agg #[.int .i64 0,.string (ByteArray.mk #[]),.slice none 0 0,.slice none 0 0]) (j:=1) ([(t,.cells #[.string (bk l),.int .i64 ((i1+4:Nat):Int)] 83 (0,0))]::[(b1,.cells #[.int .i64 0,.string (ByteArray.mk #[]),.slice none 0 0,.slice none 0 0] 28 (0,0))]::H) (hoff:=Nat.le_of_ble_eq_true rfl) (hfz:=(fun _ _=>C6)) (k:=B2 (E':=[⟨4,[],pt b1⟩,⟨5,[],.int .i64 0⟩]) [0] [4,5] (k:=?_))
    refine A0 (B4 ?_)
    refine A7 (A3 ?_)
    refine C1 (H':=([(t,.cells #[.string (bk l),.int .i64 ((i1+4:Nat):Int)] 83 (0,0))]::[(b1,.cells #[.int .i64 0,.string (ByteArray.mk #[]),.slice none 0 0,.slice none 0 0] 28 (0,0))]::[]::H)) (fun w h=>Sat.flat h (List.Perm.refl _)) (G7 [.cell 4 28,.tmp 5] [.agg #[.int .i64 0,.string (ByteArray.mk #[]),.slice none 0 0,.slice none 0 0],.int .i64 0] rfl (.cons (.agg (b:=b1) (off:=0) (l:=[.int .i64 0,.string (ByteArray.mk #[]),.slice none 0 0,.slice none 0 0]) kr kr kr (At.grp 1 0 rfl rfl) kr) (.cons (.tmp kr) (.nil))) rfl ⟨([(t,.cells #[.string (bk l),.int .i64 ((i1+4:Nat):Int)] 83 (0,0))]::[]::H),?_,fun w h=>(h.erase 1)⟩)
    exact .inl ⟨_,_,i1+4,_,_,hV,JRep.nul,rfl,by first | assumption | (rw [List.drop_drop]) | (rw [← hB2,List.drop_drop]),by omega,rfl⟩
  ·
    have hk3:¬ (l.drop i1).take 4=[110,117,108,108]:=hk3
    have c1:=hk3
    refine A9 [0] [0,1,4,6,20] (k:=A0 ?_)
    refine C4 kr (A1 ?_)
    refine A2 (A4 (j:=1) [0] (k:=?_))
    refine D5 Tryz.func84 (rword_ t l i1 (by omega) (ByteArray.mk #[102,97,108,115,101]) (Nat.le_of_ble_eq_true rfl) (by omega) _ _) ?_
    rintro _ _ (⟨hk4,hk4l,rfl,rfl⟩ | ⟨hk4,rfl,rfl⟩)
    ·
      have hk4:(l.drop i1).take 5=[102,97,108,115,101]:=hk4
      have hk4l:i1+5≤l.length:=hk4l
      have hAt:G1 lv (l.drop i)=K9 (l.drop i1):=by rw [hB]; exact valD_atom (by rw [← hB]; exact opens_no hk4 (by decide))
      have hV:=hAt.trans (atom_false c1 hk4)
      refine A9 [0] [0,1,4,6,24] (k:=A0 ?_)
      refine F5 kr (A1 ?_)
      refine A2 (A4 (j:=1) [0] (k:=?_))
      refine D2 (ch:=[]) (b:=b1) (off:=0) (v:=.agg #[.int .i64 1,.string (ByteArray.mk #[]),.slice none 0 0,.slice none 0 0]) (j:=1) ([(t,.cells #[.string (bk l),.int .i64 ((i1+5:Nat):Int)] 83 (0,0))]::[(b1,.cells #[.int .i64 1,.string (ByteArray.mk #[]),.slice none 0 0,.slice none 0 0] 28 (0,0))]::H) (hoff:=Nat.le_of_ble_eq_true rfl) (hfz:=(fun _ _=>C6)) (k:=B2 (E':=[⟨4,[],pt b1⟩,⟨5,[],.int .i64 0⟩]) [0] [4,5] (k:=?_))
      refine A0 (B4 ?_)
      refine A7 (A3 ?_)
      refine C1 (H':=([(t,.cells #[.string (bk l),.int .i64 ((i1+5:Nat):Int)] 83 (0,0))]::[(b1,.cells #[.int .i64 1,.string (ByteArray.mk #[]),.slice none 0 0,.slice none 0 0] 28 (0,0))]::[]::H)) (fun w h=>Sat.flat h (List.Perm.refl _)) (G7 [.cell 4 28,.tmp 5] [.agg #[.int .i64 1,.string (ByteArray.mk #[]),.slice none 0 0,.slice none 0 0],.int .i64 0] rfl (.cons (.agg (b:=b1) (off:=0) (l:=[.int .i64 1,.string (ByteArray.mk #[]),.slice none 0 0,.slice none 0 0]) kr kr kr (At.grp 1 0 rfl rfl) kr) (.cons (.tmp kr) (.nil))) rfl ⟨([(t,.cells #[.string (bk l),.int .i64 ((i1+5:Nat):Int)] 83 (0,0))]::[]::H),?_,fun w h=>(h.erase 1)⟩)
      exact .inl ⟨_,_,i1+5,_,_,hV,(.mk (ns:=[]) (l:=[]) Go.Sw.Own.nil Go.Sw.Own.nil .nil),rfl,by first | assumption | (rw [List.drop_drop]) | (rw [← hB2,List.drop_drop]),by omega,rfl⟩
    ·
      have hk4:¬ (l.drop i1).take 5=[102,97,108,115,101]:=hk4
      have c2:=hk4
      refine A9 [0] [0,1,4,6,24] (k:=A0 ?_)
      refine C4 kr (A1 ?_)
      refine A2 (A4 (j:=1) [0] (k:=?_))
      refine D5 Tryz.func84 (rword_ t l i1 (by omega) (ByteArray.mk #[116,114,117,101]) (Nat.le_of_ble_eq_true rfl) (by omega) _ _) ?_
      rintro _ _ (⟨hk5,hk5l,rfl,rfl⟩ | ⟨hk5,rfl,rfl⟩)
      ·
        have hk5:(l.drop i1).take 4=[116,114,117,101]:=hk5
        have hk5l:i1+4≤l.length:=hk5l
        have hAt:G1 lv (l.drop i)=K9 (l.drop i1):=by rw [hB]; exact valD_atom (by rw [← hB]; exact opens_no hk5 (by decide))
        have hV:=hAt.trans (atom_true c1 c2 hk5)
        refine B2 (E':=[⟨0,[],pt t⟩,⟨1,[],.int .i64 d⟩,⟨4,[],pt b1⟩,⟨6,[],.int .u8 ((l.getD i1 0).toNat:Int)⟩,⟨28,[],.bool true⟩]) [0] [0,1,4,6,28] (k:=A0 ?_)
        refine F5 kr (A1 ?_)
        refine A2 (A4 (j:=1) [0] (k:=?_))
        refine D2 (ch:=[]) (b:=b1) (off:=0) (v:=.agg #[.int .i64 2,.string (ByteArray.mk #[]),.slice none 0 0,.slice none 0 0]) (j:=1) ([(t,.cells #[.string (bk l),.int .i64 ((i1+4:Nat):Int)] 83 (0,0))]::[(b1,.cells #[.int .i64 2,.string (ByteArray.mk #[]),.slice none 0 0,.slice none 0 0] 28 (0,0))]::H) (hoff:=Nat.le_of_ble_eq_true rfl) (hfz:=(fun _ _=>C6)) (k:=B2 (E':=[⟨4,[],pt b1⟩,⟨5,[],.int .i64 0⟩]) [0] [4,5] (k:=?_))
        refine A0 (B4 ?_)
        refine A7 (A3 ?_)
        refine C1 (H':=([(t,.cells #[.string (bk l),.int .i64 ((i1+4:Nat):Int)] 83 (0,0))]::[(b1,.cells #[.int .i64 2,.string (ByteArray.mk #[]),.slice none 0 0,.slice none 0 0] 28 (0,0))]::[]::H)) (fun w h=>Sat.flat h (List.Perm.refl _)) (G7 [.cell 4 28,.tmp 5] [.agg #[.int .i64 2,.string (ByteArray.mk #[]),.slice none 0 0,.slice none 0 0],.int .i64 0] rfl (.cons (.agg (b:=b1) (off:=0) (l:=[.int .i64 2,.string (ByteArray.mk #[]),.slice none 0 0,.slice none 0 0]) kr kr kr (At.grp 1 0 rfl rfl) kr) (.cons (.tmp kr) (.nil))) rfl ⟨([(t,.cells #[.string (bk l),.int .i64 ((i1+4:Nat):Int)] 83 (0,0))]::[]::H),?_,fun w h=>(h.erase 1)⟩)
        exact .inl ⟨_,_,i1+4,_,_,hV,(.mk (ns:=[]) (l:=[]) Go.Sw.Own.nil Go.Sw.Own.nil .nil),rfl,by first | assumption | (rw [List.drop_drop]) | (rw [← hB2,List.drop_drop]),by omega,rfl⟩
      ·
        have hk5:¬ (l.drop i1).take 4=[116,114,117,101]:=hk5
        have c3:=hk5
        refine B2 (E':=[⟨0,[],pt t⟩,⟨1,[],.int .i64 d⟩,⟨4,[],pt b1⟩,⟨6,[],.int .u8 ((l.getD i1 0).toNat:Int)⟩,⟨28,[],.bool false⟩]) [0] [0,1,4,6,28] (k:=A0 ?_)
        refine C4 kr (A1 ?_)
        refine G_p [0,0,0] [0,1,4,6,32] (k:=A0 ?_)
        refine B0 (b:=((l.getD i1 0).toNat:Int)==34) kr (fun hc6=>?_) (fun hc6=>?_)
        ·
          simp only [beq_iff_eq,u34] at hc6
          have h34:(l.drop i1).getD 0 0=34:=by rw [G3]; exact hc6
          have hAt:G1 lv (l.drop i)=K9 (l.drop i1):=by rw [hB]; exact valD_atom (by rw [← hB]; exact opens_34 h34)
          refine A1 (A2 ?_)
          refine A4 (j:=1) [0] (k:=D5 Tryz.func85 (rtext_ t l i1 (by omega) (by omega) _ _) ?_)
          rintro _ _ (⟨x7,r7,i7,ht7,hr7,hl7,rfl,rfl⟩ | ⟨ht7,i7,hl7,rfl,rfl⟩)
          ·
            have hV:=hAt.trans (atom_text c1 c2 c3 h34 ht7)
            refine A9 [0,0,0,0,0] [4,7,8] (k:=A0 ?_)
            refine A1 (A1 ?_)
            refine G_p [0,0] [4,7,41] (k:=A0 ?_)
            refine C4 kr (A8 ?_)
            refine A0 (A1 ?_)
            refine A2 (A4 (j:=2) [0,0] (k:=?_))
            refine D2 (ch:=[]) (b:=b1) (off:=0) (v:=.agg #[.int .i64 4,.string (bk x7),.slice none 0 0,.slice none 0 0]) (j:=1) ([(t,.cells #[.string (bk l),.int .i64 ((i7:Nat):Int)] 83 (0,0))]::[(b1,.cells #[.int .i64 4,.string (bk x7),.slice none 0 0,.slice none 0 0] 28 (0,0))]::H) (hoff:=Nat.le_of_ble_eq_true rfl) (hfz:=(fun _ _=>C6)) (k:=B2 (E':=[⟨4,[],pt b1⟩,⟨5,[],.int .i64 0⟩]) [0] [4,5] (k:=?_))
            refine A0 (B4 ?_)
            refine A7 (A3 ?_)
            refine C1 (H':=([(t,.cells #[.string (bk l),.int .i64 ((i7:Nat):Int)] 83 (0,0))]::[(b1,.cells #[.int .i64 4,.string (bk x7),.slice none 0 0,.slice none 0 0] 28 (0,0))]::[]::H)) (fun w h=>Sat.flat h (List.Perm.refl _)) (G7 [.cell 4 28,.tmp 5] [.agg #[.int .i64 4,.string (bk x7),.slice none 0 0,.slice none 0 0],.int .i64 0] rfl (.cons (.agg (b:=b1) (off:=0) (l:=[.int .i64 4,.string (bk x7),.slice none 0 0,.slice none 0 0]) kr kr kr (At.grp 1 0 rfl rfl) kr) (.cons (.tmp kr) (.nil))) rfl ⟨([(t,.cells #[.string (bk l),.int .i64 ((i7:Nat):Int)] 83 (0,0))]::[]::H),?_,fun w h=>(h.erase 1)⟩)
            exact .inl ⟨_,_,i7,_,_,hV,(.mk (ns:=[]) (l:=[]) Go.Sw.Own.nil Go.Sw.Own.nil .nil),rfl,by first | assumption | (rw [List.drop_drop]) | (rw [← hB2,List.drop_drop]),by omega,rfl⟩
          ·
            have hV:=hAt.trans (atom_text0 c1 c2 c3 h34 ht7)
            refine A9 [0,0,0,0,0] [4,7,8] (k:=A0 ?_)
            refine A1 (A1 ?_)
            refine G_p [0,0] [4,7,41] (k:=A0 ?_)
            refine F5 kr (A1 ?_)
            refine A2 (A4 (j:=1) [0] (k:=?_))
            refine D2 (ch:=[]) (b:=b1) (off:=0) (v:=.agg #[.int .i64 0,.string (ByteArray.mk #[]),.slice none 0 0,.slice none 0 0]) (j:=1) ([(t,.cells #[.string (bk l),.int .i64 ((i7:Nat):Int)] 83 (0,0))]::[(b1,.cells #[.int .i64 0,.string (ByteArray.mk #[]),.slice none 0 0,.slice none 0 0] 28 (0,0))]::H) (hoff:=Nat.le_of_ble_eq_true rfl) (hfz:=(fun _ _=>C6)) (k:=B2 (E':=[⟨4,[],pt b1⟩,⟨5,[],.int .i64 70⟩]) [0] [4,5] (k:=?_))
            refine A0 (B4 ?_)
            refine A3 (A7 ?_)
            refine A3 (G7 [.cell 4 28,.tmp 5] [.agg #[.int .i64 0,.string (ByteArray.mk #[]),.slice none 0 0,.slice none 0 0],.int .i64 70] rfl (.cons (.agg (b:=b1) (off:=0) (l:=[.int .i64 0,.string (ByteArray.mk #[]),.slice none 0 0,.slice none 0 0]) kr kr kr (At.grp 1 0 rfl rfl) kr) (.cons (.tmp kr) (.nil))) rfl ⟨([(t,.cells #[.string (bk l),.int .i64 ((i7:Nat):Int)] 83 (0,0))]::H),?_,fun w h=>(h.erase 1)⟩)
            exact .inr ⟨_,_,hV,(by decide),rfl,rfl⟩
        ·
          simp only [beq_eq_false_iff_ne,ne_eq,u34] at hc6
          have h34:¬ (l.drop i1).getD 0 0=34:=by rw [G3]; exact hc6
          refine A1 (G_p [0,0,0,0,0,6,0] [0,1,4,6,45] (k:=?_))
          refine A0 (B0 (b:=(((l.getD i1 0).toNat:Int) != 91)&&(((l.getD i1 0).toNat:Int) != 123)) kr (fun hc8=>?_) (fun hc8=>?_))
          ·
            simp only [Bool.and_eq_true,bne_iff_ne,ne_eq,u91,u123] at hc8
            have hop:¬ M8 (l.drop i1):=by unfold M8; rw [G3]; rintro (h | h); exact hc8.1 h; exact hc8.2 h
            have hAt:G1 lv (l.drop i)=K9 (l.drop i1):=by rw [hB]; exact valD_atom (by rw [← hB]; exact hop)
            have hnd:=numP_dropLe l hbi1l
            refine A1 (J4 (k:=?_))
            refine A4 (j:=3) [0,0,0] (k:=A6 (ch:=[]) (b:=t) (off:=0) (v:=.string (bk l)) (hA:=At.grp 0 0 rfl rfl) (k:=?_))
            refine A4 (j:=7) [0,0,0] (k:=A6 (ch:=[]) (b:=t) (off:=1) (v:=.int .i64 ((i1:Nat):Int)) (hA:=At.grp 0 0 rfl rfl) (k:=?_))
            refine F1 (ch:=[]) (s:=(bk l)) (vl:=(some (.int .i64 ((i1:Nat):Int)))) (vh:=none) (l:=((i1:Nat):Int)) (h:=((bk l).size:Int)) (hb:=(fun _=>by omega)) (k:=J1 (vs:=[.string ((bk l).extract i1 (bk l).size)]) Tryz.func54 ((by rw [ext_bk]; exact rnum_ (l.drop i1) (by rw [List.length_drop]; omega) _ _)) ?_)
            refine A9 [0] [0,4,9] (k:=A0 ?_)
            refine A1 (A1 ?_)
            refine G_p [0,0] [0,4,9,63] (k:=A0 ?_)
            refine B0 (b:=(E3 (l.drop i1):Int)==0) kr (fun hc9=>?_) (fun hc9=>?_)
            ·
              simp only [beq_iff_eq] at hc9
              have hV:=hAt.trans (atom_none c1 c2 c3 h34 (by omega))
              refine A1 (A2 ?_)
              refine A4 (j:=1) [0] (k:=D2 (ch:=[]) (b:=b1) (off:=0) (v:=.agg #[.int .i64 0,.string (ByteArray.mk #[]),.slice none 0 0,.slice none 0 0]) (j:=1) ([(t,.cells #[.string (bk l),.int .i64 ((i1:Nat):Int)] 83 (0,0))]::[(b1,.cells #[.int .i64 0,.string (ByteArray.mk #[]),.slice none 0 0,.slice none 0 0] 28 (0,0))]::H) (hoff:=Nat.le_of_ble_eq_true rfl) (hfz:=(fun _ _=>C6)) (k:=?_))
              refine B2 (E':=[⟨4,[],pt b1⟩,⟨5,[],.int .i64 70⟩]) [0] [4,5] (k:=A0 ?_)
              refine B4 (A3 ?_)
              refine A7 (A3 ?_)
              refine G7 [.cell 4 28,.tmp 5] [.agg #[.int .i64 0,.string (ByteArray.mk #[]),.slice none 0 0,.slice none 0 0],.int .i64 70] rfl (.cons (.agg (b:=b1) (off:=0) (l:=[.int .i64 0,.string (ByteArray.mk #[]),.slice none 0 0,.slice none 0 0]) kr kr kr (At.grp 1 0 rfl rfl) kr) (.cons (.tmp kr) (.nil))) rfl ⟨([(t,.cells #[.string (bk l),.int .i64 ((i1:Nat):Int)] 83 (0,0))]::H),?_,fun w h=>(h.erase 1)⟩
              exact .inr ⟨_,_,hV,(by decide),rfl,rfl⟩
            ·
              simp only [beq_eq_false_iff_ne,ne_eq] at hc9
              have hV:=hAt.trans (atom_num c1 c2 c3 h34 (by omega))
              refine A8 (A0 ?_)
              refine A1 (A2 ?_)
              refine A4 (j:=3) [0,0,0] (k:=A6 (ch:=[]) (b:=t) (off:=1) (v:=.int .i64 ((i1:Nat):Int)) (hA:=At.grp 0 0 rfl rfl) (k:=?_))
              have hw10:IntKind.wrap .i64 (((i1:Nat):Int)+(E3 (l.drop i1):Int))=((i1:Nat):Int)+(E3 (l.drop i1):Int):=w64 (by omega) (by omega)
              refine B5 (E':=[⟨70,[],.int .i64 (((i1:Nat):Int)+(E3 (l.drop i1):Int))⟩,⟨65,[],pt t⟩,⟨0,[],pt t⟩,⟨4,[],pt b1⟩,⟨9,[],.int .i64 (E3 (l.drop i1):Int)⟩]) [0,0] (Eq.trans (b:=some [⟨70,[],.int .i64 (IntKind.wrap .i64 (((i1:Nat):Int)+(E3 (l.drop i1):Int)))⟩,⟨65,[],pt t⟩,⟨0,[],pt t⟩,⟨4,[],pt b1⟩,⟨9,[],.int .i64 (E3 (l.drop i1):Int)⟩]) kr (by simp only [hw10])) (j:=6) rfl (B8 (E':=[⟨70,[],.int .i64 ((i1+E3 (l.drop i1):Nat):Int)⟩,⟨65,[],pt t⟩,⟨0,[],pt t⟩,⟨4,[],pt b1⟩,⟨9,[],.int .i64 (E3 (l.drop i1):Int)⟩]) (by rw [show ((i1:Nat):Int)+(E3 (l.drop i1):Int)=((i1+E3 (l.drop i1):Nat):Int) by omega]) ?_)
              refine A4 (j:=8) [0,0] (k:=D2 (ch:=[]) (b:=t) (off:=1) (v:=.int .i64 ((i1+E3 (l.drop i1):Nat):Int)) (j:=0) ([(t,.cells #[.string (bk l),.int .i64 ((i1+E3 (l.drop i1):Nat):Int)] 83 (0,0))]::[(b1,.cells #[.int .i64 0,.string (ByteArray.mk #[]),.slice none 0 0,.slice none 0 0] 28 (0,0))]::H) (hoff:=Nat.le_of_ble_eq_true rfl) (hfz:=(fun _ _=>C6)) (k:=?_))
              refine A9 [] [0,4,9] (k:=A0 ?_)
              refine A1 (N8 ([(t,.cells #[.string (bk l),.int .i64 ((i1+E3 (l.drop i1):Nat):Int)] 83 (0,0))]::H) kr ?_)
              refine Q8 (fuel:=17) [(0,0)] (fun w h=>(h.erase 1)) (k:=GH_nil (ad:=⟨t,0,none⟩) 1 (hL:=(fun w h=>(h.erase 1))) (k:=?_))
              refine Q8 (fuel:=15) [(2,0)] (fun w h=>(h.erase 1)) (k:=L3 3 (hL:=(fun w h=>(h.erase 1))) (hy:=A6 (i:=3) (ch:=[]) (b:=t) (off:=0) (v:=.string (bk l)) (hA:=At.grp 0 0 rfl rfl) (k:=N2 kr rfl)) (k:=?_))
              refine Q8 (fuel:=13) [(4,0)] (fun w h=>(h.erase 1)) (k:=GH_nil (ad:=⟨t,0,none⟩) 5 (hL:=(fun w h=>(h.erase 1))) (k:=?_))
              refine Q8 (fuel:=11) [(6,0)] (fun w h=>(h.erase 1)) (k:=L3 7 (hL:=(fun w h=>(h.erase 1))) (hy:=A6 (i:=7) (ch:=[]) (b:=t) (off:=1) (v:=.int .i64 ((i1+E3 (l.drop i1):Nat):Int)) (hA:=At.grp 0 0 rfl rfl) (k:=N2 kr rfl)) (k:=?_))
              refine Q8 (fuel:=9) [(8,0)] (fun w h=>(h.erase 1)) (k:=?_)
              have hw12:IntKind.wrap .i64 (((i1+E3 (l.drop i1):Nat):Int) - (E3 (l.drop i1):Int))=((i1+E3 (l.drop i1):Nat):Int) - (E3 (l.drop i1):Int):=w64 (by omega) (by omega)
              refine GH_pure (E':=[⟨82,[],.int .i64 (((i1+E3 (l.drop i1):Nat):Int) - (E3 (l.drop i1):Int))⟩,⟨76,[],.string (bk l)⟩,⟨0,[],pt t⟩,⟨4,[],pt b1⟩]) 9 0 kr (fun w h=>(h.erase 1)) (Eq.trans (b:=some [⟨82,[],.int .i64 (IntKind.wrap .i64 (((i1+E3 (l.drop i1):Nat):Int) - (E3 (l.drop i1):Int)))⟩,⟨76,[],.string (bk l)⟩,⟨0,[],pt t⟩,⟨4,[],pt b1⟩]) kr (by simp only [hw12])) (GH_env (E':=[⟨82,[],.int .i64 ((i1:Nat):Int)⟩,⟨76,[],.string (bk l)⟩,⟨0,[],pt t⟩,⟨4,[],pt b1⟩]) (by rw [show ((i1+E3 (l.drop i1):Nat):Int) - (E3 (l.drop i1):Int)=((i1:Nat):Int) by omega]) ?_)
              refine Q8 (fuel:=7) [(10,0)] (fun w h=>(h.erase 1)) (k:=GH_nil (ad:=⟨t,0,none⟩) 11 (hL:=(fun w h=>(h.erase 1))) (k:=?_))
              refine Q8 (fuel:=5) [(12,0)] (fun w h=>(h.erase 1)) (k:=L3 13 (hL:=(fun w h=>(h.erase 1))) (hy:=A6 (i:=13) (ch:=[]) (b:=t) (off:=1) (v:=.int .i64 ((i1+E3 (l.drop i1):Nat):Int)) (hA:=At.grp 0 0 rfl rfl) (k:=N2 kr rfl)) (k:=?_))
              refine L3 (E':=[⟨87,[],.string ((bk l).extract i1 (Int.toNat ((i1+E3 (l.drop i1):Nat):Int)))⟩,⟨86,[],.int .i64 ((i1+E3 (l.drop i1):Nat):Int)⟩,⟨85,[],.pointer (some ⟨t,1,none⟩)⟩,⟨84,[],pt t⟩,⟨83,[],pt t⟩,⟨82,[],.int .i64 ((i1:Nat):Int)⟩,⟨76,[],.string (bk l)⟩,⟨0,[],pt t⟩,⟨4,[],pt b1⟩]) 14 kr (fun w h=>(h.erase 1)) ?_ ?_
              ·
                exact F1 (ch:=[]) (s:=(bk l)) (vl:=(some (.int .i64 ((i1:Nat):Int)))) (vh:=(some (.int .i64 ((i1+E3 (l.drop i1):Nat):Int)))) (l:=((i1:Nat):Int)) (h:=((i1+E3 (l.drop i1):Nat):Int)) (hb:=(fun _=>by omega)) (k:=N2 kr kr)
              refine GH_env (E':=[⟨87,[],.string (bk ((l.drop i1).take (E3 (l.drop i1))))⟩,⟨86,[],.int .i64 ((i1+E3 (l.drop i1):Nat):Int)⟩,⟨85,[],.pointer (some ⟨t,1,none⟩)⟩,⟨84,[],pt t⟩,⟨83,[],pt t⟩,⟨82,[],.int .i64 ((i1:Nat):Int)⟩,⟨76,[],.string (bk l)⟩,⟨0,[],pt t⟩,⟨4,[],pt b1⟩]) (by rw [ext_mid,Int.toNat_natCast,Nat.add_sub_cancel_left]) (Q8 (fuel:=2) [(15,0)] (fun w h=>(h.erase 1)) (k:=?_))
              refine H6 16 (k:=D2 (ch:=[]) (b:=b1) (off:=0) (v:=.agg #[.int .i64 3,.string (bk ((l.drop i1).take (E3 (l.drop i1)))),.slice none 0 0,.slice none 0 0]) (j:=1) ([(t,.cells #[.string (bk l),.int .i64 ((i1+E3 (l.drop i1):Nat):Int)] 83 (0,0))]::[(b1,.cells #[.int .i64 3,.string (bk ((l.drop i1).take (E3 (l.drop i1)))),.slice none 0 0,.slice none 0 0] 28 (0,0))]::H) (hoff:=Nat.le_of_ble_eq_true rfl) (hfz:=(fun _ _=>C6)) (k:=?_))
              refine E6 kr (fun w h=>(h.erase 1)) (Q8 (fuel:=0) [(17,0)] (fun w h=>(h.erase 1)) (k:=?_))
              refine L4 (E':=[⟨4,[],pt b1⟩,⟨5,[],.int .i64 0⟩]) [4,5] (k:=A0 ?_)
              refine B4 (A7 ?_)
              refine A3 (C1 (H':=([(t,.cells #[.string (bk l),.int .i64 ((i1+E3 (l.drop i1):Nat):Int)] 83 (0,0))]::[(b1,.cells #[.int .i64 3,.string (bk ((l.drop i1).take (E3 (l.drop i1)))),.slice none 0 0,.slice none 0 0] 28 (0,0))]::[]::H)) (fun w h=>Sat.flat h (List.Perm.refl _)) ?_)
              refine G7 [.cell 4 28,.tmp 5] [.agg #[.int .i64 3,.string (bk ((l.drop i1).take (E3 (l.drop i1)))),.slice none 0 0,.slice none 0 0],.int .i64 0] rfl (.cons (.agg (b:=b1) (off:=0) (l:=[.int .i64 3,.string (bk ((l.drop i1).take (E3 (l.drop i1)))),.slice none 0 0,.slice none 0 0]) kr kr kr (At.grp 1 0 rfl rfl) kr) (.cons (.tmp kr) (.nil))) rfl ⟨([(t,.cells #[.string (bk l),.int .i64 ((i1+E3 (l.drop i1):Nat):Int)] 83 (0,0))]::[]::H),?_,fun w h=>(h.erase 1)⟩
              exact .inl ⟨_,_,i1+E3 (l.drop i1),_,_,hV,(.mk (ns:=[]) (l:=[]) Go.Sw.Own.nil Go.Sw.Own.nil .nil),rfl,by first | assumption | (rw [List.drop_drop]) | (rw [← hB2,List.drop_drop]),by omega,rfl⟩
          ·
            simp only [Bool.and_eq_false_iff,bne_eq_false_iff_eq,u91,u123] at hc8
            have hop:M8 (l.drop i1):=by unfold M8; rw [G3]; rcases hc8 with h | h; exact .inl (by simpa using h); exact .inr (by simpa using h)
            refine A8 (C0 ?_)
            refine A0 (A1 ?_)
            refine A1 (G_p [0,0] [0,1,4,6,90] (k:=?_))
            refine A0 (B0 (b:=d==24) kr (fun hc13=>?_) (fun hc13=>?_))
            ·
              simp only [beq_iff_eq] at hc13
              obtain rfl:lv=0:=by omega
              have hV:G1 0 (l.drop i)=.error 71:=valD_deep (by rw [← hB]; exact hop)
              refine A1 (A2 ?_)
              refine A4 (j:=1) [0] (k:=D2 (ch:=[]) (b:=b1) (off:=0) (v:=.agg #[.int .i64 0,.string (ByteArray.mk #[]),.slice none 0 0,.slice none 0 0]) (j:=1) ([(t,.cells #[.string (bk l),.int .i64 ((i1:Nat):Int)] 83 (0,0))]::[(b1,.cells #[.int .i64 0,.string (ByteArray.mk #[]),.slice none 0 0,.slice none 0 0] 28 (0,0))]::H) (hoff:=Nat.le_of_ble_eq_true rfl) (hfz:=(fun _ _=>C6)) (k:=?_))
              refine B2 (E':=[⟨4,[],pt b1⟩,⟨5,[],.int .i64 71⟩]) [0] [4,5] (k:=A0 ?_)
              refine B4 (A3 ?_)
              refine G7 [.cell 4 28,.tmp 5] [.agg #[.int .i64 0,.string (ByteArray.mk #[]),.slice none 0 0,.slice none 0 0],.int .i64 71] rfl (.cons (.agg (b:=b1) (off:=0) (l:=[.int .i64 0,.string (ByteArray.mk #[]),.slice none 0 0,.slice none 0 0]) kr kr kr (At.grp 1 0 rfl rfl) kr) (.cons (.tmp kr) (.nil))) rfl ⟨([(t,.cells #[.string (bk l),.int .i64 ((i1:Nat):Int)] 83 (0,0))]::H),?_,fun w h=>(h.erase 1)⟩
              exact .inr ⟨_,_,hV,(by decide),rfl,rfl⟩
            ·
              simp only [beq_eq_false_iff_ne,ne_eq] at hc13
              obtain ⟨n,hln⟩:∃ n,lv=n+1:=⟨lv - 1,by omega⟩
              have hi1:i1<l.length:=by rcases hop with h | h <;> (rw [G3] at h; exact Q2 h (by decide))
              refine A8 (A0 ?_)
              refine A1 (A2 ?_)
              refine A4 (j:=3) [0,0,0] (k:=A6 (ch:=[]) (b:=t) (off:=1) (v:=.int .i64 ((i1:Nat):Int)) (hA:=At.grp 0 0 rfl rfl) (k:=?_))
              have hw14:IntKind.wrap .i64 (((i1:Nat):Int)+1)=((i1:Nat):Int)+1:=w64 (by omega) (by omega)
              refine B5 (E':=[⟨96,[],.int .i64 (((i1:Nat):Int)+1)⟩,⟨92,[],pt t⟩,⟨0,[],pt t⟩,⟨1,[],.int .i64 d⟩,⟨4,[],pt b1⟩,⟨6,[],.int .u8 ((l.getD i1 0).toNat:Int)⟩]) [0] (Eq.trans (b:=some [⟨96,[],.int .i64 (IntKind.wrap .i64 (((i1:Nat):Int)+1))⟩,⟨92,[],pt t⟩,⟨0,[],pt t⟩,⟨1,[],.int .i64 d⟩,⟨4,[],pt b1⟩,⟨6,[],.int .u8 ((l.getD i1 0).toNat:Int)⟩]) kr (by simp only [hw14])) (j:=5) rfl (B8 (E':=[⟨96,[],.int .i64 ((i1+1:Nat):Int)⟩,⟨92,[],pt t⟩,⟨0,[],pt t⟩,⟨1,[],.int .i64 d⟩,⟨4,[],pt b1⟩,⟨6,[],.int .u8 ((l.getD i1 0).toNat:Int)⟩]) (by rw [show ((i1:Nat):Int)+1=((i1+1:Nat):Int) by omega]) ?_)
              refine A4 (j:=7) [0,0] (k:=D2 (ch:=[]) (b:=t) (off:=1) (v:=.int .i64 ((i1+1:Nat):Int)) (j:=0) ([(t,.cells #[.string (bk l),.int .i64 ((i1+1:Nat):Int)] 83 (0,0))]::[(b1,.cells #[.int .i64 0,.string (ByteArray.mk #[]),.slice none 0 0,.slice none 0 0] 28 (0,0))]::H) (hoff:=Nat.le_of_ble_eq_true rfl) (hfz:=(fun _ _=>C6)) (k:=?_))
              refine A9 [] [0,1,4,6] (k:=A0 ?_)
              refine A1 (A2 ?_)
              refine A4 (j:=1) [0] (k:=F0 (ch:=[]) (z:=.agg #[.int .i64 0,.string (ByteArray.mk #[]),.slice none 0 0,.slice none 0 0]) (k:=(fun b15=>?_)))
              refine D2 (ch:=[]) (b:=b15) (off:=0) (v:=.agg #[.int .i64 5,.string (ByteArray.mk #[]),.slice none 0 0,.slice none 0 0]) (j:=0) ([(b15,.cells #[.int .i64 5,.string (ByteArray.mk #[]),.slice none 0 0,.slice none 0 0] 28 (0,0))]::[(t,.cells #[.string (bk l),.int .i64 ((i1+1:Nat):Int)] 83 (0,0))]::[(b1,.cells #[.int .i64 0,.string (ByteArray.mk #[]),.slice none 0 0,.slice none 0 0] 28 (0,0))]::H) (hoff:=Nat.le_of_ble_eq_true rfl) (hfz:=(fun _ _=>C6)) (k:=A9 [] [0,1,4,6,10] (k:=?_))
              refine A0 (A1 ?_)
              refine B7 (E':=[⟨0,[],pt t⟩,⟨1,[],.int .i64 d⟩,⟨4,[],pt b1⟩,⟨6,[],.int .u8 ((l.getD i1 0).toNat:Int)⟩,⟨10,[],pt b15⟩,⟨11,[],.int .u8 93⟩]) [0] [0,1,4,6,10,11] (k:=A0 ?_)
              refine A1 (A1 ?_)
              refine G_p [0,0] [0,1,4,10,11,101] (k:=A0 ?_)
              refine B0 (b:=((l.getD i1 0).toNat:Int)==123) kr (fun hc16=>?_) (fun hc16=>?_)
              ·
                simp only [beq_iff_eq,u123] at hc16
                have h123:=hc16
                refine A1 (A2 ?_)
                refine A4 (j:=1) [0] (k:=D2 (ch:=[]) (b:=b15) (off:=0) (v:=.int .i64 6) (j:=0) ([(b15,.cells #[.int .i64 6,.string (ByteArray.mk #[]),.slice none 0 0,.slice none 0 0] 28 (0,0))]::[(t,.cells #[.string (bk l),.int .i64 ((i1+1:Nat):Int)] 83 (0,0))]::[(b1,.cells #[.int .i64 0,.string (ByteArray.mk #[]),.slice none 0 0,.slice none 0 0] 28 (0,0))]::H) (hoff:=Nat.le_of_ble_eq_true rfl) (hfz:=(fun _ _=>C6)) (k:=?_))
                refine A9 [] [0,1,4,10] (k:=A0 ?_)
                refine G_p [0] [0,1,4,10,11] (k:=A0 ?_)
                refine A1 (A2 ?_)
                refine A4 (j:=1) [0] (k:=I1 rfl (H':=([(t,.cells #[.string (bk l),.int .i64 ((i1+1:Nat):Int)] 83 (0,0))]::[(b15,.cells #[.int .i64 6,.string (ByteArray.mk #[]),.slice none 0 0,.slice none 0 0] 28 (0,0))]::[(b1,.cells #[.int .i64 0,.string (ByteArray.mk #[]),.slice none 0 0,.slice none 0 0] 28 (0,0))]::H)) (fun w h=>(h.front (j:=1) rfl)) ?_)
                refine D5 Tryz.func50 (O5 t l (i1+1) (by omega) (by omega) _ _) ?_
                rintro _ _ ⟨i17,hbi17,hbi17l,rfl⟩
                have hB2:l.drop i17=blk ((blk (l.drop i)).drop 1):=by rw [hbi17,← hB,List.drop_drop]
                refine A9 [] [0,1,4,10,11] (k:=A0 ?_)
                refine A1 (A1 ?_)
                refine A2 (A4 (j:=1) [0] (k:=?_))
                refine D5 Tryz.func83 (rnext_ t l i17 _ _) ?_
                rintro _ _ ⟨rfl,rfl⟩
                refine A9 [0,0] [0,1,4,10,11,108] (k:=A0 ?_)
                refine B0 (b:=((l.getD i17 0).toNat:Int)==125) kr (fun hc18=>?_) (fun hc18=>?_)
                ·
                  simp only [beq_iff_eq,u125] at hc18
                  have hi2:i17<l.length:=Q2 hc18 (by decide)
                  have hV:=(show G1 lv (l.drop i)=G1 (n+1) (l.drop i) by rw [hln]).trans (valD_nil true (by rw [← hB,G3]; exact h123) (by rw [← hB2,G3]; exact hc18))
                  refine A1 (A2 ?_)
                  refine A4 (j:=3) [0,0,0] (k:=A6 (ch:=[]) (b:=t) (off:=1) (v:=.int .i64 ((i17:Nat):Int)) (hA:=At.grp 0 0 rfl rfl) (k:=?_))
                  have hw19:IntKind.wrap .i64 (((i17:Nat):Int)+1)=((i17:Nat):Int)+1:=w64 (by omega) (by omega)
                  refine B5 (E':=[⟨113,[],.int .i64 (((i17:Nat):Int)+1)⟩,⟨109,[],pt t⟩,⟨4,[],pt b1⟩,⟨10,[],pt b15⟩]) [0] (Eq.trans (b:=some [⟨113,[],.int .i64 (IntKind.wrap .i64 (((i17:Nat):Int)+1))⟩,⟨109,[],pt t⟩,⟨4,[],pt b1⟩,⟨10,[],pt b15⟩]) kr (by simp only [hw19])) (j:=5) rfl (B8 (E':=[⟨113,[],.int .i64 ((i17+1:Nat):Int)⟩,⟨109,[],pt t⟩,⟨4,[],pt b1⟩,⟨10,[],pt b15⟩]) (by rw [show ((i17:Nat):Int)+1=((i17+1:Nat):Int) by omega]) ?_)
                  refine A4 (j:=7) [0,0] (k:=D2 (ch:=[]) (b:=t) (off:=1) (v:=.int .i64 ((i17+1:Nat):Int)) (j:=0) ([(t,.cells #[.string (bk l),.int .i64 ((i17+1:Nat):Int)] 83 (0,0))]::[(b15,.cells #[.int .i64 6,.string (ByteArray.mk #[]),.slice none 0 0,.slice none 0 0] 28 (0,0))]::[(b1,.cells #[.int .i64 0,.string (ByteArray.mk #[]),.slice none 0 0,.slice none 0 0] 28 (0,0))]::H) (hoff:=Nat.le_of_ble_eq_true rfl) (hfz:=(fun _ _=>C6)) (k:=?_))
                  refine B2 (E':=[⟨4,[],pt b1⟩,⟨10,[],pt b15⟩]) [] [4,10] (k:=A0 ?_)
                  refine A1 (A2 ?_)
                  refine E8 (ch:=[]) (b:=b15) (off:=0) (l:=[.int .i64 6,.string (ByteArray.mk #[]),.slice none 0 0,.slice none 0 0]) (hA:=At.grp 1 0 rfl rfl) (k:=D2 (ch:=[]) (b:=b1) (off:=0) (v:=.agg #[.int .i64 6,.string (ByteArray.mk #[]),.slice none 0 0,.slice none 0 0]) (j:=2) ([(t,.cells #[.string (bk l),.int .i64 ((i17+1:Nat):Int)] 83 (0,0))]::[(b15,.cells #[.int .i64 6,.string (ByteArray.mk #[]),.slice none 0 0,.slice none 0 0] 28 (0,0))]::[(b1,.cells #[.int .i64 6,.string (ByteArray.mk #[]),.slice none 0 0,.slice none 0 0] 28 (0,0))]::H) (hoff:=Nat.le_of_ble_eq_true rfl) (hfz:=(fun _ _=>C6)) (k:=?_))
                  refine B2 (E':=[⟨4,[],pt b1⟩,⟨5,[],.int .i64 0⟩]) [0] [4,5] (k:=A0 ?_)
                  refine B4 (A3 ?_)
                  refine C1 (H':=([(t,.cells #[.string (bk l),.int .i64 ((i17+1:Nat):Int)] 83 (0,0))]::[(b1,.cells #[.int .i64 6,.string (ByteArray.mk #[]),.slice none 0 0,.slice none 0 0] 28 (0,0))]::[]::H)) (fun w h=>Sat.flat (h.erase 1) (List.Perm.refl _)) (G7 [.cell 4 28,.tmp 5] [.agg #[.int .i64 6,.string (ByteArray.mk #[]),.slice none 0 0,.slice none 0 0],.int .i64 0] rfl (.cons (.agg (b:=b1) (off:=0) (l:=[.int .i64 6,.string (ByteArray.mk #[]),.slice none 0 0,.slice none 0 0]) kr kr kr (At.grp 1 0 rfl rfl) kr) (.cons (.tmp kr) (.nil))) rfl ⟨([(t,.cells #[.string (bk l),.int .i64 ((i17+1:Nat):Int)] 83 (0,0))]::[]::H),?_,fun w h=>(h.erase 1)⟩)
                  exact .inl ⟨_,_,i17+1,_,_,hV,(.mk (ns:=[]) (l:=[]) Go.Sw.Own.nil Go.Sw.Own.nil .nil),rfl,by first | assumption | (rw [List.drop_drop]) | (rw [← hB2,List.drop_drop]),by omega,rfl⟩
                ·
                  simp only [beq_eq_false_iff_ne,ne_eq,u125] at hc18
                  have hne:¬ l.getD i17 0=P5 true:=hc18
                  have hT0:G1 lv (l.drop i)=memL (G1 n) true [] [] (l.drop i17):=by rw [hln,hB2]; exact valD_many true (by rw [← hB,G3]; exact h123) (by rw [← hB2,G3]; exact hne)
                  refine A8 (A0 ?_)
                  refine B9 (G_heap (H':=([(t,.cells #[.string (bk l),.int .i64 ((i17:Nat):Int)] 83 (0,0))]::[(b15,.cells #[.int .i64 6,.string (ByteArray.mk #[]),.slice none 0 0,.slice none 0 0] 28 (0,0))]::[(b1,.cells #[.int .i64 0,.string (ByteArray.mk #[]),.slice none 0 0,.slice none 0 0] 28 (0,0))]::[]::[]::[]::H)) (fun w h=>Sat.flat h (List.Perm.refl _)) ?_)
                  refine J5 (EI:=(fun ξ:Nat × List JV × Nat × Option Addr × Nat × Grp × List Value × Grp × List (List UInt8) × Nat × Option Addr × Nat × Grp=>[⟨0,[],pt t⟩,⟨1,[],.int .i64 d⟩,⟨4,[],pt b1⟩,⟨10,[],pt b15⟩,⟨11,[],.int .u8 125⟩])) (HI:=(fun ξ:Nat × List JV × Nat × Option Addr × Nat × Grp × List Value × Grp × List (List UInt8) × Nat × Option Addr × Nat × Grp=>([(t,.cells #[.string (bk l),.int .i64 ((ξ.1:Nat):Int)] 83 (0,0))]::[(b15,.cells #[.int .i64 6,.string (ByteArray.mk #[]),.slice ξ.2.2.2.2.2.2.2.2.2.2.1 ξ.2.2.2.2.2.2.2.2.2.1 ξ.2.2.2.2.2.2.2.2.2.2.2.1,.slice ξ.2.2.2.1 ξ.2.2.1 ξ.2.2.2.2.1] 28 (0,0))]::[(b1,.cells #[.int .i64 0,.string (ByteArray.mk #[]),.slice none 0 0,.slice none 0 0] 28 (0,0))]::ξ.2.2.2.2.2.2.2.2.2.2.2.2::ξ.2.2.2.2.2.1::ξ.2.2.2.2.2.2.2.1::H))) (Φ:=(fun ξ:Nat × List JV × Nat × Option Addr × Nat × Grp × List Value × Grp × List (List UInt8) × Nat × Option Addr × Nat × Grp=>(ξ.1≤l.length)∧(G1 lv (l.drop i)=memL (G1 n) true ξ.2.2.2.2.2.2.2.2.1 ξ.2.1 (l.drop ξ.1))∧(Go.Sw.Own 28 4 (.slice ξ.2.2.2.1 ξ.2.2.1 ξ.2.2.2.2.1) ξ.2.2.2.2.2.1 ξ.2.2.1 ξ.2.2.2.2.2.2.1)∧(ξ.2.2.1=ξ.2.1.length)∧(JRepL 9 28 ξ.2.1 ξ.2.2.2.2.2.2.1 ξ.2.2.2.2.2.2.2.1)∧(ξ.2.2.1≤ξ.1)∧(Go.Sw.Own 9 1 (.slice ξ.2.2.2.2.2.2.2.2.2.2.1 ξ.2.2.2.2.2.2.2.2.2.1 ξ.2.2.2.2.2.2.2.2.2.2.2.1) ξ.2.2.2.2.2.2.2.2.2.2.2.2 ξ.2.2.2.2.2.2.2.2.2.1 (G4 ξ.2.2.2.2.2.2.2.2.1))∧(ξ.2.2.2.2.2.2.2.2.2.1=ξ.2.2.2.2.2.2.2.2.1.length)∧(ξ.2.2.2.2.2.2.2.2.2.1≤ξ.1))) (μ:=(fun ξ:Nat × List JV × Nat × Option Addr × Nat × Grp × List Value × Grp × List (List UInt8) × Nat × Option Addr × Nat × Grp=>l.length - ξ.1)) (s0:=(i17,[],0,none,0,[],[],[],[],0,none,0,[])) [0,1,4,10,11] kr rfl ⟨(by omega),hT0,Go.Sw.Own.nil,rfl,.nil,(Nat.zero_le _),Go.Sw.Own.nil,rfl,(Nat.zero_le _)⟩ ?_
                  rintro ⟨q,vs,nl,la,lc,gl,cs,gs,ns,nn,na,nc,gn⟩ ⟨hq,hT,hL,hnl,hP,hb,hN0,hnn,hb2⟩
                  dsimp only at hq hT hL hnl hP hb hN0 hnn hb2
                  refine B9 (A1 ?_)
                  refine A1 (A2 ?_)
                  refine A4 (j:=1) [0] (k:=A6 (ch:=[]) (b:=b15) (off:=0) (v:=.int .i64 6) (hA:=At.grp 1 0 rfl rfl) (k:=?_))
                  refine A9 [0] [0,1,4,10,11,119] (k:=A0 ?_)
                  refine F5 kr (A1 ?_)
                  refine A2 (A4 (j:=1) [0] (k:=?_))
                  refine D5 Tryz.func50 (O5 t l q (by omega) (by omega) _ _) ?_
                  rintro _ _ ⟨i20,hbi20,hbi20l,rfl⟩
                  refine A9 [] [0,1,4,10,11] (k:=A0 ?_)
                  refine A1 (A2 ?_)
                  refine A4 (j:=1) [0] (k:=D5 Tryz.func85 (rtext_ t l i20 (by omega) (by omega) _ _) ?_)
                  rintro _ _ (⟨x21,r21,i21,ht21,hr21,hl21,rfl,rfl⟩ | ⟨ht21,i21,hl21,rfl,rfl⟩)
                  ·
                    have htx:J3 (blk (l.drop q))=some (x21,r21):=by rw [← hbi20]; exact ht21
                    refine A9 [0,0,0,0,0] [0,1,4,10,11,12,13] (k:=A0 ?_)
                    refine A1 (A2 ?_)
                    refine A4 (j:=1) [0] (k:=D5 Tryz.func50 (O5 t l i21 (by omega) (by omega) _ _) ?_)
                    rintro _ _ ⟨i22,hbi22,hbi22l,rfl⟩
                    refine A9 [] [0,1,4,10,11,12,13] (k:=A0 ?_)
                    refine A1 (A1 ?_)
                    refine A2 (A4 (j:=4) [0,0,0,0] (k:=?_))
                    refine GL_call (i:=4) (ch:=[(131,false)]) (f:=83) (fst:=#[]) (caps:=#[]) (vs:=[pt t]) rfl rfl rfl kr kr Tryz.func83 rfl rfl kr kr (chSure_of kr) (rnext_ t l i22 _ _) ?_
                    rintro _ _ ⟨rfl,rfl⟩
                    refine A9 [0,3] [0,1,4,10,11,12,135] (k:=A0 ?_)
                    refine B0 (b:=((l.getD i22 0).toNat:Int) != 58) kr (fun hc23=>?_) (fun hc23=>?_)
                    ·
                      simp only [bne_iff_ne,ne_eq,u58] at hc23
                      have hN:J6 true ns (l.drop q)=none:=nameP_no2 htx (by rw [← hr21,← hbi22,G3]; exact hc23)
                      refine A1 (A2 ?_)
                      refine A4 (j:=1) [0] (k:=D2 (ch:=[]) (b:=b1) (off:=0) (v:=.agg #[.int .i64 0,.string (ByteArray.mk #[]),.slice none 0 0,.slice none 0 0]) (j:=2) ([(t,.cells #[.string (bk l),.int .i64 ((i22:Nat):Int)] 83 (0,0))]::[(b15,.cells #[.int .i64 6,.string (ByteArray.mk #[]),.slice na nn nc,.slice la nl lc] 28 (0,0))]::[(b1,.cells #[.int .i64 0,.string (ByteArray.mk #[]),.slice none 0 0,.slice none 0 0] 28 (0,0))]::gn::gl::gs::H) (hoff:=Nat.le_of_ble_eq_true rfl) (hfz:=(fun _ _=>C6)) (k:=?_))
                      refine B2 (E':=[⟨4,[],pt b1⟩,⟨5,[],.int .i64 70⟩]) [0] [4,5] (k:=A0 ?_)
                      refine B4 (A3 ?_)
                      refine A3 (A7 ?_)
                      refine A3 (A7 ?_)
                      refine G7 [.cell 4 28,.tmp 5] [.agg #[.int .i64 0,.string (ByteArray.mk #[]),.slice none 0 0,.slice none 0 0],.int .i64 70] rfl (.cons (.agg (b:=b1) (off:=0) (l:=[.int .i64 0,.string (ByteArray.mk #[]),.slice none 0 0,.slice none 0 0]) kr kr kr (At.grp 2 0 rfl rfl) kr) (.cons (.tmp kr) (.nil))) rfl ⟨([(t,.cells #[.string (bk l),.int .i64 ((i22:Nat):Int)] 83 (0,0))]::H),?_,fun w h=>(((((h.erase 5).erase 4).erase 3).erase 2).erase 1)⟩
                      exact .inr ⟨_,_,(hT.trans (memL_1 (I8 n) hN)),(by decide),rfl,rfl⟩
                    ·
                      simp only [bne_eq_false_iff_eq,u58] at hc23
                      have hi5:i22<l.length:=Q2 hc23 (by decide)
                      have hnm:J6 true ns (l.drop q)=some (ns++[x21],l.drop (i22+1)):=by rw [nameP_yes htx (by rw [← hr21,← hbi22,G3]; exact hc23),← hr21,← hbi22,List.drop_drop]
                      have hnl9:=nameP_len hnm
                      rw [List.length_drop,List.length_drop] at hnl9
                      refine A8 (A0 ?_)
                      refine A1 (A2 ?_)
                      refine A4 (j:=3) [0,0,0] (k:=A6 (ch:=[]) (b:=t) (off:=1) (v:=.int .i64 ((i22:Nat):Int)) (hA:=At.grp 0 0 rfl rfl) (k:=?_))
                      have hw24:IntKind.wrap .i64 (((i22:Nat):Int)+1)=((i22:Nat):Int)+1:=w64 (by omega) (by omega)
                      refine B5 (E':=[⟨141,[],.int .i64 (((i22:Nat):Int)+1)⟩,⟨137,[],pt t⟩,⟨0,[],pt t⟩,⟨1,[],.int .i64 d⟩,⟨4,[],pt b1⟩,⟨10,[],pt b15⟩,⟨11,[],.int .u8 125⟩,⟨12,[],.string (bk x21)⟩]) [0] (Eq.trans (b:=some [⟨141,[],.int .i64 (IntKind.wrap .i64 (((i22:Nat):Int)+1))⟩,⟨137,[],pt t⟩,⟨0,[],pt t⟩,⟨1,[],.int .i64 d⟩,⟨4,[],pt b1⟩,⟨10,[],pt b15⟩,⟨11,[],.int .u8 125⟩,⟨12,[],.string (bk x21)⟩]) kr (by simp only [hw24])) (j:=5) rfl (B8 (E':=[⟨141,[],.int .i64 ((i22+1:Nat):Int)⟩,⟨137,[],pt t⟩,⟨0,[],pt t⟩,⟨1,[],.int .i64 d⟩,⟨4,[],pt b1⟩,⟨10,[],pt b15⟩,⟨11,[],.int .u8 125⟩,⟨12,[],.string (bk x21)⟩]) (by rw [show ((i22:Nat):Int)+1=((i22+1:Nat):Int) by omega]) ?_)
                      refine A4 (j:=7) [0,0] (k:=D2 (ch:=[]) (b:=t) (off:=1) (v:=.int .i64 ((i22+1:Nat):Int)) (j:=0) ([(t,.cells #[.string (bk l),.int .i64 ((i22+1:Nat):Int)] 83 (0,0))]::[(b15,.cells #[.int .i64 6,.string (ByteArray.mk #[]),.slice na nn nc,.slice la nl lc] 28 (0,0))]::[(b1,.cells #[.int .i64 0,.string (ByteArray.mk #[]),.slice none 0 0,.slice none 0 0] 28 (0,0))]::gn::gl::gs::H) (hoff:=Nat.le_of_ble_eq_true rfl) (hfz:=(fun _ _=>C6)) (k:=?_))
                      refine B2 (E':=[⟨0,[],pt t⟩,⟨1,[],.int .i64 d⟩,⟨4,[],pt b1⟩,⟨10,[],pt b15⟩,⟨11,[],.int .u8 125⟩,⟨12,[],.string (bk x21)⟩]) [] [0,1,4,10,11,12] (k:=A0 ?_)
                      refine A2 (A4 (j:=1) [0] (k:=?_))
                      refine A6 (ch:=[]) (b:=b15) (off:=2) (v:=.slice na nn nc) (hA:=At.grp 1 0 rfl rfl) (k:=A4 (j:=3) [0] (k:=?_))
                      refine D0 (ch:=[]) (e:=9) (l:=[(0,.string (bk x21))]) (c:=[.string (bk x21)]) (k:=(fun b25=>?_))
                      refine F8 (i:=4) (ch:=[]) (t:=25) (tx:=25) (e:=9) (inf:=Tryz.t9) (s:=.slice na nn nc) (x:=.slice (some ⟨b25,0,none⟩) 1 1) (n:=nn) (m:=1) (j:=4) (cs:=(G4 ns)) (news:=[.string (bk x21)]) (g:=gn) (S:=(inG [(b25,.cells #[.string (bk x21)] 9 (0,0))])) rfl rfl rfl rfl kr kr kr rfl rfl (.inl ⟨9,kr⟩) (fun ⟨_,h⟩=>by cases h) (fun _=>⟨9,kr⟩) kr kr kr rfl hN0 (SrcOf.slice _ _ _ _ Rd.lit (fun h=>by cases h)) (F7 0 rfl) kr (by intro u hu; rcases List.mem_singleton.1 hu with rfl; rfl) (by omega) (by show (nn+1) * 16≤140737488355328; omega) (fun v26 g27 hO28=>?_)
                      obtain ⟨a29,cap30,rfl,hcap31,hrd32⟩:=hO28.shape
                      refine A4 (j:=6) [0] (k:=D2 (ch:=[]) (b:=b15) (off:=2) (v:=.slice a29 (nn+1) cap30) (j:=2) ([(b25,.cells #[.string (bk x21)] 9 (0,0))]::[(t,.cells #[.string (bk l),.int .i64 ((i22+1:Nat):Int)] 83 (0,0))]::[(b15,.cells #[.int .i64 6,.string (ByteArray.mk #[]),.slice a29 (nn+1) cap30,.slice la nl lc] 28 (0,0))]::[(b1,.cells #[.int .i64 0,.string (ByteArray.mk #[]),.slice none 0 0,.slice none 0 0] 28 (0,0))]::g27::gl::gs::H) (hoff:=Nat.le_of_ble_eq_true rfl) (hfz:=(fun _ _=>C6)) (k:=?_))
                      refine A9 [] [0,1,4,10,11] (k:=A0 ?_)
                      refine A1 (A2 ?_)
                      refine A4 (j:=3) [0,0,0] (k:=D8 153 (d+1) (by omega) (by omega) kr ?_)
                      refine I1 rfl (H':=([(t,.cells #[.string (bk l),.int .i64 ((i22+1:Nat):Int)] 83 (0,0))]::[(b25,.cells #[.string (bk x21)] 9 (0,0))]::[(b15,.cells #[.int .i64 6,.string (ByteArray.mk #[]),.slice a29 (nn+1) cap30,.slice la nl lc] 28 (0,0))]::[(b1,.cells #[.int .i64 0,.string (ByteArray.mk #[]),.slice none 0 0,.slice none 0 0] 28 (0,0))]::g27::gl::gs::H)) (fun w h=>(h.front (j:=1) rfl)) (D5 Tryz.func49 (hrec n hln (i22+1) (by omega) _ _) ?_)
                      rintro _ _ (⟨x34,r34,i34,c34,g34,hv34,hJ34,rfl,hr34,hl34,rfl⟩ | ⟨e34,z34,hv34,he34,rfl,rfl⟩)
                      ·
                        obtain ⟨vk34,vt34,van34,vn34,vcn34,val34,vm34,vcl34,rfl⟩:=hJ34.shape
                        refine A4 (j:=7) [0,0,0] (k:=F0 (ch:=[]) (z:=.agg #[.int .i64 0,.string (ByteArray.mk #[]),.slice none 0 0,.slice none 0 0]) (k:=(fun b35=>?_)))
                        refine D2 (ch:=[]) (b:=b35) (off:=0) (v:=.agg #[.int .i64 vk34,.string vt34,.slice van34 vn34 vcn34,.slice val34 vm34 vcl34]) (j:=0) ([(b35,.cells #[.int .i64 vk34,.string vt34,.slice van34 vn34 vcn34,.slice val34 vm34 vcl34] 28 (0,0))]::[(t,.cells #[.string (bk l),.int .i64 ((i34:Nat):Int)] 83 (0,0))]::g34::[(b25,.cells #[.string (bk x21)] 9 (0,0))]::[(b15,.cells #[.int .i64 6,.string (ByteArray.mk #[]),.slice a29 (nn+1) cap30,.slice la nl lc] 28 (0,0))]::[(b1,.cells #[.int .i64 0,.string (ByteArray.mk #[]),.slice none 0 0,.slice none 0 0] 28 (0,0))]::g27::gl::gs::H) (hoff:=Nat.le_of_ble_eq_true rfl) (hfz:=(fun _ _=>C6)) (k:=A9 [0] [0,1,4,10,11,14,15] (k:=?_))
                        refine A0 (A1 ?_)
                        refine A1 (G_p [0,0] [0,1,4,10,11,14,15,158] (k:=?_))
                        refine A0 (C4 kr ?_)
                        refine A8 (A0 ?_)
                        refine A1 (A2 ?_)
                        refine A4 (j:=1) [0] (k:=A6 (ch:=[]) (b:=b15) (off:=3) (v:=.slice la nl lc) (hA:=At.grp 4 0 rfl rfl) (k:=?_))
                        refine E8 (ch:=[]) (b:=b35) (off:=0) (l:=[.int .i64 vk34,.string vt34,.slice van34 vn34 vcn34,.slice val34 vm34 vcl34]) (hA:=At.grp 0 0 rfl rfl) (k:=D0 (ch:=[]) (e:=28) (l:=[(0,.agg #[.int .i64 vk34,.string vt34,.slice van34 vn34 vcn34,.slice val34 vm34 vcl34])]) (c:=[.int .i64 vk34,.string vt34,.slice van34 vn34 vcn34,.slice val34 vm34 vcl34]) (k:=(fun b36=>?_)))
                        refine F8 (i:=4) (ch:=[]) (t:=26) (tx:=26) (e:=28) (inf:=Tryz.t28) (s:=.slice la nl lc) (x:=.slice (some ⟨b36,0,none⟩) 1 1) (n:=nl) (m:=1) (j:=8) (cs:=cs) (news:=[.int .i64 vk34,.string vt34,.slice van34 vn34 vcn34,.slice val34 vm34 vcl34]) (g:=gl) (S:=(inG [(b36,.cells #[.int .i64 vk34,.string vt34,.slice van34 vn34 vcn34,.slice val34 vm34 vcl34] 28 (0,0))])) rfl rfl rfl rfl kr kr kr rfl rfl (.inl ⟨28,kr⟩) (fun ⟨_,h⟩=>by cases h) (fun _=>⟨28,kr⟩) kr kr kr rfl hL (SrcOf.slice _ _ _ _ Rd.lit (fun h=>by cases h)) (F7 0 rfl) kr (by intro u hu; simp only [List.mem_cons,List.not_mem_nil,or_false] at hu; rcases hu with rfl | rfl | rfl | rfl <;> rfl) (by omega) (by show (nl+1) * 72≤140737488355328; omega) (fun v37 g38 hO39=>?_)
                        obtain ⟨a40,cap41,rfl,hcap42,hrd43⟩:=hO39.shape
                        refine A4 (j:=6) [0] (k:=D2 (ch:=[]) (b:=b15) (off:=3) (v:=.slice a40 (nl+1) cap41) (j:=5) ([(b36,.cells #[.int .i64 vk34,.string vt34,.slice van34 vn34 vcn34,.slice val34 vm34 vcl34] 28 (0,0))]::[(b35,.cells #[.int .i64 vk34,.string vt34,.slice van34 vn34 vcn34,.slice val34 vm34 vcl34] 28 (0,0))]::[(t,.cells #[.string (bk l),.int .i64 ((i34:Nat):Int)] 83 (0,0))]::g34::[(b25,.cells #[.string (bk x21)] 9 (0,0))]::[(b15,.cells #[.int .i64 6,.string (ByteArray.mk #[]),.slice a29 (nn+1) cap30,.slice a40 (nl+1) cap41] 28 (0,0))]::[(b1,.cells #[.int .i64 0,.string (ByteArray.mk #[]),.slice none 0 0,.slice none 0 0] 28 (0,0))]::g27::g38::gs::H) (hoff:=Nat.le_of_ble_eq_true rfl) (hfz:=(fun _ _=>C6)) (k:=?_))
                        refine A9 [] [0,1,4,10,11] (k:=A0 ?_)
                        refine A1 (A2 ?_)
                        refine A4 (j:=1) [0] (k:=I1 rfl (H':=([(t,.cells #[.string (bk l),.int .i64 ((i34:Nat):Int)] 83 (0,0))]::[(b36,.cells #[.int .i64 vk34,.string vt34,.slice van34 vn34 vcn34,.slice val34 vm34 vcl34] 28 (0,0))]::[(b35,.cells #[.int .i64 vk34,.string vt34,.slice van34 vn34 vcn34,.slice val34 vm34 vcl34] 28 (0,0))]::g34::[(b25,.cells #[.string (bk x21)] 9 (0,0))]::[(b15,.cells #[.int .i64 6,.string (ByteArray.mk #[]),.slice a29 (nn+1) cap30,.slice a40 (nl+1) cap41] 28 (0,0))]::[(b1,.cells #[.int .i64 0,.string (ByteArray.mk #[]),.slice none 0 0,.slice none 0 0] 28 (0,0))]::g27::g38::gs::H)) (fun w h=>(h.front (j:=2) rfl)) ?_)
                        refine D5 Tryz.func50 (O5 t l i34 (by omega) (by omega) _ _) ?_
                        rintro _ _ ⟨i44,hbi44,hbi44l,rfl⟩
                        refine A9 [] [0,1,4,10,11] (k:=A0 ?_)
                        refine A1 (A2 ?_)
                        refine A4 (j:=1) [0] (k:=D5 Tryz.func83 (rnext_ t l i44 _ _) ?_)
                        rintro _ _ ⟨rfl,rfl⟩
                        refine B2 (E':=[⟨0,[],pt t⟩,⟨1,[],.int .i64 d⟩,⟨4,[],pt b1⟩,⟨6,[],.int .u8 ((l.getD i44 0).toNat:Int)⟩,⟨10,[],pt b15⟩,⟨11,[],.int .u8 125⟩]) [0] [0,1,4,6,10,11] (k:=A0 ?_)
                        refine A1 (A2 ?_)
                        refine A4 (j:=3) [0,0,0] (k:=A6 (ch:=[]) (b:=t) (off:=1) (v:=.int .i64 ((i44:Nat):Int)) (hA:=At.grp 0 0 rfl rfl) (k:=?_))
                        have hw45:IntKind.wrap .i64 (((i44:Nat):Int)+1)=((i44:Nat):Int)+1:=w64 (by omega) (by omega)
                        refine B5 (E':=[⟨175,[],.int .i64 (((i44:Nat):Int)+1)⟩,⟨171,[],pt t⟩,⟨0,[],pt t⟩,⟨1,[],.int .i64 d⟩,⟨4,[],pt b1⟩,⟨6,[],.int .u8 ((l.getD i44 0).toNat:Int)⟩,⟨10,[],pt b15⟩,⟨11,[],.int .u8 125⟩]) [0] (Eq.trans (b:=some [⟨175,[],.int .i64 (IntKind.wrap .i64 (((i44:Nat):Int)+1))⟩,⟨171,[],pt t⟩,⟨0,[],pt t⟩,⟨1,[],.int .i64 d⟩,⟨4,[],pt b1⟩,⟨6,[],.int .u8 ((l.getD i44 0).toNat:Int)⟩,⟨10,[],pt b15⟩,⟨11,[],.int .u8 125⟩]) kr (by simp only [hw45])) (j:=5) rfl (B8 (E':=[⟨175,[],.int .i64 ((i44+1:Nat):Int)⟩,⟨171,[],pt t⟩,⟨0,[],pt t⟩,⟨1,[],.int .i64 d⟩,⟨4,[],pt b1⟩,⟨6,[],.int .u8 ((l.getD i44 0).toNat:Int)⟩,⟨10,[],pt b15⟩,⟨11,[],.int .u8 125⟩]) (by rw [show ((i44:Nat):Int)+1=((i44+1:Nat):Int) by omega]) ?_)
                        refine A4 (j:=7) [0,0] (k:=D2 (ch:=[]) (b:=t) (off:=1) (v:=.int .i64 ((i44+1:Nat):Int)) (j:=0) ([(t,.cells #[.string (bk l),.int .i64 ((i44+1:Nat):Int)] 83 (0,0))]::[(b36,.cells #[.int .i64 vk34,.string vt34,.slice van34 vn34 vcn34,.slice val34 vm34 vcl34] 28 (0,0))]::[(b35,.cells #[.int .i64 vk34,.string vt34,.slice van34 vn34 vcn34,.slice val34 vm34 vcl34] 28 (0,0))]::g34::[(b25,.cells #[.string (bk x21)] 9 (0,0))]::[(b15,.cells #[.int .i64 6,.string (ByteArray.mk #[]),.slice a29 (nn+1) cap30,.slice a40 (nl+1) cap41] 28 (0,0))]::[(b1,.cells #[.int .i64 0,.string (ByteArray.mk #[]),.slice none 0 0,.slice none 0 0] 28 (0,0))]::g27::g38::gs::H) (hoff:=Nat.le_of_ble_eq_true rfl) (hfz:=(fun _ _=>C6)) (k:=?_))
                        refine A9 [] [0,1,4,6,10,11] (k:=A0 ?_)
                        refine A1 (A1 ?_)
                        refine G_p [0,0,0] [0,1,4,6,10,11,180] (k:=A0 ?_)
                        refine B0 (b:=((l.getD i44 0).toNat:Int)==125) kr (fun hc46=>?_) (fun hc46=>?_)
                        ·
                          simp only [beq_iff_eq,u125] at hc46
                          have hi7:i44<l.length:=Q2 hc46 (by decide)
                          have hc7:blk r34=l.getD i44 0::l.drop (i44+1):=by rw [← hr34,← hbi44]; exact Q4 hi7
                          have hV:=hT.trans (memL_4 (I8 n) hnm hv34 hc7 (show l.getD i44 0=P5 true from hc46))
                          refine A1 (A2 ?_)
                          refine E8 (ch:=[]) (b:=b15) (off:=0) (l:=[.int .i64 6,.string (ByteArray.mk #[]),.slice a29 (nn+1) cap30,.slice a40 (nl+1) cap41]) (hA:=At.grp 5 0 rfl rfl) (k:=D2 (ch:=[]) (b:=b1) (off:=0) (v:=.agg #[.int .i64 6,.string (ByteArray.mk #[]),.slice a29 (nn+1) cap30,.slice a40 (nl+1) cap41]) (j:=6) ([(t,.cells #[.string (bk l),.int .i64 ((i44+1:Nat):Int)] 83 (0,0))]::[(b36,.cells #[.int .i64 vk34,.string vt34,.slice van34 vn34 vcn34,.slice val34 vm34 vcl34] 28 (0,0))]::[(b35,.cells #[.int .i64 vk34,.string vt34,.slice van34 vn34 vcn34,.slice val34 vm34 vcl34] 28 (0,0))]::g34::[(b25,.cells #[.string (bk x21)] 9 (0,0))]::[(b15,.cells #[.int .i64 6,.string (ByteArray.mk #[]),.slice a29 (nn+1) cap30,.slice a40 (nl+1) cap41] 28 (0,0))]::[(b1,.cells #[.int .i64 6,.string (ByteArray.mk #[]),.slice a29 (nn+1) cap30,.slice a40 (nl+1) cap41] 28 (0,0))]::g27::g38::gs::H) (hoff:=Nat.le_of_ble_eq_true rfl) (hfz:=(fun _ _=>C6)) (k:=?_))
                          refine B2 (E':=[⟨4,[],pt b1⟩,⟨5,[],.int .i64 0⟩]) [0] [4,5] (k:=A0 ?_)
                          refine B4 (A3 ?_)
                          refine A7 (A3 ?_)
                          refine A7 (C1 (H':=([(t,.cells #[.string (bk l),.int .i64 ((i44+1:Nat):Int)] 83 (0,0))]::[(b1,.cells #[.int .i64 6,.string (ByteArray.mk #[]),.slice a29 (nn+1) cap30,.slice a40 (nl+1) cap41] 28 (0,0))]::(g27++(g38++(gs++g34)))::H)) (fun w h=>Sat.flat ((((((((((h.front (j:=3) rfl).front (j:=9) rfl).front (j:=9) rfl).front (j:=9) rfl).front (j:=9) rfl).front (j:=5) rfl).erase 9).erase 8).erase 7).erase 6) (List.Perm.of_eq (by simp))) ?_)
                          refine G7 [.cell 4 28,.tmp 5] [.agg #[.int .i64 6,.string (ByteArray.mk #[]),.slice a29 (nn+1) cap30,.slice a40 (nl+1) cap41],.int .i64 0] rfl (.cons (.agg (b:=b1) (off:=0) (l:=[.int .i64 6,.string (ByteArray.mk #[]),.slice a29 (nn+1) cap30,.slice a40 (nl+1) cap41]) kr kr kr (At.grp 1 0 rfl rfl) kr) (.cons (.tmp kr) (.nil))) rfl ⟨([(t,.cells #[.string (bk l),.int .i64 ((i44+1:Nat):Int)] 83 (0,0))]::(g27++(g38++(gs++g34)))::H),?_,fun w h=>(h.erase 1)⟩
                          subst hnl; subst hnn; exact .inl ⟨_,_,i44+1,_,_,hV,.mk (by rw [strV_app,List.length_append]; exact hO28) (by rw [List.length_append]; exact hO39) (hP.snoc hJ34),(by simp only [List.length_append]; rfl),rfl,by omega,rfl⟩
                        ·
                          simp only [beq_eq_false_iff_ne,ne_eq,u125] at hc46
                          have hce:¬ l.getD i44 0=P5 true:=hc46
                          refine A8 (A0 ?_)
                          refine A1 (G_p [0,0] [0,1,4,10,11,183] (k:=?_))
                          refine A0 (B0 (b:=((l.getD i44 0).toNat:Int) != 44) kr (fun hc47=>?_) (fun hc47=>?_))
                          ·
                            simp only [bne_iff_ne,ne_eq,u44] at hc47
                            have hV:G1 lv (l.drop i)=.error 70:=by
                              rcases Nat.lt_or_ge i44 l.length with hi7 | hi7
                              · have hc7:blk r34=l.getD i44 0::l.drop (i44+1):=by rw [← hr34,← hbi44]; exact Q4 hi7
                                exact hT.trans (memL_6 (I8 n) hnm hv34 hc7 hce hc47)
                              · exact hT.trans (memL_3 (I8 n) hnm hv34 (by rw [← hr34,← hbi44,List.drop_eq_nil_of_le hi7]))
                            refine A1 (A2 ?_)
                            refine A4 (j:=1) [0] (k:=D2 (ch:=[]) (b:=b1) (off:=0) (v:=.agg #[.int .i64 0,.string (ByteArray.mk #[]),.slice none 0 0,.slice none 0 0]) (j:=6) ([(t,.cells #[.string (bk l),.int .i64 ((i44+1:Nat):Int)] 83 (0,0))]::[(b36,.cells #[.int .i64 vk34,.string vt34,.slice van34 vn34 vcn34,.slice val34 vm34 vcl34] 28 (0,0))]::[(b35,.cells #[.int .i64 vk34,.string vt34,.slice van34 vn34 vcn34,.slice val34 vm34 vcl34] 28 (0,0))]::g34::[(b25,.cells #[.string (bk x21)] 9 (0,0))]::[(b15,.cells #[.int .i64 6,.string (ByteArray.mk #[]),.slice a29 (nn+1) cap30,.slice a40 (nl+1) cap41] 28 (0,0))]::[(b1,.cells #[.int .i64 0,.string (ByteArray.mk #[]),.slice none 0 0,.slice none 0 0] 28 (0,0))]::g27::g38::gs::H) (hoff:=Nat.le_of_ble_eq_true rfl) (hfz:=(fun _ _=>C6)) (k:=?_))
                            refine B2 (E':=[⟨4,[],pt b1⟩,⟨5,[],.int .i64 70⟩]) [0] [4,5] (k:=A0 ?_)
                            refine B4 (A7 ?_)
                            refine A3 (A7 ?_)
                            refine G7 [.cell 4 28,.tmp 5] [.agg #[.int .i64 0,.string (ByteArray.mk #[]),.slice none 0 0,.slice none 0 0],.int .i64 70] rfl (.cons (.agg (b:=b1) (off:=0) (l:=[.int .i64 0,.string (ByteArray.mk #[]),.slice none 0 0,.slice none 0 0]) kr kr kr (At.grp 6 0 rfl rfl) kr) (.cons (.tmp kr) (.nil))) rfl ⟨([(t,.cells #[.string (bk l),.int .i64 ((i44+1:Nat):Int)] 83 (0,0))]::H),?_,fun w h=>(((((((((h.erase 9).erase 8).erase 7).erase 6).erase 5).erase 4).erase 3).erase 2).erase 1)⟩
                            exact .inr ⟨_,_,hV,(by decide),rfl,rfl⟩
                          ·
                            simp only [bne_eq_false_iff_eq,u44] at hc47
                            have hc44:=hc47
                            have hi7:i44<l.length:=Q2 hc47 (by decide)
                            have hc7:blk r34=l.getD i44 0::l.drop (i44+1):=by rw [← hr34,← hbi44]; exact Q4 hi7
                            have hdc:=I8 n _ _ _ hv34
                            have hbl7:=H4 r34
                            rw [hc7,List.length_cons,List.length_drop] at hbl7
                            rw [List.length_drop] at hdc
                            refine A8 (C0 ?_)
                            refine C1 (H':=([(t,.cells #[.string (bk l),.int .i64 ((i44+1:Nat):Int)] 83 (0,0))]::[(b15,.cells #[.int .i64 6,.string (ByteArray.mk #[]),.slice a29 (nn+1) cap30,.slice a40 (nl+1) cap41] 28 (0,0))]::[(b1,.cells #[.int .i64 0,.string (ByteArray.mk #[]),.slice none 0 0,.slice none 0 0] 28 (0,0))]::g27::g38::(gs++g34)::H)) (fun w h=>Sat.flat ((((((((((h.front (j:=3) rfl).front (j:=9) rfl).front (j:=9) rfl).front (j:=9) rfl).front (j:=9) rfl).front (j:=9) rfl).front (j:=6) rfl).erase 9).erase 8).erase 7) (List.Perm.of_eq (by simp))) (F3 (s':=(i44+1,(vs++[x34]),(nl+1),a40,cap41,g38,(cs++[.int .i64 vk34,.string vt34,.slice van34 vn34 vcn34,.slice val34 vm34 vcl34]),(gs++g34),(ns++[x21]),(nn+1),a29,cap30,g27)) [0,1,4,10,11] kr rfl ⟨(by dsimp only; omega),(by dsimp only; exact hT.trans (memL_5 (I8 n) hnm hv34 hc7 hce hc44)),(by dsimp only; exact hO39),(by dsimp only; rw [List.length_append,hnl]; rfl),(by dsimp only; exact hP.snoc hJ34),(by dsimp only; omega),(by dsimp only; rw [strV_app]; exact hO28),(by dsimp only; rw [List.length_append,hnn]; rfl),(by dsimp only; omega)⟩ (by dsimp only; omega))
                      ·
                        refine A4 (j:=7) [0,0,0] (k:=F0 (ch:=[]) (z:=.agg #[.int .i64 0,.string (ByteArray.mk #[]),.slice none 0 0,.slice none 0 0]) (k:=(fun b48=>?_)))
                        refine D2 (ch:=[]) (b:=b48) (off:=0) (v:=.agg #[.int .i64 0,.string (ByteArray.mk #[]),.slice none 0 0,.slice none 0 0]) (j:=0) ([(b48,.cells #[.int .i64 0,.string (ByteArray.mk #[]),.slice none 0 0,.slice none 0 0] 28 (0,0))]::[(t,.cells #[.string (bk l),.int .i64 z34] 83 (0,0))]::[(b25,.cells #[.string (bk x21)] 9 (0,0))]::[(b15,.cells #[.int .i64 6,.string (ByteArray.mk #[]),.slice a29 (nn+1) cap30,.slice la nl lc] 28 (0,0))]::[(b1,.cells #[.int .i64 0,.string (ByteArray.mk #[]),.slice none 0 0,.slice none 0 0] 28 (0,0))]::g27::gl::gs::H) (hoff:=Nat.le_of_ble_eq_true rfl) (hfz:=(fun _ _=>C6)) (k:=A9 [0] [0,1,4,10,11,14,15] (k:=?_))
                        refine A0 (A1 ?_)
                        refine A1 (G_p [0,0] [0,1,4,10,11,14,15,158] (k:=?_))
                        refine A0 (B0 (b:=e34 != 0) kr (fun hc49=>?_) (fun hc49=>?_))
                        ·
                          have hV:=hT.trans (memL_2 (I8 n) hnm hv34)
                          refine A1 (A2 ?_)
                          refine A4 (j:=2) [0,0] (k:=D2 (ch:=[]) (b:=b1) (off:=0) (v:=.agg #[.int .i64 0,.string (ByteArray.mk #[]),.slice none 0 0,.slice none 0 0]) (j:=4) ([(b48,.cells #[.int .i64 0,.string (ByteArray.mk #[]),.slice none 0 0,.slice none 0 0] 28 (0,0))]::[(t,.cells #[.string (bk l),.int .i64 z34] 83 (0,0))]::[(b25,.cells #[.string (bk x21)] 9 (0,0))]::[(b15,.cells #[.int .i64 6,.string (ByteArray.mk #[]),.slice a29 (nn+1) cap30,.slice la nl lc] 28 (0,0))]::[(b1,.cells #[.int .i64 0,.string (ByteArray.mk #[]),.slice none 0 0,.slice none 0 0] 28 (0,0))]::g27::gl::gs::H) (hoff:=Nat.le_of_ble_eq_true rfl) (hfz:=(fun _ _=>C6)) (k:=?_))
                          refine B2 (E':=[⟨4,[],pt b1⟩,⟨5,[],.int .i64 e34⟩]) [0] [4,5] (k:=A0 ?_)
                          refine B4 (A3 ?_)
                          refine A7 (A3 ?_)
                          refine A7 (G7 [.cell 4 28,.tmp 5] [.agg #[.int .i64 0,.string (ByteArray.mk #[]),.slice none 0 0,.slice none 0 0],.int .i64 e34] rfl (.cons (.agg (b:=b1) (off:=0) (l:=[.int .i64 0,.string (ByteArray.mk #[]),.slice none 0 0,.slice none 0 0]) kr kr kr (At.grp 4 0 rfl rfl) kr) (.cons (.tmp kr) (.nil))) rfl ⟨([(t,.cells #[.string (bk l),.int .i64 z34] 83 (0,0))]::H),?_,fun w h=>(((((((h.erase 7).erase 6).erase 5).erase 4).erase 3).erase 2).erase 0)⟩)
                          exact .inr ⟨_,_,hV,he34,rfl,rfl⟩
                        ·
                          exact absurd (by simpa using hc49) he34
                  ·
                    have hN:J6 true ns (l.drop q)=none:=nameP_no1 (by rw [← hbi20]; exact ht21)
                    refine A9 [0,0,0,0,0] [0,1,4,10,11,12,13] (k:=A0 ?_)
                    refine A1 (A2 ?_)
                    refine A4 (j:=1) [0] (k:=D5 Tryz.func50 (O5 t l i21 (by omega) (by omega) _ _) ?_)
                    rintro _ _ ⟨i50,hbi50,hbi50l,rfl⟩
                    refine A9 [] [0,1,4,10,11,12,13] (k:=A0 ?_)
                    refine A1 (A1 ?_)
                    refine G_p [0,0,0,1,1,1,2] [0,1,4,10,11,12,135] (k:=A0 ?_)
                    refine F5 kr (A1 ?_)
                    refine A2 (A4 (j:=1) [0] (k:=?_))
                    refine D2 (ch:=[]) (b:=b1) (off:=0) (v:=.agg #[.int .i64 0,.string (ByteArray.mk #[]),.slice none 0 0,.slice none 0 0]) (j:=2) ([(t,.cells #[.string (bk l),.int .i64 ((i50:Nat):Int)] 83 (0,0))]::[(b15,.cells #[.int .i64 6,.string (ByteArray.mk #[]),.slice na nn nc,.slice la nl lc] 28 (0,0))]::[(b1,.cells #[.int .i64 0,.string (ByteArray.mk #[]),.slice none 0 0,.slice none 0 0] 28 (0,0))]::gn::gl::gs::H) (hoff:=Nat.le_of_ble_eq_true rfl) (hfz:=(fun _ _=>C6)) (k:=B2 (E':=[⟨4,[],pt b1⟩,⟨5,[],.int .i64 70⟩]) [0] [4,5] (k:=?_))
                    refine A0 (B4 ?_)
                    refine A3 (A3 ?_)
                    refine A7 (A3 ?_)
                    refine A7 (G7 [.cell 4 28,.tmp 5] [.agg #[.int .i64 0,.string (ByteArray.mk #[]),.slice none 0 0,.slice none 0 0],.int .i64 70] rfl (.cons (.agg (b:=b1) (off:=0) (l:=[.int .i64 0,.string (ByteArray.mk #[]),.slice none 0 0,.slice none 0 0]) kr kr kr (At.grp 2 0 rfl rfl) kr) (.cons (.tmp kr) (.nil))) rfl ⟨([(t,.cells #[.string (bk l),.int .i64 ((i50:Nat):Int)] 83 (0,0))]::H),?_,fun w h=>(((((h.erase 5).erase 4).erase 3).erase 2).erase 1)⟩)
                    exact .inr ⟨_,_,(hT.trans (memL_1 (I8 n) hN)),(by decide),rfl,rfl⟩
              ·
                simp only [beq_eq_false_iff_ne,ne_eq,u123] at hc16
                have h91:l.getD i1 0=91:=by
                  rcases hop with h | h
                  · rw [G3] at h; exact h
                  · rw [G3] at h; exact absurd h hc16
                refine A8 (A0 ?_)
                refine A1 (A2 ?_)
                refine A4 (j:=1) [0] (k:=I1 rfl (H':=([(t,.cells #[.string (bk l),.int .i64 ((i1+1:Nat):Int)] 83 (0,0))]::[(b15,.cells #[.int .i64 5,.string (ByteArray.mk #[]),.slice none 0 0,.slice none 0 0] 28 (0,0))]::[(b1,.cells #[.int .i64 0,.string (ByteArray.mk #[]),.slice none 0 0,.slice none 0 0] 28 (0,0))]::H)) (fun w h=>(h.front (j:=1) rfl)) ?_)
                refine D5 Tryz.func50 (O5 t l (i1+1) (by omega) (by omega) _ _) ?_
                rintro _ _ ⟨i51,hbi51,hbi51l,rfl⟩
                have hB2:l.drop i51=blk ((blk (l.drop i)).drop 1):=by rw [hbi51,← hB,List.drop_drop]
                refine A9 [] [0,1,4,10,11] (k:=A0 ?_)
                refine A1 (A1 ?_)
                refine A2 (A4 (j:=1) [0] (k:=?_))
                refine D5 Tryz.func83 (rnext_ t l i51 _ _) ?_
                rintro _ _ ⟨rfl,rfl⟩
                refine A9 [0,0] [0,1,4,10,11,108] (k:=A0 ?_)
                refine B0 (b:=((l.getD i51 0).toNat:Int)==93) kr (fun hc52=>?_) (fun hc52=>?_)
                ·
                  simp only [beq_iff_eq,u93] at hc52
                  have hi2:i51<l.length:=Q2 hc52 (by decide)
                  have hV:=(show G1 lv (l.drop i)=G1 (n+1) (l.drop i) by rw [hln]).trans (valD_nil false (by rw [← hB,G3]; exact h91) (by rw [← hB2,G3]; exact hc52))
                  refine A1 (A2 ?_)
                  refine A4 (j:=3) [0,0,0] (k:=A6 (ch:=[]) (b:=t) (off:=1) (v:=.int .i64 ((i51:Nat):Int)) (hA:=At.grp 0 0 rfl rfl) (k:=?_))
                  have hw53:IntKind.wrap .i64 (((i51:Nat):Int)+1)=((i51:Nat):Int)+1:=w64 (by omega) (by omega)
                  refine B5 (E':=[⟨113,[],.int .i64 (((i51:Nat):Int)+1)⟩,⟨109,[],pt t⟩,⟨4,[],pt b1⟩,⟨10,[],pt b15⟩]) [0] (Eq.trans (b:=some [⟨113,[],.int .i64 (IntKind.wrap .i64 (((i51:Nat):Int)+1))⟩,⟨109,[],pt t⟩,⟨4,[],pt b1⟩,⟨10,[],pt b15⟩]) kr (by simp only [hw53])) (j:=5) rfl (B8 (E':=[⟨113,[],.int .i64 ((i51+1:Nat):Int)⟩,⟨109,[],pt t⟩,⟨4,[],pt b1⟩,⟨10,[],pt b15⟩]) (by rw [show ((i51:Nat):Int)+1=((i51+1:Nat):Int) by omega]) ?_)
                  refine A4 (j:=7) [0,0] (k:=D2 (ch:=[]) (b:=t) (off:=1) (v:=.int .i64 ((i51+1:Nat):Int)) (j:=0) ([(t,.cells #[.string (bk l),.int .i64 ((i51+1:Nat):Int)] 83 (0,0))]::[(b15,.cells #[.int .i64 5,.string (ByteArray.mk #[]),.slice none 0 0,.slice none 0 0] 28 (0,0))]::[(b1,.cells #[.int .i64 0,.string (ByteArray.mk #[]),.slice none 0 0,.slice none 0 0] 28 (0,0))]::H) (hoff:=Nat.le_of_ble_eq_true rfl) (hfz:=(fun _ _=>C6)) (k:=?_))
                  refine B2 (E':=[⟨4,[],pt b1⟩,⟨10,[],pt b15⟩]) [] [4,10] (k:=A0 ?_)
                  refine A1 (A2 ?_)
                  refine E8 (ch:=[]) (b:=b15) (off:=0) (l:=[.int .i64 5,.string (ByteArray.mk #[]),.slice none 0 0,.slice none 0 0]) (hA:=At.grp 1 0 rfl rfl) (k:=D2 (ch:=[]) (b:=b1) (off:=0) (v:=.agg #[.int .i64 5,.string (ByteArray.mk #[]),.slice none 0 0,.slice none 0 0]) (j:=2) ([(t,.cells #[.string (bk l),.int .i64 ((i51+1:Nat):Int)] 83 (0,0))]::[(b15,.cells #[.int .i64 5,.string (ByteArray.mk #[]),.slice none 0 0,.slice none 0 0] 28 (0,0))]::[(b1,.cells #[.int .i64 5,.string (ByteArray.mk #[]),.slice none 0 0,.slice none 0 0] 28 (0,0))]::H) (hoff:=Nat.le_of_ble_eq_true rfl) (hfz:=(fun _ _=>C6)) (k:=?_))
                  refine B2 (E':=[⟨4,[],pt b1⟩,⟨5,[],.int .i64 0⟩]) [0] [4,5] (k:=A0 ?_)
                  refine B4 (A3 ?_)
                  refine C1 (H':=([(t,.cells #[.string (bk l),.int .i64 ((i51+1:Nat):Int)] 83 (0,0))]::[(b1,.cells #[.int .i64 5,.string (ByteArray.mk #[]),.slice none 0 0,.slice none 0 0] 28 (0,0))]::[]::H)) (fun w h=>Sat.flat (h.erase 1) (List.Perm.refl _)) (G7 [.cell 4 28,.tmp 5] [.agg #[.int .i64 5,.string (ByteArray.mk #[]),.slice none 0 0,.slice none 0 0],.int .i64 0] rfl (.cons (.agg (b:=b1) (off:=0) (l:=[.int .i64 5,.string (ByteArray.mk #[]),.slice none 0 0,.slice none 0 0]) kr kr kr (At.grp 1 0 rfl rfl) kr) (.cons (.tmp kr) (.nil))) rfl ⟨([(t,.cells #[.string (bk l),.int .i64 ((i51+1:Nat):Int)] 83 (0,0))]::[]::H),?_,fun w h=>(h.erase 1)⟩)
                  exact .inl ⟨_,_,i51+1,_,_,hV,(.mk (ns:=[]) (l:=[]) Go.Sw.Own.nil Go.Sw.Own.nil .nil),rfl,by first | assumption | (rw [List.drop_drop]) | (rw [← hB2,List.drop_drop]),by omega,rfl⟩
                ·
                  simp only [beq_eq_false_iff_ne,ne_eq,u93] at hc52
                  have hne:¬ l.getD i51 0=P5 false:=hc52
                  have hT0:G1 lv (l.drop i)=memL (G1 n) false [] [] (l.drop i51):=by rw [hln,hB2]; exact valD_many false (by rw [← hB,G3]; exact h91) (by rw [← hB2,G3]; exact hne)
                  refine A8 (A0 ?_)
                  refine B9 (G_heap (H':=([(t,.cells #[.string (bk l),.int .i64 ((i51:Nat):Int)] 83 (0,0))]::[(b15,.cells #[.int .i64 5,.string (ByteArray.mk #[]),.slice none 0 0,.slice none 0 0] 28 (0,0))]::[(b1,.cells #[.int .i64 0,.string (ByteArray.mk #[]),.slice none 0 0,.slice none 0 0] 28 (0,0))]::[]::[]::H)) (fun w h=>Sat.flat h (List.Perm.refl _)) ?_)
                  refine J5 (EI:=(fun ξ:Nat × List JV × Nat × Option Addr × Nat × Grp × List Value × Grp=>[⟨0,[],pt t⟩,⟨1,[],.int .i64 d⟩,⟨4,[],pt b1⟩,⟨10,[],pt b15⟩,⟨11,[],.int .u8 93⟩])) (HI:=(fun ξ:Nat × List JV × Nat × Option Addr × Nat × Grp × List Value × Grp=>([(t,.cells #[.string (bk l),.int .i64 ((ξ.1:Nat):Int)] 83 (0,0))]::[(b15,.cells #[.int .i64 5,.string (ByteArray.mk #[]),.slice none 0 0,.slice ξ.2.2.2.1 ξ.2.2.1 ξ.2.2.2.2.1] 28 (0,0))]::[(b1,.cells #[.int .i64 0,.string (ByteArray.mk #[]),.slice none 0 0,.slice none 0 0] 28 (0,0))]::ξ.2.2.2.2.2.1::ξ.2.2.2.2.2.2.2::H))) (Φ:=(fun ξ:Nat × List JV × Nat × Option Addr × Nat × Grp × List Value × Grp=>(ξ.1≤l.length)∧(G1 lv (l.drop i)=memL (G1 n) false [] ξ.2.1 (l.drop ξ.1))∧(Go.Sw.Own 28 4 (.slice ξ.2.2.2.1 ξ.2.2.1 ξ.2.2.2.2.1) ξ.2.2.2.2.2.1 ξ.2.2.1 ξ.2.2.2.2.2.2.1)∧(ξ.2.2.1=ξ.2.1.length)∧(JRepL 9 28 ξ.2.1 ξ.2.2.2.2.2.2.1 ξ.2.2.2.2.2.2.2)∧(ξ.2.2.1≤ξ.1))) (μ:=(fun ξ:Nat × List JV × Nat × Option Addr × Nat × Grp × List Value × Grp=>l.length - ξ.1)) (s0:=(i51,[],0,none,0,[],[],[])) [0,1,4,10,11] kr rfl ⟨(by omega),hT0,Go.Sw.Own.nil,rfl,.nil,(Nat.zero_le _)⟩ ?_
                  rintro ⟨q,vs,nl,la,lc,gl,cs,gs⟩ ⟨hq,hT,hL,hnl,hP,hb⟩
                  dsimp only at hq hT hL hnl hP hb
                  have hnm:J6 false [] (l.drop q)=some ([],l.drop q):=nameP_list _ _
                  refine B9 (A1 ?_)
                  refine A1 (A2 ?_)
                  refine A4 (j:=1) [0] (k:=A6 (ch:=[]) (b:=b15) (off:=0) (v:=.int .i64 5) (hA:=At.grp 1 0 rfl rfl) (k:=?_))
                  refine A9 [0] [0,1,4,10,11,119] (k:=A0 ?_)
                  refine C4 kr (A8 ?_)
                  refine A0 (A1 ?_)
                  refine A2 (A4 (j:=3) [0,0,0] (k:=?_))
                  refine D8 153 (d+1) (by omega) (by omega) kr (D5 Tryz.func49 (hrec n hln q (by omega) _ _) ?_)
                  rintro _ _ (⟨x55,r55,i55,c55,g55,hv55,hJ55,rfl,hr55,hl55,rfl⟩ | ⟨e55,z55,hv55,he55,rfl,rfl⟩)
                  ·
                    obtain ⟨vk55,vt55,van55,vn55,vcn55,val55,vm55,vcl55,rfl⟩:=hJ55.shape
                    refine A4 (j:=7) [0,0,0] (k:=F0 (ch:=[]) (z:=.agg #[.int .i64 0,.string (ByteArray.mk #[]),.slice none 0 0,.slice none 0 0]) (k:=(fun b56=>?_)))
                    refine D2 (ch:=[]) (b:=b56) (off:=0) (v:=.agg #[.int .i64 vk55,.string vt55,.slice van55 vn55 vcn55,.slice val55 vm55 vcl55]) (j:=0) ([(b56,.cells #[.int .i64 vk55,.string vt55,.slice van55 vn55 vcn55,.slice val55 vm55 vcl55] 28 (0,0))]::[(t,.cells #[.string (bk l),.int .i64 ((i55:Nat):Int)] 83 (0,0))]::g55::[(b15,.cells #[.int .i64 5,.string (ByteArray.mk #[]),.slice none 0 0,.slice la nl lc] 28 (0,0))]::[(b1,.cells #[.int .i64 0,.string (ByteArray.mk #[]),.slice none 0 0,.slice none 0 0] 28 (0,0))]::gl::gs::H) (hoff:=Nat.le_of_ble_eq_true rfl) (hfz:=(fun _ _=>C6)) (k:=A9 [0] [0,1,4,10,11,14,15] (k:=?_))
                    refine A0 (A1 ?_)
                    refine A1 (G_p [0,0] [0,1,4,10,11,14,15,158] (k:=?_))
                    refine A0 (C4 kr ?_)
                    refine A8 (A0 ?_)
                    refine A1 (A2 ?_)
                    refine A4 (j:=1) [0] (k:=A6 (ch:=[]) (b:=b15) (off:=3) (v:=.slice la nl lc) (hA:=At.grp 3 0 rfl rfl) (k:=?_))
                    refine E8 (ch:=[]) (b:=b56) (off:=0) (l:=[.int .i64 vk55,.string vt55,.slice van55 vn55 vcn55,.slice val55 vm55 vcl55]) (hA:=At.grp 0 0 rfl rfl) (k:=D0 (ch:=[]) (e:=28) (l:=[(0,.agg #[.int .i64 vk55,.string vt55,.slice van55 vn55 vcn55,.slice val55 vm55 vcl55])]) (c:=[.int .i64 vk55,.string vt55,.slice van55 vn55 vcn55,.slice val55 vm55 vcl55]) (k:=(fun b57=>?_)))
                    refine F8 (i:=4) (ch:=[]) (t:=26) (tx:=26) (e:=28) (inf:=Tryz.t28) (s:=.slice la nl lc) (x:=.slice (some ⟨b57,0,none⟩) 1 1) (n:=nl) (m:=1) (j:=6) (cs:=cs) (news:=[.int .i64 vk55,.string vt55,.slice van55 vn55 vcn55,.slice val55 vm55 vcl55]) (g:=gl) (S:=(inG [(b57,.cells #[.int .i64 vk55,.string vt55,.slice van55 vn55 vcn55,.slice val55 vm55 vcl55] 28 (0,0))])) rfl rfl rfl rfl kr kr kr rfl rfl (.inl ⟨28,kr⟩) (fun ⟨_,h⟩=>by cases h) (fun _=>⟨28,kr⟩) kr kr kr rfl hL (SrcOf.slice _ _ _ _ Rd.lit (fun h=>by cases h)) (F7 0 rfl) kr (by intro u hu; simp only [List.mem_cons,List.not_mem_nil,or_false] at hu; rcases hu with rfl | rfl | rfl | rfl <;> rfl) (by omega) (by show (nl+1) * 72≤140737488355328; omega) (fun v58 g59 hO60=>?_)
                    obtain ⟨a61,cap62,rfl,hcap63,hrd64⟩:=hO60.shape
                    refine A4 (j:=6) [0] (k:=D2 (ch:=[]) (b:=b15) (off:=3) (v:=.slice a61 (nl+1) cap62) (j:=4) ([(b57,.cells #[.int .i64 vk55,.string vt55,.slice van55 vn55 vcn55,.slice val55 vm55 vcl55] 28 (0,0))]::[(b56,.cells #[.int .i64 vk55,.string vt55,.slice van55 vn55 vcn55,.slice val55 vm55 vcl55] 28 (0,0))]::[(t,.cells #[.string (bk l),.int .i64 ((i55:Nat):Int)] 83 (0,0))]::g55::[(b15,.cells #[.int .i64 5,.string (ByteArray.mk #[]),.slice none 0 0,.slice a61 (nl+1) cap62] 28 (0,0))]::[(b1,.cells #[.int .i64 0,.string (ByteArray.mk #[]),.slice none 0 0,.slice none 0 0] 28 (0,0))]::g59::gs::H) (hoff:=Nat.le_of_ble_eq_true rfl) (hfz:=(fun _ _=>C6)) (k:=?_))
                    refine A9 [] [0,1,4,10,11] (k:=A0 ?_)
                    refine A1 (A2 ?_)
                    refine A4 (j:=1) [0] (k:=I1 rfl (H':=([(t,.cells #[.string (bk l),.int .i64 ((i55:Nat):Int)] 83 (0,0))]::[(b57,.cells #[.int .i64 vk55,.string vt55,.slice van55 vn55 vcn55,.slice val55 vm55 vcl55] 28 (0,0))]::[(b56,.cells #[.int .i64 vk55,.string vt55,.slice van55 vn55 vcn55,.slice val55 vm55 vcl55] 28 (0,0))]::g55::[(b15,.cells #[.int .i64 5,.string (ByteArray.mk #[]),.slice none 0 0,.slice a61 (nl+1) cap62] 28 (0,0))]::[(b1,.cells #[.int .i64 0,.string (ByteArray.mk #[]),.slice none 0 0,.slice none 0 0] 28 (0,0))]::g59::gs::H)) (fun w h=>(h.front (j:=2) rfl)) ?_)
                    refine D5 Tryz.func50 (O5 t l i55 (by omega) (by omega) _ _) ?_
                    rintro _ _ ⟨i65,hbi65,hbi65l,rfl⟩
                    refine A9 [] [0,1,4,10,11] (k:=A0 ?_)
                    refine A1 (A2 ?_)
                    refine A4 (j:=1) [0] (k:=D5 Tryz.func83 (rnext_ t l i65 _ _) ?_)
                    rintro _ _ ⟨rfl,rfl⟩
                    refine B2 (E':=[⟨0,[],pt t⟩,⟨1,[],.int .i64 d⟩,⟨4,[],pt b1⟩,⟨6,[],.int .u8 ((l.getD i65 0).toNat:Int)⟩,⟨10,[],pt b15⟩,⟨11,[],.int .u8 93⟩]) [0] [0,1,4,6,10,11] (k:=A0 ?_)
                    refine A1 (A2 ?_)
                    refine A4 (j:=3) [0,0,0] (k:=A6 (ch:=[]) (b:=t) (off:=1) (v:=.int .i64 ((i65:Nat):Int)) (hA:=At.grp 0 0 rfl rfl) (k:=?_))
                    have hw66:IntKind.wrap .i64 (((i65:Nat):Int)+1)=((i65:Nat):Int)+1:=w64 (by omega) (by omega)
                    refine B5 (E':=[⟨175,[],.int .i64 (((i65:Nat):Int)+1)⟩,⟨171,[],pt t⟩,⟨0,[],pt t⟩,⟨1,[],.int .i64 d⟩,⟨4,[],pt b1⟩,⟨6,[],.int .u8 ((l.getD i65 0).toNat:Int)⟩,⟨10,[],pt b15⟩,⟨11,[],.int .u8 93⟩]) [0] (Eq.trans (b:=some [⟨175,[],.int .i64 (IntKind.wrap .i64 (((i65:Nat):Int)+1))⟩,⟨171,[],pt t⟩,⟨0,[],pt t⟩,⟨1,[],.int .i64 d⟩,⟨4,[],pt b1⟩,⟨6,[],.int .u8 ((l.getD i65 0).toNat:Int)⟩,⟨10,[],pt b15⟩,⟨11,[],.int .u8 93⟩]) kr (by simp only [hw66])) (j:=5) rfl (B8 (E':=[⟨175,[],.int .i64 ((i65+1:Nat):Int)⟩,⟨171,[],pt t⟩,⟨0,[],pt t⟩,⟨1,[],.int .i64 d⟩,⟨4,[],pt b1⟩,⟨6,[],.int .u8 ((l.getD i65 0).toNat:Int)⟩,⟨10,[],pt b15⟩,⟨11,[],.int .u8 93⟩]) (by rw [show ((i65:Nat):Int)+1=((i65+1:Nat):Int) by omega]) ?_)
                    refine A4 (j:=7) [0,0] (k:=D2 (ch:=[]) (b:=t) (off:=1) (v:=.int .i64 ((i65+1:Nat):Int)) (j:=0) ([(t,.cells #[.string (bk l),.int .i64 ((i65+1:Nat):Int)] 83 (0,0))]::[(b57,.cells #[.int .i64 vk55,.string vt55,.slice van55 vn55 vcn55,.slice val55 vm55 vcl55] 28 (0,0))]::[(b56,.cells #[.int .i64 vk55,.string vt55,.slice van55 vn55 vcn55,.slice val55 vm55 vcl55] 28 (0,0))]::g55::[(b15,.cells #[.int .i64 5,.string (ByteArray.mk #[]),.slice none 0 0,.slice a61 (nl+1) cap62] 28 (0,0))]::[(b1,.cells #[.int .i64 0,.string (ByteArray.mk #[]),.slice none 0 0,.slice none 0 0] 28 (0,0))]::g59::gs::H) (hoff:=Nat.le_of_ble_eq_true rfl) (hfz:=(fun _ _=>C6)) (k:=?_))
                    refine A9 [] [0,1,4,6,10,11] (k:=A0 ?_)
                    refine A1 (A1 ?_)
                    refine G_p [0,0,0] [0,1,4,6,10,11,180] (k:=A0 ?_)
                    refine B0 (b:=((l.getD i65 0).toNat:Int)==93) kr (fun hc67=>?_) (fun hc67=>?_)
                    ·
                      simp only [beq_iff_eq,u93] at hc67
                      have hi7:i65<l.length:=Q2 hc67 (by decide)
                      have hc7:blk r55=l.getD i65 0::l.drop (i65+1):=by rw [← hr55,← hbi65]; exact Q4 hi7
                      have hV:=hT.trans (memL_4 (I8 n) hnm hv55 hc7 (show l.getD i65 0=P5 false from hc67))
                      refine A1 (A2 ?_)
                      refine E8 (ch:=[]) (b:=b15) (off:=0) (l:=[.int .i64 5,.string (ByteArray.mk #[]),.slice none 0 0,.slice a61 (nl+1) cap62]) (hA:=At.grp 4 0 rfl rfl) (k:=D2 (ch:=[]) (b:=b1) (off:=0) (v:=.agg #[.int .i64 5,.string (ByteArray.mk #[]),.slice none 0 0,.slice a61 (nl+1) cap62]) (j:=5) ([(t,.cells #[.string (bk l),.int .i64 ((i65+1:Nat):Int)] 83 (0,0))]::[(b57,.cells #[.int .i64 vk55,.string vt55,.slice van55 vn55 vcn55,.slice val55 vm55 vcl55] 28 (0,0))]::[(b56,.cells #[.int .i64 vk55,.string vt55,.slice van55 vn55 vcn55,.slice val55 vm55 vcl55] 28 (0,0))]::g55::[(b15,.cells #[.int .i64 5,.string (ByteArray.mk #[]),.slice none 0 0,.slice a61 (nl+1) cap62] 28 (0,0))]::[(b1,.cells #[.int .i64 5,.string (ByteArray.mk #[]),.slice none 0 0,.slice a61 (nl+1) cap62] 28 (0,0))]::g59::gs::H) (hoff:=Nat.le_of_ble_eq_true rfl) (hfz:=(fun _ _=>C6)) (k:=?_))
                      refine B2 (E':=[⟨4,[],pt b1⟩,⟨5,[],.int .i64 0⟩]) [0] [4,5] (k:=A0 ?_)
                      refine B4 (A3 ?_)
                      refine A7 (A3 ?_)
                      refine A7 (C1 (H':=([(t,.cells #[.string (bk l),.int .i64 ((i65+1:Nat):Int)] 83 (0,0))]::[(b1,.cells #[.int .i64 5,.string (ByteArray.mk #[]),.slice none 0 0,.slice a61 (nl+1) cap62] 28 (0,0))]::([]++(g59++(gs++g55)))::H)) (fun w h=>Sat.flat ((((((((h.front (j:=3) rfl).front (j:=7) rfl).front (j:=7) rfl).front (j:=7) rfl).front (j:=4) rfl).erase 7).erase 6).erase 5) (List.Perm.of_eq (by simp))) ?_)
                      refine G7 [.cell 4 28,.tmp 5] [.agg #[.int .i64 5,.string (ByteArray.mk #[]),.slice none 0 0,.slice a61 (nl+1) cap62],.int .i64 0] rfl (.cons (.agg (b:=b1) (off:=0) (l:=[.int .i64 5,.string (ByteArray.mk #[]),.slice none 0 0,.slice a61 (nl+1) cap62]) kr kr kr (At.grp 1 0 rfl rfl) kr) (.cons (.tmp kr) (.nil))) rfl ⟨([(t,.cells #[.string (bk l),.int .i64 ((i65+1:Nat):Int)] 83 (0,0))]::([]++(g59++(gs++g55)))::H),?_,fun w h=>(h.erase 1)⟩
                      subst hnl; exact .inl ⟨_,_,i65+1,_,_,hV,.mk (ns:=[]) Go.Sw.Own.nil (by rw [List.length_append]; exact hO60) (hP.snoc hJ55),(by simp only [List.length_append]; rfl),rfl,by omega,rfl⟩
                    ·
                      simp only [beq_eq_false_iff_ne,ne_eq,u93] at hc67
                      have hce:¬ l.getD i65 0=P5 false:=hc67
                      refine A8 (A0 ?_)
                      refine A1 (G_p [0,0] [0,1,4,10,11,183] (k:=?_))
                      refine A0 (B0 (b:=((l.getD i65 0).toNat:Int) != 44) kr (fun hc68=>?_) (fun hc68=>?_))
                      ·
                        simp only [bne_iff_ne,ne_eq,u44] at hc68
                        have hV:G1 lv (l.drop i)=.error 70:=by
                          rcases Nat.lt_or_ge i65 l.length with hi7 | hi7
                          · have hc7:blk r55=l.getD i65 0::l.drop (i65+1):=by rw [← hr55,← hbi65]; exact Q4 hi7
                            exact hT.trans (memL_6 (I8 n) hnm hv55 hc7 hce hc68)
                          · exact hT.trans (memL_3 (I8 n) hnm hv55 (by rw [← hr55,← hbi65,List.drop_eq_nil_of_le hi7]))
                        refine A1 (A2 ?_)
                        refine A4 (j:=1) [0] (k:=D2 (ch:=[]) (b:=b1) (off:=0) (v:=.agg #[.int .i64 0,.string (ByteArray.mk #[]),.slice none 0 0,.slice none 0 0]) (j:=5) ([(t,.cells #[.string (bk l),.int .i64 ((i65+1:Nat):Int)] 83 (0,0))]::[(b57,.cells #[.int .i64 vk55,.string vt55,.slice van55 vn55 vcn55,.slice val55 vm55 vcl55] 28 (0,0))]::[(b56,.cells #[.int .i64 vk55,.string vt55,.slice van55 vn55 vcn55,.slice val55 vm55 vcl55] 28 (0,0))]::g55::[(b15,.cells #[.int .i64 5,.string (ByteArray.mk #[]),.slice none 0 0,.slice a61 (nl+1) cap62] 28 (0,0))]::[(b1,.cells #[.int .i64 0,.string (ByteArray.mk #[]),.slice none 0 0,.slice none 0 0] 28 (0,0))]::g59::gs::H) (hoff:=Nat.le_of_ble_eq_true rfl) (hfz:=(fun _ _=>C6)) (k:=?_))
                        refine B2 (E':=[⟨4,[],pt b1⟩,⟨5,[],.int .i64 70⟩]) [0] [4,5] (k:=A0 ?_)
                        refine B4 (A7 ?_)
                        refine A3 (A7 ?_)
                        refine G7 [.cell 4 28,.tmp 5] [.agg #[.int .i64 0,.string (ByteArray.mk #[]),.slice none 0 0,.slice none 0 0],.int .i64 70] rfl (.cons (.agg (b:=b1) (off:=0) (l:=[.int .i64 0,.string (ByteArray.mk #[]),.slice none 0 0,.slice none 0 0]) kr kr kr (At.grp 5 0 rfl rfl) kr) (.cons (.tmp kr) (.nil))) rfl ⟨([(t,.cells #[.string (bk l),.int .i64 ((i65+1:Nat):Int)] 83 (0,0))]::H),?_,fun w h=>(((((((h.erase 7).erase 6).erase 5).erase 4).erase 3).erase 2).erase 1)⟩
                        exact .inr ⟨_,_,hV,(by decide),rfl,rfl⟩
                      ·
                        simp only [bne_eq_false_iff_eq,u44] at hc68
                        have hc44:=hc68
                        have hi7:i65<l.length:=Q2 hc68 (by decide)
                        have hc7:blk r55=l.getD i65 0::l.drop (i65+1):=by rw [← hr55,← hbi65]; exact Q4 hi7
                        have hdc:=I8 n _ _ _ hv55
                        have hbl7:=H4 r55
                        rw [hc7,List.length_cons,List.length_drop] at hbl7
                        rw [List.length_drop] at hdc
                        refine A8 (C0 ?_)
                        refine C1 (H':=([(t,.cells #[.string (bk l),.int .i64 ((i65+1:Nat):Int)] 83 (0,0))]::[(b15,.cells #[.int .i64 5,.string (ByteArray.mk #[]),.slice none 0 0,.slice a61 (nl+1) cap62] 28 (0,0))]::[(b1,.cells #[.int .i64 0,.string (ByteArray.mk #[]),.slice none 0 0,.slice none 0 0] 28 (0,0))]::g59::(gs++g55)::H)) (fun w h=>Sat.flat ((((((((h.front (j:=3) rfl).front (j:=7) rfl).front (j:=7) rfl).front (j:=7) rfl).front (j:=7) rfl).front (j:=5) rfl).erase 7).erase 6) (List.Perm.of_eq (by simp))) (F3 (s':=(i65+1,(vs++[x55]),(nl+1),a61,cap62,g59,(cs++[.int .i64 vk55,.string vt55,.slice van55 vn55 vcn55,.slice val55 vm55 vcl55]),(gs++g55))) [0,1,4,10,11] kr rfl ⟨(by dsimp only; omega),(by dsimp only; exact hT.trans (memL_5 (I8 n) hnm hv55 hc7 hce hc44)),(by dsimp only; exact hO60),(by dsimp only; rw [List.length_append,hnl]; rfl),(by dsimp only; exact hP.snoc hJ55),(by dsimp only; omega)⟩ (by dsimp only; omega))
                  ·
                    refine A4 (j:=7) [0,0,0] (k:=F0 (ch:=[]) (z:=.agg #[.int .i64 0,.string (ByteArray.mk #[]),.slice none 0 0,.slice none 0 0]) (k:=(fun b69=>?_)))
                    refine D2 (ch:=[]) (b:=b69) (off:=0) (v:=.agg #[.int .i64 0,.string (ByteArray.mk #[]),.slice none 0 0,.slice none 0 0]) (j:=0) ([(b69,.cells #[.int .i64 0,.string (ByteArray.mk #[]),.slice none 0 0,.slice none 0 0] 28 (0,0))]::[(t,.cells #[.string (bk l),.int .i64 z55] 83 (0,0))]::[(b15,.cells #[.int .i64 5,.string (ByteArray.mk #[]),.slice none 0 0,.slice la nl lc] 28 (0,0))]::[(b1,.cells #[.int .i64 0,.string (ByteArray.mk #[]),.slice none 0 0,.slice none 0 0] 28 (0,0))]::gl::gs::H) (hoff:=Nat.le_of_ble_eq_true rfl) (hfz:=(fun _ _=>C6)) (k:=A9 [0] [0,1,4,10,11,14,15] (k:=?_))
                    refine A0 (A1 ?_)
                    refine A1 (G_p [0,0] [0,1,4,10,11,14,15,158] (k:=?_))
                    refine A0 (B0 (b:=e55 != 0) kr (fun hc70=>?_) (fun hc70=>?_))
                    ·
                      have hV:=hT.trans (memL_2 (I8 n) hnm hv55)
                      refine A1 (A2 ?_)
                      refine A4 (j:=2) [0,0] (k:=D2 (ch:=[]) (b:=b1) (off:=0) (v:=.agg #[.int .i64 0,.string (ByteArray.mk #[]),.slice none 0 0,.slice none 0 0]) (j:=3) ([(b69,.cells #[.int .i64 0,.string (ByteArray.mk #[]),.slice none 0 0,.slice none 0 0] 28 (0,0))]::[(t,.cells #[.string (bk l),.int .i64 z55] 83 (0,0))]::[(b15,.cells #[.int .i64 5,.string (ByteArray.mk #[]),.slice none 0 0,.slice la nl lc] 28 (0,0))]::[(b1,.cells #[.int .i64 0,.string (ByteArray.mk #[]),.slice none 0 0,.slice none 0 0] 28 (0,0))]::gl::gs::H) (hoff:=Nat.le_of_ble_eq_true rfl) (hfz:=(fun _ _=>C6)) (k:=?_))
                      refine B2 (E':=[⟨4,[],pt b1⟩,⟨5,[],.int .i64 e55⟩]) [0] [4,5] (k:=A0 ?_)
                      refine B4 (A3 ?_)
                      refine A7 (A3 ?_)
                      refine A7 (G7 [.cell 4 28,.tmp 5] [.agg #[.int .i64 0,.string (ByteArray.mk #[]),.slice none 0 0,.slice none 0 0],.int .i64 e55] rfl (.cons (.agg (b:=b1) (off:=0) (l:=[.int .i64 0,.string (ByteArray.mk #[]),.slice none 0 0,.slice none 0 0]) kr kr kr (At.grp 3 0 rfl rfl) kr) (.cons (.tmp kr) (.nil))) rfl ⟨([(t,.cells #[.string (bk l),.int .i64 z55] 83 (0,0))]::H),?_,fun w h=>(((((h.erase 5).erase 4).erase 3).erase 2).erase 0)⟩)
                      exact .inr ⟨_,_,hV,he55,rfl,rfl⟩
                    ·
                      exact absurd (by simpa using hc70) he55
theorem rvalue_:∀ (lv:Nat),lv≤24→∀ (d:Int),d=24 - (lv:Int)→∀ (t:Nat) (l:List UInt8) (i:Nat),l.length≤1000000→i≤l.length→∀ (W0:World) (H:List Grp),Tri Tryz.prog 49 #[pt t,.int .i64 d] W0 (tapeG t l (i:Int)::H) (fun v H2=>(∃ x r j c g,G1 lv (l.drop i)=.ok (x,r)∧JRep 9 28 x c g∧v=.tuple #[.agg c.toArray,.int .i64 0]∧l.drop j=r∧j≤l.length∧H2=tapeG t l ((j:Nat):Int)::g::H)∨(∃ e z,G1 lv (l.drop i)=.error e∧e≠0∧v=.tuple #[.agg ([.int .i64 0,.string (ByteArray.mk #[]),.slice none 0 0,.slice none 0 0]:List Value).toArray,.int .i64 e]∧H2=tapeG t l z::H))
  | 0,h,d,hd,t,l,i,hl,hi,W0,H=>rvalueW_ 0 d hd h t l i hl hi (fun n hn=>absurd hn (by omega)) W0 H
  | m+1,h,d,hd,t,l,i,hl,hi,W0,H=>rvalueW_ (m+1) d hd h t l i hl hi (fun n hn i hi W0 H=>by
      obtain rfl:m=n:=by omega
      exact rvalue_ m (by omega) (d+1) (by omega) t l i hl hi W0 H) W0 H
end Go.Proofs.YtppgfiklmfoaeaaGreatDoor
namespace Go.Proofs.YtppgfiklmfoaeaaGreatDoor
open Go.Sw Go.Sha Go.Esc Go.RowKit Go.Json
def parV:Except Int JV→JV × Int
  | .ok v=>(v,0)
  | .error e=>(nul,e)
theorem parV_R (l:List UInt8):parV (parP l)=G2 l:=by
  have h:=parR_ok l
  cases hp:parP l with
  | error e=>rw [hp] at h; rw [h.2]; rfl
  | ok v=>rw [hp] at h; rw [h]; rfl
theorem parP_long {l:List UInt8} (h:65536<l.length):parP l=.error 72:=by unfold parP; rw [if_pos h]
theorem parP_err {l:List UInt8} {e:Int} (h:¬ 65536<l.length) (hv:G1 24 l=.error e):parP l=.error e:=by unfold parP; rw [if_neg h,hv]
theorem parP_more {l r:List UInt8} {v:JV} (h:¬ 65536<l.length) (hv:G1 24 l=.ok (v,r)) (hb:blk r≠[]):parP l=.error 70:=by unfold parP; rw [if_neg h,hv]; dsimp only; rw [if_neg hb]
theorem parP_done {l r:List UInt8} {v:JV} (h:¬ 65536<l.length) (hv:G1 24 l=.ok (v,r)) (hb:blk r=[]):parP l=.ok v:=by unfold parP; rw [if_neg h,hv]; dsimp only; rw [if_pos hb]
theorem rparse_ (a:Option Addr) (c:Nat) (l:List UInt8) (S:Nat→Obj→Prop) (hrd:Rd S a (u8s l)) (W0:World) (H:List Grp) (hS:∀ y o,S y o→At W0 H y o):Tri Tryz.prog 17 #[.slice a l.length c] W0 H (fun v H2=>∃ c g,JRep 9 28 (G2 l).1 c g∧v=.tuple #[.agg c.toArray,.int .i64 (G2 l).2]∧H2=g::H):=by
 have hbz:=D3 l
 rw [← parV_R]
 refine C5 (args:=[.slice a l.length c]) (n:=38) Tryz.func17 rfl rfl (Nat.le_of_ble_eq_true rfl) ?_
 refine A1 (A2 ?_)
 refine F0 (ch:=[]) (z:=.agg #[.int .i64 0,.string (ByteArray.mk #[]),.slice none 0 0,.slice none 0 0]) (k:=(fun b1=>?_))
 refine A9 [0] [0,2] (k:=A0 ?_)
 refine A1 (A1 ?_)
 refine G_p [0,0,0] [0,2,9] (k:=A0 ?_)
 refine B0 (b:=decide (((l.length:Nat):Int) > 65536)) kr (fun hc2=>?_) (fun hc2=>?_)
 ·
  have hlen:65536<l.length:=by simp only [gt_iff_lt,decide_eq_true_eq] at hc2; omega
  have hP:=parP_long hlen
  refine A1 (A2 ?_)
  refine A4 (j:=1) [0] (k:=D2 (ch:=[]) (b:=b1) (off:=0) (v:=.agg #[.int .i64 0,.string (ByteArray.mk #[]),.slice none 0 0,.slice none 0 0]) (j:=0) ([(b1,.cells #[.int .i64 0,.string (ByteArray.mk #[]),.slice none 0 0,.slice none 0 0] 28 (0,0))]::H) (hoff:=Nat.le_of_ble_eq_true rfl) (hfz:=(fun _ _=>C6)) (k:=?_))
  refine B2 (E':=[⟨2,[],pt b1⟩,⟨3,[],.int .i64 72⟩]) [0] [2,3] (k:=A0 ?_)
  refine B4 (A3 ?_)
  refine C1 (H':=([(b1,.cells #[.int .i64 0,.string (ByteArray.mk #[]),.slice none 0 0,.slice none 0 0] 28 (0,0))]::[]::H)) (fun w h=>Sat.flat h (List.Perm.refl _)) (G7 [.cell 2 28,.tmp 3] [.agg #[.int .i64 0,.string (ByteArray.mk #[]),.slice none 0 0,.slice none 0 0],.int .i64 72] rfl (.cons (.agg (b:=b1) (off:=0) (l:=[.int .i64 0,.string (ByteArray.mk #[]),.slice none 0 0,.slice none 0 0]) kr kr kr (At.grp 0 0 rfl rfl) kr) (.cons (.tmp kr) (.nil))) rfl ⟨([]::H),?_,fun w h=>(h.erase 0)⟩)
  rw [hP]; exact ⟨_,_,JRep.nul,rfl,rfl⟩
 ·
  have hlen:¬ 65536<l.length:=by simp only [gt_iff_lt,decide_eq_false_iff_not] at hc2; omega
  refine A8 (A0 ?_)
  refine A1 (A2 ?_)
  refine A4 (j:=1) [0] (k:=Q7 (ch:=[]) (a:=a) (cap:=c) (e:=5) (S:=S) (bk l) (hrd:=hrd) (hS:=(fun y o h=>(At.cons (hS y o h)))) (k:=?_))
  refine A4 (j:=3) [0] (k:=K7 (ch:=[]) (v:=.agg #[.string (bk l),.int .i64 0]) (k:=(fun b3=>?_)))
  refine B2 (E':=[⟨2,[],pt b1⟩,⟨4,[],pt b3⟩]) [0] [2,4] (k:=A0 ?_)
  refine A1 (A2 ?_)
  refine A4 (j:=1) [0] (k:=D5 (vs:=[pt b3,.int .i64 0]) Tryz.func49 (rvalue_ 24 (Nat.le_refl _) 0 (by decide) b3 l 0 (by omega) (Nat.zero_le _) _ _) ?_)
  rintro _ _ (⟨x4,r4,i4,c4,g4,hv4,hJ4,rfl,hr4,hl4,rfl⟩ | ⟨e4,z4,hv4,he4,rfl,rfl⟩)
  all_goals rw [List.drop_zero] at hv4
  ·
   obtain ⟨vk4,vt4,van4,vn4,vcn4,val4,vm4,vcl4,rfl⟩:=hJ4.shape
   refine A4 (j:=5) [0,0,0] (k:=F0 (ch:=[]) (z:=.agg #[.int .i64 0,.string (ByteArray.mk #[]),.slice none 0 0,.slice none 0 0]) (k:=(fun b5=>?_)))
   refine D2 (ch:=[]) (b:=b5) (off:=0) (v:=.agg #[.int .i64 vk4,.string vt4,.slice van4 vn4 vcn4,.slice val4 vm4 vcl4]) (j:=0) ([(b5,.cells #[.int .i64 vk4,.string vt4,.slice van4 vn4 vcn4,.slice val4 vm4 vcl4] 28 (0,0))]::[(b3,.cells #[.string (bk l),.int .i64 ((i4:Nat):Int)] 83 (0,0))]::g4::[(b1,.cells #[.int .i64 0,.string (ByteArray.mk #[]),.slice none 0 0,.slice none 0 0] 28 (0,0))]::H) (hoff:=Nat.le_of_ble_eq_true rfl) (hfz:=(fun _ _=>C6)) (k:=A9 [0] [2,4,5,6] (k:=?_))
   refine A0 (A1 ?_)
   refine A1 (G_p [0,0] [2,4,5,6,21] (k:=?_))
   refine A0 (C4 kr ?_)
   refine A8 (A0 ?_)
   refine A1 (A2 ?_)
   refine A4 (j:=1) [0] (k:=I1 rfl (H':=([(b3,.cells #[.string (bk l),.int .i64 ((i4:Nat):Int)] 83 (0,0))]::[(b5,.cells #[.int .i64 vk4,.string vt4,.slice van4 vn4 vcn4,.slice val4 vm4 vcl4] 28 (0,0))]::g4::[(b1,.cells #[.int .i64 0,.string (ByteArray.mk #[]),.slice none 0 0,.slice none 0 0] 28 (0,0))]::H)) (fun w h=>(h.front (j:=1) rfl)) ?_)
   refine D5 Tryz.func50 (O5 b3 l i4 (by omega) (by omega) _ _) ?_
   rintro _ _ ⟨i6,hbi6,hbi6l,rfl⟩
   refine A9 [] [2,4,5] (k:=A0 ?_)
   refine A1 (A1 ?_)
   refine J4 (k:=A4 (j:=3) [0,0,0] (k:=?_))
   refine A6 (ch:=[]) (b:=b3) (off:=1) (v:=.int .i64 ((i6:Nat):Int)) (hA:=At.grp 0 0 rfl rfl) (k:=A4 (j:=7) [0,0,0] (k:=?_))
   refine A6 (ch:=[]) (b:=b3) (off:=0) (v:=.string (bk l)) (hA:=At.grp 0 0 rfl rfl) (k:=A9 [0,0] [2,5,35] (k:=?_))
   refine A0 (B0 (b:=decide (((i6:Nat):Int)<((bk l).size:Int))) kr (fun hc7=>?_) (fun hc7=>?_))
   ·
    simp only [decide_eq_true_eq] at hc7
    have hP:=parP_more hlen hv4 (by rw [← hr4,← hbi6]; intro hn; have:=congrArg List.length hn; rw [List.length_drop,List.length_nil] at this; omega)
    refine A1 (A2 ?_)
    refine A4 (j:=1) [0] (k:=D2 (ch:=[]) (b:=b1) (off:=0) (v:=.agg #[.int .i64 0,.string (ByteArray.mk #[]),.slice none 0 0,.slice none 0 0]) (j:=3) ([(b3,.cells #[.string (bk l),.int .i64 ((i6:Nat):Int)] 83 (0,0))]::[(b5,.cells #[.int .i64 vk4,.string vt4,.slice van4 vn4 vcn4,.slice val4 vm4 vcl4] 28 (0,0))]::g4::[(b1,.cells #[.int .i64 0,.string (ByteArray.mk #[]),.slice none 0 0,.slice none 0 0] 28 (0,0))]::H) (hoff:=Nat.le_of_ble_eq_true rfl) (hfz:=(fun _ _=>C6)) (k:=?_))
    refine B2 (E':=[⟨2,[],pt b1⟩,⟨3,[],.int .i64 70⟩]) [0] [2,3] (k:=A0 ?_)
    refine B4 (A3 ?_)
    refine C1 (H':=([(b1,.cells #[.int .i64 0,.string (ByteArray.mk #[]),.slice none 0 0,.slice none 0 0] 28 (0,0))]::[]::H)) (fun w h=>Sat.flat (((h.erase 2).erase 1).erase 0) (List.Perm.refl _)) (G7 [.cell 2 28,.tmp 3] [.agg #[.int .i64 0,.string (ByteArray.mk #[]),.slice none 0 0,.slice none 0 0],.int .i64 70] rfl (.cons (.agg (b:=b1) (off:=0) (l:=[.int .i64 0,.string (ByteArray.mk #[]),.slice none 0 0,.slice none 0 0]) kr kr kr (At.grp 0 0 rfl rfl) kr) (.cons (.tmp kr) (.nil))) rfl ⟨([]::H),?_,fun w h=>(h.erase 0)⟩)
    rw [hP]; exact ⟨_,_,JRep.nul,rfl,rfl⟩
   ·
    simp only [decide_eq_false_iff_not] at hc7
    have hP:=parP_done hlen hv4 (by rw [← hr4,← hbi6]; exact List.drop_eq_nil_of_le (by omega))
    refine A8 (A0 ?_)
    refine A1 (A2 ?_)
    refine E8 (ch:=[]) (b:=b5) (off:=0) (l:=[.int .i64 vk4,.string vt4,.slice van4 vn4 vcn4,.slice val4 vm4 vcl4]) (hA:=At.grp 1 0 rfl rfl) (k:=D2 (ch:=[]) (b:=b1) (off:=0) (v:=.agg #[.int .i64 vk4,.string vt4,.slice van4 vn4 vcn4,.slice val4 vm4 vcl4]) (j:=3) ([(b3,.cells #[.string (bk l),.int .i64 ((i6:Nat):Int)] 83 (0,0))]::[(b5,.cells #[.int .i64 vk4,.string vt4,.slice van4 vn4 vcn4,.slice val4 vm4 vcl4] 28 (0,0))]::g4::[(b1,.cells #[.int .i64 vk4,.string vt4,.slice van4 vn4 vcn4,.slice val4 vm4 vcl4] 28 (0,0))]::H) (hoff:=Nat.le_of_ble_eq_true rfl) (hfz:=(fun _ _=>C6)) (k:=?_))
    refine B2 (E':=[⟨2,[],pt b1⟩,⟨3,[],.int .i64 0⟩]) [0] [2,3] (k:=A0 ?_)
    refine B4 (C1 (H':=([(b1,.cells #[.int .i64 vk4,.string vt4,.slice van4 vn4 vcn4,.slice val4 vm4 vcl4] 28 (0,0))]::g4::H)) (fun w h=>Sat.flat ((((h.front (j:=2) rfl).front (j:=3) rfl).erase 3).erase 2) (List.Perm.refl _)) ?_)
    refine G7 [.cell 2 28,.tmp 3] [.agg #[.int .i64 vk4,.string vt4,.slice van4 vn4 vcn4,.slice val4 vm4 vcl4],.int .i64 0] rfl (.cons (.agg (b:=b1) (off:=0) (l:=[.int .i64 vk4,.string vt4,.slice van4 vn4 vcn4,.slice val4 vm4 vcl4]) kr kr kr (At.grp 0 0 rfl rfl) kr) (.cons (.tmp kr) (.nil))) rfl ⟨(g4::H),?_,fun w h=>(h.erase 0)⟩
    rw [hP]; exact ⟨_,_,hJ4,rfl,rfl⟩
  ·
   refine A4 (j:=5) [0,0,0] (k:=F0 (ch:=[]) (z:=.agg #[.int .i64 0,.string (ByteArray.mk #[]),.slice none 0 0,.slice none 0 0]) (k:=(fun b8=>?_)))
   refine D2 (ch:=[]) (b:=b8) (off:=0) (v:=.agg #[.int .i64 0,.string (ByteArray.mk #[]),.slice none 0 0,.slice none 0 0]) (j:=0) ([(b8,.cells #[.int .i64 0,.string (ByteArray.mk #[]),.slice none 0 0,.slice none 0 0] 28 (0,0))]::[(b3,.cells #[.string (bk l),.int .i64 z4] 83 (0,0))]::[(b1,.cells #[.int .i64 0,.string (ByteArray.mk #[]),.slice none 0 0,.slice none 0 0] 28 (0,0))]::H) (hoff:=Nat.le_of_ble_eq_true rfl) (hfz:=(fun _ _=>C6)) (k:=A9 [0] [2,4,5,6] (k:=?_))
   refine A0 (A1 ?_)
   refine A1 (G_p [0,0] [2,4,5,6,21] (k:=?_))
   refine A0 (B0 (b:=e4 != 0) kr (fun hc9=>?_) (fun hc9=>?_))
   ·
    have hP:=parP_err hlen hv4
    refine A1 (A2 ?_)
    refine A4 (j:=2) [0,0] (k:=D2 (ch:=[]) (b:=b1) (off:=0) (v:=.agg #[.int .i64 0,.string (ByteArray.mk #[]),.slice none 0 0,.slice none 0 0]) (j:=2) ([(b8,.cells #[.int .i64 0,.string (ByteArray.mk #[]),.slice none 0 0,.slice none 0 0] 28 (0,0))]::[(b3,.cells #[.string (bk l),.int .i64 z4] 83 (0,0))]::[(b1,.cells #[.int .i64 0,.string (ByteArray.mk #[]),.slice none 0 0,.slice none 0 0] 28 (0,0))]::H) (hoff:=Nat.le_of_ble_eq_true rfl) (hfz:=(fun _ _=>C6)) (k:=?_))
    refine B2 (E':=[⟨2,[],pt b1⟩,⟨3,[],.int .i64 e4⟩]) [0] [2,3] (k:=A0 ?_)
    refine B4 (A3 ?_)
    refine C1 (H':=([(b1,.cells #[.int .i64 0,.string (ByteArray.mk #[]),.slice none 0 0,.slice none 0 0] 28 (0,0))]::[]::H)) (fun w h=>Sat.flat ((h.erase 1).erase 0) (List.Perm.refl _)) (G7 [.cell 2 28,.tmp 3] [.agg #[.int .i64 0,.string (ByteArray.mk #[]),.slice none 0 0,.slice none 0 0],.int .i64 e4] rfl (.cons (.agg (b:=b1) (off:=0) (l:=[.int .i64 0,.string (ByteArray.mk #[]),.slice none 0 0,.slice none 0 0]) kr kr kr (At.grp 0 0 rfl rfl) kr) (.cons (.tmp kr) (.nil))) rfl ⟨([]::H),?_,fun w h=>(h.erase 0)⟩)
    rw [hP]; exact ⟨_,_,JRep.nul,rfl,rfl⟩
   ·
    exact absurd (by simpa using hc9) he4
theorem rdepthW_ (x:JV) (an:Option Addr) (cn:Nat) (al:Option Addr) (cl:Nat) (cs:List Value) (S:Nat→Obj→Prop) (_:Rd S an (G4 x.names)) (hrl:Rd S al cs) (hrc:JRdL S x.list cs) (hd:cnJ x≤1000000000) (hrec:∀ (y:JV),szJ y<szJ x→cnJ y≤1000000000→∀ (an:Option Addr) (cn:Nat) (al:Option Addr) (cl:Nat) (cs:List Value),Rd S an (G4 y.names)→Rd S al cs→JRdL S y.list cs→∀ (W0:World) (H:List Grp),(∀ z o,S z o→At W0 H z o)→Tri Tryz.prog 20 #[.agg (jvC y an cn al cl).toArray] W0 H (fun v H'=>v=.int .i64 (dpP y:Int)∧H'=H)) (W0:World) (H:List Grp) (hS:∀ y o,S y o→At W0 H y o):Tri Tryz.prog 20 #[.agg #[.int .i64 x.kind,.string (bk x.text),.slice an x.names.length cn,.slice al x.list.length cl]] W0 H (fun v H'=>v=.int .i64 (dpP x:Int)∧H'=H):=by
 have hxl:=O0 x
 have hxd:=dp_cn x
 refine C5 (args:=[.agg #[.int .i64 x.kind,.string (bk x.text),.slice an x.names.length cn,.slice al x.list.length cl]]) (n:=28) Tryz.func20 rfl rfl (Nat.le_of_ble_eq_true rfl) ?_
 refine A1 (A2 ?_)
 refine K7 (ch:=[]) (v:=.agg #[.int .i64 x.kind,.string (bk x.text),.slice an x.names.length cn,.slice al x.list.length cl]) (k:=(fun b1=>?_))
 refine B2 (E':=[⟨1,[],pt b1⟩]) [0] [1] (k:=A0 ?_)
 refine A1 (A1 ?_)
 refine A2 (A4 (j:=1) [0] (k:=?_))
 refine A6 (ch:=[]) (b:=b1) (off:=0) (v:=.int .i64 x.kind) (hA:=At.grp 0 0 rfl rfl) (k:=A4 (j:=5) [0,0,0] (k:=?_))
 refine A6 (ch:=[(9,true)]) (b:=b1) (off:=0) (v:=.int .i64 x.kind) (hA:=At.grp 0 0 rfl rfl) (k:=A9 [0,6] [1,13] (k:=?_))
 refine A0 (B0 (b:=(x.kind != 5)&&(x.kind != 6)) kr (fun hc2=>?_) (fun hc2=>?_))
 ·
  simp only [Bool.and_eq_true,bne_iff_ne,ne_eq] at hc2
  have hk0:=hc2
  refine A1 (B7 (E':=[⟨2,[],.int .i64 0⟩]) [0] [2] (k:=?_))
  refine A0 (B4 ?_)
  refine A3 (C1 (H':=H) (fun w h=>(h.erase 0)) ?_)
  refine B6 [.tmp 2] [.int .i64 0] (k:=?_)
  exact ⟨congrArg (fun n:Nat=>Value.int .i64 (n:Int)) (dp_no (by omega)).symm,rfl⟩
 ·
  simp only [Bool.and_eq_false_iff,bne_eq_false_iff_eq] at hc2
  have hk0:x.kind=5∨x.kind=6:=by omega
  have hdx:=dp_yes hk0
  refine A8 (A0 ?_)
  refine A1 (B7 (E':=[⟨1,[],pt b1⟩,⟨3,[],.int .i64 0⟩]) [0] [1,3] (k:=?_))
  refine A0 (A1 ?_)
  refine A1 (A2 ?_)
  refine A4 (j:=1) [0] (k:=A6 (ch:=[]) (b:=b1) (off:=3) (v:=.slice al x.list.length cl) (hA:=At.grp 0 0 rfl rfl) (k:=?_))
  refine A9 [0,0] [3,15,16,17] (k:=A0 ?_)
  refine B9 (J5 (EI:=(fun ξ:Nat × Nat=>[⟨3,[],.int .i64 ((ξ.2:Nat):Int)⟩,⟨15,[],.slice al x.list.length cl⟩,⟨16,[],.int .i64 ((x.list.length:Nat):Int)⟩,⟨17,[],.int .i64 ((ξ.1:Nat):Int)⟩])) (HI:=(fun ξ:Nat × Nat=>([(b1,.cells #[.int .i64 x.kind,.string (bk x.text),.slice an x.names.length cn,.slice al x.list.length cl] 28 (0,0))]::H))) (Φ:=(fun ξ:Nat × Nat=>(ξ.1≤x.list.length)∧(ξ.2=dpL (x.list.take ξ.1)))) (μ:=(fun ξ:Nat × Nat=>x.list.length - ξ.1)) (s0:=(0,0)) [3,15,16,17] kr rfl ⟨(Nat.zero_le _),(by rw [List.take_zero,dpL_nil])⟩ ?_)
  rintro ⟨k,n⟩ ⟨hk,hn⟩
  dsimp only at hk hn
  refine A1 (G_p [0] [3,15,16,17,18] (k:=?_))
  refine A0 (A1 ?_)
  refine B0 (b:=decide (((k:Nat):Int)<((x.list.length:Nat):Int))) kr (fun hc3=>?_) (fun hc3=>?_)
  ·
   simp only [decide_eq_true_eq] at hc3
   have hlt:k<x.list.length:=by omega
   obtain ⟨y,yan,ycn,yal,ycl,ycs,hyx,hye,hyn,hyl,hyc⟩:=hrc.get hlt
   have hysz:szJ y<szJ x:=by rw [hyx]; exact szJ_lt hlt
   refine A8 (A0 ?_)
   refine A1 (B9 ?_)
   refine A1 (A2 ?_)
   refine F2 (ch:=[]) (a:=al) (len:=x.list.length) (cap:=cl) (kd:=.i64) (j:=((k:Nat):Int)) (e:=28) (sz:=4) (S:=S) (cs:=cs) (hrd:=hrl) (hb:=(fun _=>by exact ⟨by omega,by omega,hrc.ne hlt⟩)) (k:=P4 (ch:=[]) (a:=al) (q:=k * 4) (S:=S) (cs:=cs) (l:=[.int .i64 y.kind,.string (bk y.text),.slice yan y.names.length ycn,.slice yal y.list.length ycl]) (hrd:=hrl) (hS:=(fun y o h=>(At.cons (hS y o h)))) (hl:=List.cons_ne_nil _ _) (hv:=(fun _=>(elt4 hye))) (k:=?_))
   refine F0 (ch:=[]) (z:=.agg #[.int .i64 0,.string (ByteArray.mk #[]),.slice none 0 0,.slice none 0 0]) (k:=(fun b4=>?_))
   refine D2 (ch:=[]) (b:=b4) (off:=0) (v:=.agg #[.int .i64 y.kind,.string (bk y.text),.slice yan y.names.length ycn,.slice yal y.list.length ycl]) (j:=0) ([(b4,.cells #[.int .i64 y.kind,.string (bk y.text),.slice yan y.names.length ycn,.slice yal y.list.length ycl] 28 (0,0))]::[(b1,.cells #[.int .i64 x.kind,.string (bk x.text),.slice an x.names.length cn,.slice al x.list.length cl] 28 (0,0))]::H) (hoff:=Nat.le_of_ble_eq_true rfl) (hfz:=(fun _ _=>C6)) (k:=A9 [] [3,5,15,16,17] (k:=?_))
   refine A0 (A2 ?_)
   refine A4 (j:=1) [0] (k:=E8 (ch:=[]) (b:=b4) (off:=0) (l:=[.int .i64 y.kind,.string (bk y.text),.slice yan y.names.length ycn,.slice yal y.list.length ycl]) (hA:=At.grp 0 0 rfl rfl) (k:=?_))
   refine J1 Tryz.func20 (hrec y hysz (by rw [hyx]; have:=cn_sub hlt; omega) yan ycn yal ycl ycs hyn hyl hyc _ _ (fun y o h=>At.cons (At.cons (hS y o h)))) (B5 (E':=[⟨24,[],.int .i64 (if (dpP y:Int) > ((n:Nat):Int) then (dpP y:Int) else ((n:Nat):Int))⟩,⟨3,[],.int .i64 ((n:Nat):Int)⟩,⟨15,[],.slice al x.list.length cl⟩,⟨16,[],.int .i64 ((x.list.length:Nat):Int)⟩,⟨17,[],.int .i64 ((k:Nat):Int)⟩]) [0] kr (j:=4) rfl ?_)
   refine B8 (E':=[⟨24,[],.int .i64 ((max n (dpP y):Nat):Int)⟩,⟨3,[],.int .i64 ((n:Nat):Int)⟩,⟨15,[],.slice al x.list.length cl⟩,⟨16,[],.int .i64 ((x.list.length:Nat):Int)⟩,⟨17,[],.int .i64 ((k:Nat):Int)⟩]) (by rw [max_cast]) (A9 [0] [3,15,16,17] (k:=?_))
   refine C0 (A0 ?_)
   have hw5:IntKind.wrap .i64 (((k:Nat):Int)+1)=((k:Nat):Int)+1:=w64 (by omega) (by omega)
   refine A2 (B5 (E':=[⟨25,[],.int .i64 (((k:Nat):Int)+1)⟩,⟨3,[],.int .i64 ((max n (dpP y):Nat):Int)⟩,⟨15,[],.slice al x.list.length cl⟩,⟨16,[],.int .i64 ((x.list.length:Nat):Int)⟩,⟨17,[],.int .i64 ((k:Nat):Int)⟩]) [0] (Eq.trans (b:=some [⟨25,[],.int .i64 (IntKind.wrap .i64 (((k:Nat):Int)+1))⟩,⟨3,[],.int .i64 ((max n (dpP y):Nat):Int)⟩,⟨15,[],.slice al x.list.length cl⟩,⟨16,[],.int .i64 ((x.list.length:Nat):Int)⟩,⟨17,[],.int .i64 ((k:Nat):Int)⟩]) kr (by simp only [hw5])) (j:=1) rfl ?_)
   refine B8 (E':=[⟨25,[],.int .i64 ((k+1:Nat):Int)⟩,⟨3,[],.int .i64 ((max n (dpP y):Nat):Int)⟩,⟨15,[],.slice al x.list.length cl⟩,⟨16,[],.int .i64 ((x.list.length:Nat):Int)⟩,⟨17,[],.int .i64 ((k:Nat):Int)⟩]) (by rw [show ((k:Nat):Int)+1=((k+1:Nat):Int) by omega]) (A9 [0] [3,15,16,17] (k:=?_))
   refine C1 (H':=([(b1,.cells #[.int .i64 x.kind,.string (bk x.text),.slice an x.names.length cn,.slice al x.list.length cl] 28 (0,0))]::H)) (fun w h=>(h.erase 0)) (F3 (s':=(k+1,max n (dpP y))) [3,15,16,17] kr rfl ⟨(by dsimp only; omega),(by dsimp only; rw [hn,hyx,dpL_take hlt])⟩ (by dsimp only; omega))
  ·
   simp only [decide_eq_false_iff_not] at hc3
   have hall:x.list.take k=x.list:=List.take_of_length_le (by omega)
   rw [hall] at hn
   refine H5 (B1 ?_)
   refine B1 (C7 ?_)
   refine A0 (A1 ?_)
   have hw6:IntKind.wrap .i64 (((n:Nat):Int)+1)=((n:Nat):Int)+1:=w64 (by omega) (by omega)
   refine A2 (B5 (E':=[⟨27,[],.int .i64 (((n:Nat):Int)+1)⟩]) [0,0] (Eq.trans (b:=some [⟨27,[],.int .i64 (IntKind.wrap .i64 (((n:Nat):Int)+1))⟩]) kr (by simp only [hw6])) (j:=2) rfl ?_)
   refine B8 (E':=[⟨27,[],.int .i64 ((dpP x:Nat):Int)⟩]) (by rw [show ((n:Nat):Int)+1=((dpP x:Nat):Int) by omega]) (A9 [0] [2] (k:=?_))
   refine A0 (B4 ?_)
   refine C1 (H':=H) (fun w h=>(h.erase 0)) (B6 [.tmp 2] [.int .i64 ((dpP x:Nat):Int)] (k:=?_))
   exact ⟨rfl,rfl⟩
theorem rdepth_:∀ (n:Nat) (x:JV),szJ x≤n→cnJ x≤1000000000→∀ (an:Option Addr) (cn:Nat) (al:Option Addr) (cl:Nat) (cs:List Value) (S:Nat→Obj→Prop),Rd S an (G4 x.names)→Rd S al cs→JRdL S x.list cs→∀ (W0:World) (H:List Grp),(∀ z o,S z o→At W0 H z o)→Tri Tryz.prog 20 #[.agg (jvC x an cn al cl).toArray] W0 H (fun v H'=>v=.int .i64 (dpP x:Int)∧H'=H)
  | 0,x,h,_,_,_,_,_,_,_,_,_,_,_,_,_=>absurd (szJ_pos x) (by omega)
  | n+1,x,h,hd,an,cn,al,cl,cs,S,h1,h2,h3,W0,H,hS=>rdepthW_ x an cn al cl cs S h1 h2 h3 hd (fun y hy hdy an cn al cl cs h1 h2 h3 W0 H hS=>rdepth_ n y (by omega) hdy an cn al cl cs S h1 h2 h3 W0 H hS) W0 H hS
theorem rsameW_ (x:JV) (an:Option Addr) (cn:Nat) (al:Option Addr) (cl:Nat) (cs:List Value) (S:Nat→Obj→Prop) (hrn:Rd S an (G4 x.names)) (hrl:Rd S al cs) (hrc:JRdL S x.list cs) (an2:Option Addr) (cn2:Nat) (al2:Option Addr) (cl2:Nat) (cs2:List Value) (S2:Nat→Obj→Prop) (hrn2:Rd S2 an2 (G4 x.names)) (hrl2:Rd S2 al2 cs2) (hrc2:JRdL S2 x.list cs2) (hd:cnJ x≤1000000000) (hrec:∀ (y:JV),szJ y<szJ x→cnJ y≤1000000000→∀ (an:Option Addr) (cn:Nat) (al:Option Addr) (cl:Nat) (cs:List Value),Rd S an (G4 y.names)→Rd S al cs→JRdL S y.list cs→∀ (an2:Option Addr) (cn2:Nat) (al2:Option Addr) (cl2:Nat) (cs2:List Value),Rd S2 an2 (G4 y.names)→Rd S2 al2 cs2→JRdL S2 y.list cs2→∀ (W0:World) (H:List Grp),(∀ z o,S z o→At W0 H z o)→(∀ z o,S2 z o→At W0 H z o)→Tri Tryz.prog 18 #[.agg (jvC y an cn al cl).toArray,.agg (jvC y an2 cn2 al2 cl2).toArray] W0 H (fun v H'=>v=.bool true∧H'=H)) (W0:World) (H:List Grp) (hS:∀ y o,S y o→At W0 H y o) (hS2:∀ y o,S2 y o→At W0 H y o):Tri Tryz.prog 18 #[.agg #[.int .i64 x.kind,.string (bk x.text),.slice an x.names.length cn,.slice al x.list.length cl],.agg #[.int .i64 x.kind,.string (bk x.text),.slice an2 x.names.length cn2,.slice al2 x.list.length cl2]] W0 H (fun v H'=>v=.bool true∧H'=H):=by
 have hxl:=O0 x
 refine C5 (args:=[.agg #[.int .i64 x.kind,.string (bk x.text),.slice an x.names.length cn,.slice al x.list.length cl],.agg #[.int .i64 x.kind,.string (bk x.text),.slice an2 x.names.length cn2,.slice al2 x.list.length cl2]]) (n:=74) Tryz.func18 rfl rfl (Nat.le_of_ble_eq_true rfl) ?_
 refine A1 (A2 ?_)
 refine K7 (ch:=[]) (v:=.agg #[.int .i64 x.kind,.string (bk x.text),.slice an x.names.length cn,.slice al x.list.length cl]) (k:=(fun b1=>?_))
 refine K7 (ch:=[]) (v:=.agg #[.int .i64 x.kind,.string (bk x.text),.slice an2 x.names.length cn2,.slice al2 x.list.length cl2]) (k:=(fun b2=>?_))
 refine B2 (E':=[⟨2,[],pt b1⟩,⟨3,[],pt b2⟩]) [0] [2,3] (k:=A0 ?_)
 refine A1 (A1 ?_)
 refine A2 (A4 (j:=1) [0] (k:=?_))
 refine A6 (ch:=[]) (b:=b1) (off:=0) (v:=.int .i64 x.kind) (hA:=At.grp 1 0 rfl rfl) (k:=A4 (j:=3) [0] (k:=?_))
 refine A6 (ch:=[]) (b:=b2) (off:=0) (v:=.int .i64 x.kind) (hA:=At.grp 0 0 rfl rfl) (k:=A4 (j:=7) [0,0,0] (k:=?_))
 refine A6 (ch:=[(12,false)]) (b:=b1) (off:=1) (v:=.string (bk x.text)) (hA:=At.grp 1 0 rfl rfl) (k:=A4 (j:=9) [0] (k:=?_))
 refine A6 (ch:=[(12,false)]) (b:=b2) (off:=1) (v:=.string (bk x.text)) (hA:=At.grp 0 0 rfl rfl) (k:=A4 (j:=14) [0,5,0,0] (k:=?_))
 refine A6 (ch:=[(19,false)]) (b:=b1) (off:=2) (v:=.slice an x.names.length cn) (hA:=At.grp 1 0 rfl rfl) (k:=A4 (j:=17) [0,0] (k:=?_))
 refine A6 (ch:=[(19,false)]) (b:=b2) (off:=2) (v:=.slice an2 x.names.length cn2) (hA:=At.grp 0 0 rfl rfl) (k:=A4 (j:=23) [0,0,5,0,0] (k:=?_))
 refine A6 (ch:=[(28,false)]) (b:=b1) (off:=3) (v:=.slice al x.list.length cl) (hA:=At.grp 1 0 rfl rfl) (k:=A4 (j:=26) [0,0] (k:=?_))
 refine A6 (ch:=[(28,false)]) (b:=b2) (off:=3) (v:=.slice al2 x.list.length cl2) (hA:=At.grp 0 0 rfl rfl) (k:=A9 [0,0,5] [2,3,36] (k:=?_))
 refine A0 (B0 (b:=(((x.kind != x.kind)||(!((bk x.text).toList==(bk x.text).toList)))||(((x.names.length:Nat):Int) != ((x.names.length:Nat):Int)))||(((x.list.length:Nat):Int) != ((x.list.length:Nat):Int))) kr (fun hc3=>?_) (fun hc3=>?_))
 ·
  simp at hc3
 ·
  skip
  refine A8 (A0 ?_)
  refine A1 (A1 ?_)
  refine A2 (A4 (j:=1) [0] (k:=?_))
  refine A6 (ch:=[]) (b:=b1) (off:=2) (v:=.slice an x.names.length cn) (hA:=At.grp 1 0 rfl rfl) (k:=A9 [0,0] [2,3,39,40] (k:=?_))
  refine A0 (B9 ?_)
  refine J5 (EI:=(fun ξ:Nat=>[⟨2,[],pt b1⟩,⟨3,[],pt b2⟩,⟨39,[],.int .i64 ((x.names.length:Nat):Int)⟩,⟨40,[],.int .i64 ((ξ:Nat):Int)⟩])) (HI:=(fun ξ:Nat=>([(b2,.cells #[.int .i64 x.kind,.string (bk x.text),.slice an2 x.names.length cn2,.slice al2 x.list.length cl2] 28 (0,0))]::[(b1,.cells #[.int .i64 x.kind,.string (bk x.text),.slice an x.names.length cn,.slice al x.list.length cl] 28 (0,0))]::H))) (Φ:=(fun ξ:Nat=>(ξ≤x.names.length))) (μ:=(fun ξ:Nat=>x.names.length - ξ)) (s0:=(0)) [2,3,39,40] kr rfl (Nat.zero_le _) ?_
  rintro k hk
  refine A1 (G_p [0] [2,3,39,40,41] (k:=?_))
  refine A0 (A1 ?_)
  refine B0 (b:=decide (((k:Nat):Int)<((x.names.length:Nat):Int))) kr (fun hc4=>?_) (fun hc4=>?_)
  ·
   simp only [decide_eq_true_eq] at hc4
   have hnl:k<x.names.length:=by omega
   obtain ⟨nm,hnm⟩:∃ nm,nm=x.names[k]'hnl:=⟨_,rfl⟩
   refine A8 (A0 ?_)
   refine A1 (B9 ?_)
   refine A1 (G_p [0,0] [2,3,5,39,40] (k:=?_))
   refine A0 (A1 ?_)
   refine J4 (k:=A4 (j:=1) [0] (k:=?_))
   refine A6 (ch:=[]) (b:=b1) (off:=2) (v:=.slice an x.names.length cn) (hA:=At.grp 1 0 rfl rfl) (k:=A4 (j:=3) [0] (k:=?_))
   refine F2 (ch:=[]) (a:=an) (len:=x.names.length) (cap:=cn) (kd:=.i64) (j:=((k:Nat):Int)) (e:=9) (sz:=1) (S:=S) (cs:=(G4 x.names)) (hrd:=hrn) (hb:=(fun _=>by first | exact ⟨by omega,by omega,strV_ne hnl⟩ | exact ⟨by omega,by omega,hrc.ne hlt⟩ | exact ⟨by omega,by omega,hrc2.ne hlt⟩)) (k:=M4 (ch:=[]) (a:=an) (q:=k * 1) (S:=S) (cs:=(G4 x.names)) (v:=.string (bk nm)) (hrd:=hrn) (hS:=(fun y o h=>(At.cons (At.cons (hS y o h))))) (hv:=(fun _=>(strV_elt hnl hnm))) (k:=?_))
   refine A4 (j:=6) [0] (k:=A6 (ch:=[]) (b:=b2) (off:=2) (v:=.slice an2 x.names.length cn2) (hA:=At.grp 0 0 rfl rfl) (k:=?_))
   refine A4 (j:=8) [0] (k:=F2 (ch:=[]) (a:=an2) (len:=x.names.length) (cap:=cn2) (kd:=.i64) (j:=((k:Nat):Int)) (e:=9) (sz:=1) (S:=S2) (cs:=(G4 x.names)) (hrd:=hrn2) (hb:=(fun _=>by first | exact ⟨by omega,by omega,strV_ne hnl⟩ | exact ⟨by omega,by omega,hrc.ne hlt⟩ | exact ⟨by omega,by omega,hrc2.ne hlt⟩)) (k:=?_))
   refine M4 (ch:=[]) (a:=an2) (q:=k * 1) (S:=S2) (cs:=(G4 x.names)) (v:=.string (bk nm)) (hrd:=hrn2) (hS:=(fun y o h=>(At.cons (At.cons (hS2 y o h))))) (hv:=(fun _=>(strV_elt hnl hnm))) (k:=A9 [0] [2,3,39,40,53] (k:=?_))
   refine A0 (B0 (b:=!((bk nm).toList==(bk nm).toList)) kr (fun hc5=>?_) (fun hc5=>?_))
   ·
    simp at hc5
   ·
    skip
    refine A8 (C0 ?_)
    refine A0 ?_
    have hw6:IntKind.wrap .i64 (((k:Nat):Int)+1)=((k:Nat):Int)+1:=w64 (by omega) (by omega)
    refine A2 (B5 (E':=[⟨54,[],.int .i64 (((k:Nat):Int)+1)⟩,⟨2,[],pt b1⟩,⟨3,[],pt b2⟩,⟨39,[],.int .i64 ((x.names.length:Nat):Int)⟩,⟨40,[],.int .i64 ((k:Nat):Int)⟩]) [0] (Eq.trans (b:=some [⟨54,[],.int .i64 (IntKind.wrap .i64 (((k:Nat):Int)+1))⟩,⟨2,[],pt b1⟩,⟨3,[],pt b2⟩,⟨39,[],.int .i64 ((x.names.length:Nat):Int)⟩,⟨40,[],.int .i64 ((k:Nat):Int)⟩]) kr (by simp only [hw6])) (j:=1) rfl ?_)
    refine B8 (E':=[⟨54,[],.int .i64 ((k+1:Nat):Int)⟩,⟨2,[],pt b1⟩,⟨3,[],pt b2⟩,⟨39,[],.int .i64 ((x.names.length:Nat):Int)⟩,⟨40,[],.int .i64 ((k:Nat):Int)⟩]) (by rw [show ((k:Nat):Int)+1=((k+1:Nat):Int) by omega]) (A9 [0] [2,3,39,40] (k:=?_))
    refine F3 (s':=(k+1)) [2,3,39,40] kr rfl (by omega) (by omega)
  ·
   skip
   refine H5 (B1 ?_)
   refine B1 (C7 ?_)
   refine A0 (A1 ?_)
   refine A1 (A2 ?_)
   refine A4 (j:=1) [0] (k:=A6 (ch:=[]) (b:=b1) (off:=3) (v:=.slice al x.list.length cl) (hA:=At.grp 1 0 rfl rfl) (k:=?_))
   refine A9 [0,0] [2,3,57,58] (k:=A0 ?_)
   refine B9 (J5 (EI:=(fun ξ:Nat=>[⟨2,[],pt b1⟩,⟨3,[],pt b2⟩,⟨57,[],.int .i64 ((x.list.length:Nat):Int)⟩,⟨58,[],.int .i64 ((ξ:Nat):Int)⟩])) (HI:=(fun ξ:Nat=>([(b2,.cells #[.int .i64 x.kind,.string (bk x.text),.slice an2 x.names.length cn2,.slice al2 x.list.length cl2] 28 (0,0))]::[(b1,.cells #[.int .i64 x.kind,.string (bk x.text),.slice an x.names.length cn,.slice al x.list.length cl] 28 (0,0))]::H))) (Φ:=(fun ξ:Nat=>(ξ≤x.list.length))) (μ:=(fun ξ:Nat=>x.list.length - ξ)) (s0:=(0)) [2,3,57,58] kr rfl (Nat.zero_le _) ?_)
   rintro k hk
   refine A1 (G_p [0] [2,3,57,58,59] (k:=?_))
   refine A0 (A1 ?_)
   refine B0 (b:=decide (((k:Nat):Int)<((x.list.length:Nat):Int))) kr (fun hc7=>?_) (fun hc7=>?_)
   ·
    simp only [decide_eq_true_eq] at hc7
    have hlt:k<x.list.length:=by omega
    obtain ⟨y,yan,ycn,yal,ycl,ycs,hyx,hye,hyn,hyl,hyc⟩:=hrc.get hlt
    have hysz:szJ y<szJ x:=by rw [hyx]; exact szJ_lt hlt
    obtain ⟨y2,yan2,ycn2,yal2,ycl2,ycs2,hyx2,hye2,hyn2,hyl2,hyc2⟩:=hrc2.get hlt
    have hyy:y2=y:=hyx2.trans hyx.symm
    rw [hyy] at hye2 hyn2 hyc2
    refine A8 (A0 ?_)
    refine A1 (B9 ?_)
    refine A1 (G_p [0,0] [2,3,6,57,58] (k:=?_))
    refine A0 (A1 ?_)
    refine J4 (k:=A4 (j:=1) [0] (k:=?_))
    refine A6 (ch:=[]) (b:=b1) (off:=3) (v:=.slice al x.list.length cl) (hA:=At.grp 1 0 rfl rfl) (k:=A4 (j:=3) [0] (k:=?_))
    refine F2 (ch:=[]) (a:=al) (len:=x.list.length) (cap:=cl) (kd:=.i64) (j:=((k:Nat):Int)) (e:=28) (sz:=4) (S:=S) (cs:=cs) (hrd:=hrl) (hb:=(fun _=>by first | exact ⟨by omega,by omega,strV_ne hnl⟩ | exact ⟨by omega,by omega,hrc.ne hlt⟩ | exact ⟨by omega,by omega,hrc2.ne hlt⟩)) (k:=P4 (ch:=[]) (a:=al) (q:=k * 4) (S:=S) (cs:=cs) (l:=[.int .i64 y.kind,.string (bk y.text),.slice yan y.names.length ycn,.slice yal y.list.length ycl]) (hrd:=hrl) (hS:=(fun y o h=>(At.cons (At.cons (hS y o h))))) (hl:=List.cons_ne_nil _ _) (hv:=(fun _=>(elt4 hye))) (k:=?_))
    refine A4 (j:=6) [0] (k:=A6 (ch:=[]) (b:=b2) (off:=3) (v:=.slice al2 x.list.length cl2) (hA:=At.grp 0 0 rfl rfl) (k:=?_))
    refine A4 (j:=8) [0] (k:=F2 (ch:=[]) (a:=al2) (len:=x.list.length) (cap:=cl2) (kd:=.i64) (j:=((k:Nat):Int)) (e:=28) (sz:=4) (S:=S2) (cs:=cs2) (hrd:=hrl2) (hb:=(fun _=>by first | exact ⟨by omega,by omega,strV_ne hnl⟩ | exact ⟨by omega,by omega,hrc.ne hlt⟩ | exact ⟨by omega,by omega,hrc2.ne hlt⟩)) (k:=?_))
    refine P4 (ch:=[]) (a:=al2) (q:=k * 4) (S:=S2) (cs:=cs2) (l:=[.int .i64 y.kind,.string (bk y.text),.slice yan2 y.names.length ycn2,.slice yal2 y.list.length ycl2]) (hrd:=hrl2) (hS:=(fun y o h=>(At.cons (At.cons (hS2 y o h))))) (hl:=List.cons_ne_nil _ _) (hv:=(fun _=>(elt4 hye2))) (k:=J1 Tryz.func18 (hrec y hysz (by rw [hyx]; have:=cn_sub hlt; omega) yan ycn yal ycl ycs hyn hyl hyc yan2 ycn2 yal2 ycl2 ycs2 hyn2 hyl2 hyc2 _ _ (fun y o h=>At.cons (At.cons (hS y o h))) (fun y o h=>At.cons (At.cons (hS2 y o h)))) ?_)
    refine A9 [0] [2,3,57,58,72] (k:=A0 ?_)
    refine C4 kr (A8 ?_)
    refine C0 (A0 ?_)
    have hw8:IntKind.wrap .i64 (((k:Nat):Int)+1)=((k:Nat):Int)+1:=w64 (by omega) (by omega)
    refine A2 (B5 (E':=[⟨73,[],.int .i64 (((k:Nat):Int)+1)⟩,⟨2,[],pt b1⟩,⟨3,[],pt b2⟩,⟨57,[],.int .i64 ((x.list.length:Nat):Int)⟩,⟨58,[],.int .i64 ((k:Nat):Int)⟩]) [0] (Eq.trans (b:=some [⟨73,[],.int .i64 (IntKind.wrap .i64 (((k:Nat):Int)+1))⟩,⟨2,[],pt b1⟩,⟨3,[],pt b2⟩,⟨57,[],.int .i64 ((x.list.length:Nat):Int)⟩,⟨58,[],.int .i64 ((k:Nat):Int)⟩]) kr (by simp only [hw8])) (j:=1) rfl ?_)
    refine B8 (E':=[⟨73,[],.int .i64 ((k+1:Nat):Int)⟩,⟨2,[],pt b1⟩,⟨3,[],pt b2⟩,⟨57,[],.int .i64 ((x.list.length:Nat):Int)⟩,⟨58,[],.int .i64 ((k:Nat):Int)⟩]) (by rw [show ((k:Nat):Int)+1=((k+1:Nat):Int) by omega]) (A9 [0] [2,3,57,58] (k:=?_))
    refine F3 (s':=(k+1)) [2,3,57,58] kr rfl (by omega) (by omega)
   ·
    skip
    refine H5 (B1 ?_)
    refine B1 (C7 ?_)
    refine A0 (A1 ?_)
    refine B7 (E':=[⟨4,[],.bool true⟩]) [0] [4] (k:=A0 ?_)
    refine B4 (C1 (H':=H) (fun w h=>((h.erase 1).erase 0)) ?_)
    refine B6 [.tmp 4] [.bool true] (k:=?_)
    exact ⟨rfl,rfl⟩
theorem rsame_:∀ (n:Nat) (x:JV),szJ x≤n→cnJ x≤1000000000→∀ (an:Option Addr) (cn:Nat) (al:Option Addr) (cl:Nat) (cs:List Value) (S:Nat→Obj→Prop),Rd S an (G4 x.names)→Rd S al cs→JRdL S x.list cs→∀ (an2:Option Addr) (cn2:Nat) (al2:Option Addr) (cl2:Nat) (cs2:List Value) (S2:Nat→Obj→Prop),Rd S2 an2 (G4 x.names)→Rd S2 al2 cs2→JRdL S2 x.list cs2→∀ (W0:World) (H:List Grp),(∀ z o,S z o→At W0 H z o)→(∀ z o,S2 z o→At W0 H z o)→Tri Tryz.prog 18 #[.agg (jvC x an cn al cl).toArray,.agg (jvC x an2 cn2 al2 cl2).toArray] W0 H (fun v H'=>v=.bool true∧H'=H)
  | 0,x,h,_,_,_,_,_,_,_,_,_,_,_,_,_,_,_,_,_,_,_,_,_,_,_=>absurd (szJ_pos x) (by omega)
  | n+1,x,h,hd,an,cn,al,cl,cs,S,h1,h2,h3,an2,cn2,al2,cl2,cs2,S2,k1,k2,k3,W0,H,hS,hS2=>rsameW_ x an cn al cl cs S h1 h2 h3 an2 cn2 al2 cl2 cs2 S2 k1 k2 k3 hd (fun y hy hdy an cn al cl cs h1 h2 h3 an2 cn2 al2 cl2 cs2 k1 k2 k3 W0 H hS hS2=>rsame_ n y (by omega) hdy an cn al cl cs S h1 h2 h3 an2 cn2 al2 cl2 cs2 S2 k1 k2 k3 W0 H hS hS2) W0 H hS hS2
theorem rsameC (x:JV) (hd:cnJ x≤1000000000) (c c2:List Value) (S S2:Nat→Obj→Prop) (h:JRd S x c) (h2:JRd S2 x c2) (W0:World) (H:List Grp) (hS:∀ z o,S z o→At W0 H z o) (hS2:∀ z o,S2 z o→At W0 H z o):Tri Tryz.prog 18 #[.agg c.toArray,.agg c2.toArray] W0 H (fun v H'=>v=.bool true∧H'=H):=by
  obtain ⟨an,al,cn,cl,cs,rfl,a1,a2,a3⟩:=h.shape
  obtain ⟨an2,al2,cn2,cl2,cs2,rfl,b1,b2,b3⟩:=h2.shape
  exact rsame_ (szJ x) x (Nat.le_refl _) hd an cn al cl cs S a1 a2 a3 an2 cn2 al2 cl2 cs2 S2 b1 b2 b3 W0 H hS hS2
end Go.Proofs.YtppgfiklmfoaeaaGreatDoor
namespace Go.Json
open Go.Lib Go.Esc Go.Sw
theorem wtN_take:∀ (ns:List (List UInt8)) (k:Nat),wtN (ns.take k)≤wtN ns
  | [],_=>by rw [List.take_nil]; exact Nat.le_refl _
  | _::_,0=>by rw [List.take_zero]; exact Nat.zero_le _
  | x::r,k+1=>by
    have:=wtN_take r k
    rw [List.take_succ_cons]; show x.length+1+wtN (r.take k)≤x.length+1+wtN r; omega
theorem wtL_take:∀ (l:List JV) (k:Nat),wtL (l.take k)≤wtL l
  | [],_=>by rw [List.take_nil]; exact Nat.le_refl _
  | _::_,0=>by rw [List.take_zero,wtL_nil]; exact Nat.zero_le _
  | x::r,k+1=>by
    have:=wtL_take r k
    rw [List.take_succ_cons,O2,O2]; omega
theorem wtL_step:∀ {l:List JV} {k:Nat} (h:k<l.length),wtL (l.take k)+wtJ l[k]≤wtL l
  | [],_,h=>absurd h (Nat.not_lt_zero _)
  | v::l,0,_=>by rw [List.take_zero,wtL_nil,O2]; show 0+wtJ v≤_; omega
  | v::l,k+1,h=>by
    have hi:k<l.length:=by simpa using h
    have:=wtL_step hi
    rw [List.take_succ_cons,O2,O2]; show wtJ v+wtL (l.take k)+wtJ l[k]≤_; omega
theorem wtN_step:∀ {ns:List (List UInt8)} {k:Nat} (h:k<ns.length),wtN (ns.take k)+ns[k].length+1≤wtN ns
  | [],_,h=>absurd h (Nat.not_lt_zero _)
  | v::l,0,_=>by rw [List.take_zero]; show 0+v.length+1≤v.length+1+wtN l; omega
  | v::l,k+1,h=>by
    have hi:k<l.length:=by simpa using h
    have:=wtN_step hi
    rw [List.take_succ_cons]; show v.length+1+wtN (l.take k)+l[k].length+1≤v.length+1+wtN l; omega
mutual
theorem pr_len:∀ x:JV,(prP x).length+4≤10 * wtJ x
  | .mk k t ns l=>by
    have h1:=prL_len (k==6) true ns l
    have h2:=M0 t
    rw [wtJ_eq,prP]
    split
    · simp only [List.length_cons,List.length_nil]; omega
    split
    · simp only [List.length_cons,List.length_nil]; omega
    split
    · simp only [List.length_cons,List.length_nil]; omega
    split
    · omega
    split
    · omega
    · simp only [List.length_cons,List.length_append,List.length_nil]; omega
theorem prL_len:∀ (obj fst:Bool) (ns:List (List UInt8)) (l:List JV),(prL obj fst ns l).length≤10 * (wtN ns+wtL l)
  | _,_,_,[]=>by rw [R2]; exact Nat.zero_le _
  | obj,fst,ns,v::l=>by
    have h1:=pr_len v
    have h2:=prL_len obj false ns.tail l
    rw [O6,O2]
    have h3:(if fst then ([]:List UInt8) else [44]).length≤1:=by split <;> simp
    have h4:(if obj then K0 (ns.headD [])++[58] else ([]:List UInt8)).length≤6 * (ns.headD []).length+3:=by
      have h5:=M0 (ns.headD [])
      split
      · rw [List.length_append,List.length_singleton]; omega
      · exact Nat.zero_le _
    have h6:(ns.headD []).length+wtN ns.tail≤wtN ns:=by
      cases ns with
      | nil=>exact Nat.le_refl _
      | cons n r=>show n.length+wtN r≤n.length+1+wtN r; omega
    simp only [List.length_append]
    omega
end
theorem pr_round (obj:Bool) {x y:JV} {k:Nat} {T P:List UInt8} {ob:UInt8} (hlt:k<x.list.length) (hyx:y=x.list[k]) (hn:obj=true→x.names.length=x.list.length) (hT:T=P++(ob::prL obj true (x.names.take k) (x.list.take k))) :
    P++(ob::prL obj true (x.names.take (k+1)) (x.list.take (k+1)))=T++((if k=0 then [] else [44])++((if obj then K0 (x.names.getD k [])++[58] else [])++prP y)):=by
  rw [hT,prL_step obj hlt hn,← hyx]; simp
theorem pr_many {x:JV} (obj:Bool) (h:x.kind=kindB obj):prP x=(if obj then 123 else 91)::(prL obj true x.names x.list++[P5 obj]):=by
  cases x with
  | mk k t ns l =>
    change k=kindB obj at h
    subst h
    cases obj <;> (rw [prP_many (by decide)]; rfl)
theorem pr_atom {x:JV} {k:Int} (h:x.kind=k) (hk:0≤k∧k<5):prP x=if k=0 then [110,117,108,108] else if k=1 then [102,97,108,115,101] else if k=2 then [116,114,117,101] else if k=3 then x.text else K0 x.text:=by
  cases x with
  | mk k' t ns l =>
    change k'=k at h
    subst h
    show prP (.mk k' t ns l)=if k'=0 then [110,117,108,108] else if k'=1 then [102,97,108,115,101] else if k'=2 then [116,114,117,101] else if k'=3 then t else K0 t
    unfold prP
    by_cases h4:k'=4
    · subst h4; rfl
    · rw [if_neg h4]
      by_cases h0:k'=0
      · rw [if_pos h0,if_pos h0]
      by_cases h1:k'=1
      · rw [if_neg h0,if_pos h1,if_neg h0,if_pos h1]
      by_cases h2:k'=2
      · rw [if_neg h0,if_neg h1,if_pos h2,if_neg h0,if_neg h1,if_pos h2]
      by_cases h3:k'=3
      · rw [if_neg h0,if_neg h1,if_neg h2,if_pos h3,if_neg h0,if_neg h1,if_neg h2,if_pos h3]
      · omega
theorem rt_kind {lv:Nat} {x:JV} (h:rtP lv x=true):RtB x∧(x.kind=6→x.names.length=x.list.length)∧((x.kind=5∨x.kind=6)→∃ m,lv=m+1∧rtL m x.list=true):=by
  by_cases hA:(x.kind<0∨6<x.kind)∨(x.kind≠5∧x.kind≠6∧0<x.list.length)∨(x.kind≠6∧0<x.names.length)
  · rw [rt_A hA] at h; cases h
  have hB:RtB x:=rt_B (fun a=>hA (.inl a)) (fun a=>hA (.inr (.inl a))) (fun a=>hA (.inr (.inr a)))
  refine ⟨hB,fun h6=>?_,fun h5=>?_⟩
  · rcases Nat.decEq x.names.length x.list.length with hd | hd
    · rw [rt_C hB (.inl ⟨h6,hd⟩)] at h; cases h
    · exact hd
  · cases lv with
    | zero=>rw [rt_C hB (.inr ⟨h5,rfl⟩)] at h; cases h
    | succ m =>
      refine ⟨m,rfl,?_⟩
      rw [rt_step hB] at h
      split at h
      · cases h
      rw [if_neg (by omega),if_neg (by omega)] at h
      split at h
      · cases h
      · rw [Bool.and_eq_true] at h; exact h.2
theorem rtL_get {m:Nat} {l:List JV} {k:Nat} (h:rtL m l=true) (hk:k<l.length):rtP m l[k]=true:=(rtL_iff m l).1 h _ (List.getElem_mem hk)
end Go.Json
namespace Go.Proofs.YtppgfiklmfoaeaaGreatDoor
open Go.Sw Go.Sha Go.Esc Go.RowKit
theorem pow2_  (W0:World) (H:List Grp):Tri Tryz.prog 218 #[.int .i64 16] W0 H (fun v H'=>v=.bool true∧H'=H):=by
 refine C5 (args:=[.int .i64 16]) (n:=8) Tryz.func218 rfl rfl (Nat.le_of_ble_eq_true rfl) ?_
 refine A1 (B7 (E':=[⟨0,[],.int .i64 16⟩]) [0] [0] (k:=?_))
 refine A0 (A1 ?_)
 refine B7 (E':=[⟨2,[],.bool true⟩]) [0,0,0,0,0,0] [2] (k:=A0 ?_)
 refine B4 (B6 [.tmp 2] [.bool true] (k:=?_))
 exact ⟨rfl,rfl⟩
theorem tz64_  (W0:World) (H:List Grp) (hW:F6 W0):Tri Tryz.prog 237 #[.int .u64 16] W0 H (fun v H'=>v=.int .i64 4∧H'=H):=by
 refine C5 (args:=[.int .u64 16]) (n:=14) Tryz.func237 rfl rfl (Nat.le_of_ble_eq_true rfl) ?_
 refine A1 (B7 (E':=[⟨0,[],.int .u64 16⟩]) [0] [0] (k:=?_))
 refine A0 (A1 ?_)
 refine A1 (G_p [0,0] [0,4] (k:=?_))
 refine A0 (C4 kr ?_)
 refine A8 (A0 ?_)
 refine A1 (A2 ?_)
 refine A4 (j:=6) [0,0,0,0,0,0] (k:=K4 (ch:=[]) (b:=7) (off:=0) (len:=64) (sz:=1) (e:=5) (kd:=.u64) (j:=15) (hb:=(fun _=>⟨by decide,by decide⟩)) (k:=?_))
 obtain ⟨tc,te,tf,tz1,tz2,tz3⟩:=hW.tz
 refine A6 (ch:=[]) (b:=7) (off:=15) (v:=.int .u8 4) (hA:=.inl ⟨tz1,tz2⟩) (hv:=tz3) (k:=B2 (E':=[⟨2,[],.int .i64 4⟩]) [0,0] [2] (k:=?_))
 refine A0 (B4 ?_)
 refine B6 [.tmp 2] [.int .i64 4] (k:=?_)
 exact ⟨rfl,rfl⟩
theorem tz_  (W0:World) (H:List Grp) (hW:F6 W0):Tri Tryz.prog 219 #[.int .u64 16] W0 H (fun v H'=>v=.int .i64 4∧H'=H):=by
 refine C5 (args:=[.int .u64 16]) (n:=8) Tryz.func219 rfl rfl (Nat.le_of_ble_eq_true rfl) ?_
 refine A1 (B7 (E':=[⟨0,[],.int .u64 16⟩]) [0] [0] (k:=?_))
 refine A0 (A1 ?_)
 refine C4 kr (A8 ?_)
 refine A0 (A1 ?_)
 refine A2 (A4 (j:=1) [0] (k:=?_))
 refine D5 Tryz.func237 (tz64_ _ _ hW) ?_
 rintro _ _ ⟨rfl,rfl⟩
 refine B2 (E':=[⟨2,[],.int .i64 4⟩]) [0] [2] (k:=A0 ?_)
 refine B4 (B6 [.tmp 2] [.int .i64 4] (k:=?_))
 exact ⟨rfl,rfl⟩
theorem fbits_ (n:Int) (h0:0≤n) (h1:n<65536) (W0:World) (H:List Grp) (hW:F6 W0):Tri Tryz.prog 198 #[.slice none 0 0,.int .u64 n,.int .i64 16,.bool false,.bool false] W0 H (fun v H'=>v=.tuple #[.slice none 0 0,.string ⟨(R5 n).toArray⟩]∧H'=H):=by
 refine C5 (args:=[.slice none 0 0,.int .u64 n,.int .i64 16,.bool false,.bool false]) (n:=102) Tryz.func198 rfl rfl (Nat.le_of_ble_eq_true rfl) ?_
 refine A1 (G_p [0,0] [0,1,2,3,4,10,11] (k:=?_))
 refine A0 (A1 ?_)
 refine A1 (G_p [0,0,0,0,0,3,0,0,0,3] [0,1,2,3,4,10,11,28] (k:=?_))
 refine A0 (C4 kr ?_)
 refine A8 (A0 ?_)
 refine A1 (A2 ?_)
 refine F0 (ch:=[]) (z:=.agg (rowH [])) (k:=(fun B=>?_))
 refine A9 [] [0,1,2,3,4,10,11,12] (k:=A0 ?_)
 refine A1 (G_p [0] [0,1,2,3,4,10,11,12,13] (k:=?_))
 refine A0 (A1 ?_)
 refine A1 (G_p [0] [0,1,2,3,4,10,11,12,13,30] (k:=?_))
 refine A0 (C4 kr ?_)
 refine A8 (A0 ?_)
 refine A1 (A1 ?_)
 refine A2 (A4 (j:=1) [0] (k:=?_))
 refine J1 Tryz.func218 (pow2_ _ _) (B2 (E':=[⟨0,[],.slice none 0 0⟩,⟨1,[],.int .u64 n⟩,⟨2,[],.int .i64 16⟩,⟨3,[],.bool false⟩,⟨4,[],.bool false⟩,⟨10,[],.slice none 0 0⟩,⟨11,[],.string (ByteArray.mk #[])⟩,⟨12,[],pt B⟩,⟨13,[],.int .i64 65⟩,⟨34,[],.bool true⟩]) [] [0,1,2,3,4,10,11,12,13,34] (k:=?_))
 refine A0 (F5 kr ?_)
 refine A1 (A2 ?_)
 refine A4 (j:=2) [0,0] (k:=D5 Tryz.func219 (tz_ _ _ hW) ?_)
 rintro _ _ ⟨rfl,rfl⟩
 refine A9 [0,0] [0,1,2,3,4,10,11,12,13,14] (k:=A0 ?_)
 refine A1 (G_p [0,0,0] [0,1,2,3,4,10,11,12,13,14,15] (k:=?_))
 refine A0 (A1 ?_)
 refine G_p [0,0,0,0] [0,1,3,4,10,11,12,13,14,15,16] (k:=A0 ?_)
 refine A1 (B9 ?_)
 refine G_rounds 4 (K6 ?_)
 refine A1 (A1 ?_)
 refine G_p [0,0,0] [0,1,3,4,10,11,12,13,14,15,16,46] (k:=A0 ?_)
 refine B0 (b:=decide (n ≥ 16)) kr (fun hc1=>?_) (fun hc1=>?_)
 ·
  simp only [ge_iff_le,decide_eq_true_eq] at hc1
  refine A8 (A0 ?_)
  refine B9 (A1 ?_)
  refine G_p [0,0,0] [0,1,3,4,10,11,12,13,14,15,16] (k:=A0 ?_)
  refine A1 (A2 ?_)
  refine B5 (E':=[⟨52,[],.int .u64 (IntKind.wrap .u64 ((BitVec.ofInt (IntKind.bits .u64) n &&& BitVec.ofInt (IntKind.bits .u64) 15).toNat))⟩,⟨49,[],.int .i64 64⟩,⟨0,[],.slice none 0 0⟩,⟨1,[],.int .u64 n⟩,⟨3,[],.bool false⟩,⟨4,[],.bool false⟩,⟨10,[],.slice none 0 0⟩,⟨11,[],.string (ByteArray.mk #[])⟩,⟨12,[],pt B⟩,⟨13,[],.int .i64 64⟩,⟨14,[],.int .u64 4⟩,⟨15,[],.int .u64 16⟩,⟨16,[],.int .u64 15⟩]) [0,0,0,0] kr (j:=4) rfl (B8 (E':=[⟨52,[],.int .u64 (n % 16)⟩,⟨49,[],.int .i64 64⟩,⟨0,[],.slice none 0 0⟩,⟨1,[],.int .u64 n⟩,⟨3,[],.bool false⟩,⟨4,[],.bool false⟩,⟨10,[],.slice none 0 0⟩,⟨11,[],.string (ByteArray.mk #[])⟩,⟨12,[],pt B⟩,⟨13,[],.int .i64 64⟩,⟨14,[],.int .u64 4⟩,⟨15,[],.int .u64 16⟩,⟨16,[],.int .u64 15⟩]) (by rw [and15 (by omega) (by omega)]) ?_)
  refine D4 (ch:=[]) (s:=(ByteArray.mk #[48,49,50,51,52,53,54,55,56,57,97,98,99,100,101,102,103,104,105,106,107,108,109,110,111,112,113,114,115,116,117,118,119,120,121,122])) (kd:=.u64) (j:=(n % 16)) (hb:=(by intro _; exact ⟨by omega,by show _<(36:Int); omega⟩)) (k:=?_)
  have hb2:=C2 (ByteArray.mk #[48,49,50,51,52,53,54,55,56,57,97,98,99,100,101,102,103,104,105,106,107,108,109,110,111,112,113,114,115,116,117,118,119,120,121,122]) (n % 16)
  refine K4 (ch:=[]) (b:=B) (off:=0) (len:=65) (sz:=1) (e:=5) (kd:=.i64) (j:=64) (hb:=(fun _=>⟨by decide,by decide⟩)) (k:=M3 (ch:=[]) (b:=B) (off:=64) (v:=.int .u8 ((E4 (n % 16)).toNat:Int)) (c:=rowH []) (c':=rowH [E4 (n % 16)]) (j:=0) (m:=0) (H':=([(B,.cells (rowH [E4 (n % 16)]) 253 (0,0))]::H)) (hoff:=(by rw [P1 (by simp)]; exact Nat.le_of_ble_eq_true rfl)) (hfz:=(fun _ _=>C6)) (hc':=R1 _ [] (by simp)) (k:=?_))
  refine B2 (E':=[⟨0,[],.slice none 0 0⟩,⟨1,[],.int .u64 n⟩,⟨3,[],.bool false⟩,⟨4,[],.bool false⟩,⟨10,[],.slice none 0 0⟩,⟨11,[],.string (ByteArray.mk #[])⟩,⟨12,[],pt B⟩,⟨13,[],.int .i64 64⟩,⟨14,[],.int .u64 4⟩,⟨15,[],.int .u64 16⟩,⟨16,[],.int .u64 15⟩]) [] [0,1,3,4,10,11,12,13,14,15,16] (k:=A0 ?_)
  refine A2 (B5 (E':=[⟨57,[],.int .u64 (Int.fdiv n (2 ^ 4))⟩,⟨0,[],.slice none 0 0⟩,⟨1,[],.int .u64 n⟩,⟨3,[],.bool false⟩,⟨4,[],.bool false⟩,⟨10,[],.slice none 0 0⟩,⟨11,[],.string (ByteArray.mk #[])⟩,⟨12,[],pt B⟩,⟨13,[],.int .i64 64⟩,⟨14,[],.int .u64 4⟩,⟨15,[],.int .u64 16⟩,⟨16,[],.int .u64 15⟩]) [0,0,0] kr (j:=3) rfl ?_)
  refine B8 (E':=[⟨57,[],.int .u64 (n / 16)⟩,⟨0,[],.slice none 0 0⟩,⟨1,[],.int .u64 n⟩,⟨3,[],.bool false⟩,⟨4,[],.bool false⟩,⟨10,[],.slice none 0 0⟩,⟨11,[],.string (ByteArray.mk #[])⟩,⟨12,[],pt B⟩,⟨13,[],.int .i64 64⟩,⟨14,[],.int .u64 4⟩,⟨15,[],.int .u64 16⟩,⟨16,[],.int .u64 15⟩]) (by rw [fdiv16]) (A9 [0] [0,1,3,4,10,11,12,13,14,15,16] (k:=?_))
  refine C0 (N_rd ?_)
  refine K6 (A1 ?_)
  refine A1 (G_p [0,0,0] [0,1,3,4,10,11,12,13,14,15,16,46] (k:=?_))
  refine A0 (B0 (b:=decide ((n / 16) ≥ 16)) kr (fun hc3=>?_) (fun hc3=>?_))
  ·
   simp only [ge_iff_le,decide_eq_true_eq] at hc3
   refine A8 (A0 ?_)
   refine B9 (A1 ?_)
   refine G_p [0,0,0] [0,1,3,4,10,11,12,13,14,15,16] (k:=A0 ?_)
   refine A1 (A2 ?_)
   refine B5 (E':=[⟨52,[],.int .u64 (IntKind.wrap .u64 ((BitVec.ofInt (IntKind.bits .u64) (n / 16) &&& BitVec.ofInt (IntKind.bits .u64) 15).toNat))⟩,⟨49,[],.int .i64 63⟩,⟨0,[],.slice none 0 0⟩,⟨1,[],.int .u64 (n / 16)⟩,⟨3,[],.bool false⟩,⟨4,[],.bool false⟩,⟨10,[],.slice none 0 0⟩,⟨11,[],.string (ByteArray.mk #[])⟩,⟨12,[],pt B⟩,⟨13,[],.int .i64 63⟩,⟨14,[],.int .u64 4⟩,⟨15,[],.int .u64 16⟩,⟨16,[],.int .u64 15⟩]) [0,0,0,0] kr (j:=4) rfl (B8 (E':=[⟨52,[],.int .u64 ((n / 16) % 16)⟩,⟨49,[],.int .i64 63⟩,⟨0,[],.slice none 0 0⟩,⟨1,[],.int .u64 (n / 16)⟩,⟨3,[],.bool false⟩,⟨4,[],.bool false⟩,⟨10,[],.slice none 0 0⟩,⟨11,[],.string (ByteArray.mk #[])⟩,⟨12,[],pt B⟩,⟨13,[],.int .i64 63⟩,⟨14,[],.int .u64 4⟩,⟨15,[],.int .u64 16⟩,⟨16,[],.int .u64 15⟩]) (by rw [and15 (by omega) (by omega)]) ?_)
   refine D4 (ch:=[]) (s:=(ByteArray.mk #[48,49,50,51,52,53,54,55,56,57,97,98,99,100,101,102,103,104,105,106,107,108,109,110,111,112,113,114,115,116,117,118,119,120,121,122])) (kd:=.u64) (j:=((n / 16) % 16)) (hb:=(by intro _; exact ⟨by omega,by show _<(36:Int); omega⟩)) (k:=?_)
   have hb4:=C2 (ByteArray.mk #[48,49,50,51,52,53,54,55,56,57,97,98,99,100,101,102,103,104,105,106,107,108,109,110,111,112,113,114,115,116,117,118,119,120,121,122]) ((n / 16) % 16)
   refine K4 (ch:=[]) (b:=B) (off:=0) (len:=65) (sz:=1) (e:=5) (kd:=.i64) (j:=63) (hb:=(fun _=>⟨by decide,by decide⟩)) (k:=M3 (ch:=[]) (b:=B) (off:=63) (v:=.int .u8 ((E4 ((n / 16) % 16)).toNat:Int)) (c:=rowH [E4 (n % 16)]) (c':=rowH [E4 ((n / 16) % 16),E4 (n % 16)]) (j:=0) (m:=0) (H':=([(B,.cells (rowH [E4 ((n / 16) % 16),E4 (n % 16)]) 253 (0,0))]::H)) (hoff:=(by rw [P1 (by simp)]; exact Nat.le_of_ble_eq_true rfl)) (hfz:=(fun _ _=>C6)) (hc':=R1 _ [E4 (n % 16)] (by simp)) (k:=?_))
   refine A9 [] [0,1,3,4,10,11,12,13,14,15,16] (k:=A0 ?_)
   refine A2 (B5 (E':=[⟨57,[],.int .u64 (Int.fdiv (n / 16) (2 ^ 4))⟩,⟨0,[],.slice none 0 0⟩,⟨1,[],.int .u64 (n / 16)⟩,⟨3,[],.bool false⟩,⟨4,[],.bool false⟩,⟨10,[],.slice none 0 0⟩,⟨11,[],.string (ByteArray.mk #[])⟩,⟨12,[],pt B⟩,⟨13,[],.int .i64 63⟩,⟨14,[],.int .u64 4⟩,⟨15,[],.int .u64 16⟩,⟨16,[],.int .u64 15⟩]) [0,0,0] kr (j:=3) rfl ?_)
   refine B8 (E':=[⟨57,[],.int .u64 ((n / 16) / 16)⟩,⟨0,[],.slice none 0 0⟩,⟨1,[],.int .u64 (n / 16)⟩,⟨3,[],.bool false⟩,⟨4,[],.bool false⟩,⟨10,[],.slice none 0 0⟩,⟨11,[],.string (ByteArray.mk #[])⟩,⟨12,[],pt B⟩,⟨13,[],.int .i64 63⟩,⟨14,[],.int .u64 4⟩,⟨15,[],.int .u64 16⟩,⟨16,[],.int .u64 15⟩]) (by rw [fdiv16]) (A9 [0] [0,1,3,4,10,11,12,13,14,15,16] (k:=?_))
   refine C0 (N_rd ?_)
   refine K6 (A1 ?_)
   refine A1 (B7 (E':=[⟨0,[],.slice none 0 0⟩,⟨1,[],.int .u64 ((n / 16) / 16)⟩,⟨3,[],.bool false⟩,⟨4,[],.bool false⟩,⟨10,[],.slice none 0 0⟩,⟨11,[],.string (ByteArray.mk #[])⟩,⟨12,[],pt B⟩,⟨13,[],.int .i64 63⟩,⟨14,[],.int .u64 4⟩,⟨15,[],.int .u64 16⟩,⟨16,[],.int .u64 15⟩,⟨46,[],.bool (decide (((n / 16) / 16) ≥ 16))⟩]) [0,0,0] [0,1,3,4,10,11,12,13,14,15,16,46] (k:=?_))
   refine A0 (B0 (b:=decide (((n / 16) / 16) ≥ 16)) kr (fun hc5=>?_) (fun hc5=>?_))
   ·
    simp only [ge_iff_le,decide_eq_true_eq] at hc5
    refine A8 (A0 ?_)
    refine B9 (A1 ?_)
    refine G_p [0,0,0] [0,1,3,4,10,11,12,13,14,15,16] (k:=A0 ?_)
    refine A1 (A2 ?_)
    refine B5 (E':=[⟨52,[],.int .u64 (IntKind.wrap .u64 ((BitVec.ofInt (IntKind.bits .u64) ((n / 16) / 16) &&& BitVec.ofInt (IntKind.bits .u64) 15).toNat))⟩,⟨49,[],.int .i64 62⟩,⟨0,[],.slice none 0 0⟩,⟨1,[],.int .u64 ((n / 16) / 16)⟩,⟨3,[],.bool false⟩,⟨4,[],.bool false⟩,⟨10,[],.slice none 0 0⟩,⟨11,[],.string (ByteArray.mk #[])⟩,⟨12,[],pt B⟩,⟨13,[],.int .i64 62⟩,⟨14,[],.int .u64 4⟩,⟨15,[],.int .u64 16⟩,⟨16,[],.int .u64 15⟩]) [0,0,0,0] kr (j:=4) rfl (B8 (E':=[⟨52,[],.int .u64 (((n / 16) / 16) % 16)⟩,⟨49,[],.int .i64 62⟩,⟨0,[],.slice none 0 0⟩,⟨1,[],.int .u64 ((n / 16) / 16)⟩,⟨3,[],.bool false⟩,⟨4,[],.bool false⟩,⟨10,[],.slice none 0 0⟩,⟨11,[],.string (ByteArray.mk #[])⟩,⟨12,[],pt B⟩,⟨13,[],.int .i64 62⟩,⟨14,[],.int .u64 4⟩,⟨15,[],.int .u64 16⟩,⟨16,[],.int .u64 15⟩]) (by rw [and15 (by omega) (by omega)]) ?_)
    refine D4 (ch:=[]) (s:=(ByteArray.mk #[48,49,50,51,52,53,54,55,56,57,97,98,99,100,101,102,103,104,105,106,107,108,109,110,111,112,113,114,115,116,117,118,119,120,121,122])) (kd:=.u64) (j:=(((n / 16) / 16) % 16)) (hb:=(by intro _; exact ⟨by omega,by show _<(36:Int); omega⟩)) (k:=?_)
    have hb6:=C2 (ByteArray.mk #[48,49,50,51,52,53,54,55,56,57,97,98,99,100,101,102,103,104,105,106,107,108,109,110,111,112,113,114,115,116,117,118,119,120,121,122]) (((n / 16) / 16) % 16)
    refine K4 (ch:=[]) (b:=B) (off:=0) (len:=65) (sz:=1) (e:=5) (kd:=.i64) (j:=62) (hb:=(fun _=>⟨by decide,by decide⟩)) (k:=M3 (ch:=[]) (b:=B) (off:=62) (v:=.int .u8 ((E4 (((n / 16) / 16) % 16)).toNat:Int)) (c:=rowH [E4 ((n / 16) % 16),E4 (n % 16)]) (c':=rowH [E4 (((n / 16) / 16) % 16),E4 ((n / 16) % 16),E4 (n % 16)]) (j:=0) (m:=0) (H':=([(B,.cells (rowH [E4 (((n / 16) / 16) % 16),E4 ((n / 16) % 16),E4 (n % 16)]) 253 (0,0))]::H)) (hoff:=(by rw [P1 (by simp)]; exact Nat.le_of_ble_eq_true rfl)) (hfz:=(fun _ _=>C6)) (hc':=R1 _ [E4 ((n / 16) % 16),E4 (n % 16)] (by simp)) (k:=?_))
    refine A9 [] [0,1,3,4,10,11,12,13,14,15,16] (k:=A0 ?_)
    refine A2 (B5 (E':=[⟨57,[],.int .u64 (Int.fdiv ((n / 16) / 16) (2 ^ 4))⟩,⟨0,[],.slice none 0 0⟩,⟨1,[],.int .u64 ((n / 16) / 16)⟩,⟨3,[],.bool false⟩,⟨4,[],.bool false⟩,⟨10,[],.slice none 0 0⟩,⟨11,[],.string (ByteArray.mk #[])⟩,⟨12,[],pt B⟩,⟨13,[],.int .i64 62⟩,⟨14,[],.int .u64 4⟩,⟨15,[],.int .u64 16⟩,⟨16,[],.int .u64 15⟩]) [0,0,0] kr (j:=3) rfl ?_)
    refine B8 (E':=[⟨57,[],.int .u64 (((n / 16) / 16) / 16)⟩,⟨0,[],.slice none 0 0⟩,⟨1,[],.int .u64 ((n / 16) / 16)⟩,⟨3,[],.bool false⟩,⟨4,[],.bool false⟩,⟨10,[],.slice none 0 0⟩,⟨11,[],.string (ByteArray.mk #[])⟩,⟨12,[],pt B⟩,⟨13,[],.int .i64 62⟩,⟨14,[],.int .u64 4⟩,⟨15,[],.int .u64 16⟩,⟨16,[],.int .u64 15⟩]) (by rw [fdiv16]) (A9 [0] [0,1,3,4,10,11,12,13,14,15,16] (k:=?_))
    refine C0 (N_rd ?_)
    refine K6 (A1 ?_)
    refine A1 (G_p [0,0,0] [0,1,3,4,10,11,12,13,14,15,16,46] (k:=?_))
    refine A0 (B0 (b:=decide ((((n / 16) / 16) / 16) ≥ 16)) kr (fun hc7=>?_) (fun hc7=>?_))
    ·
     simp only [ge_iff_le,decide_eq_true_eq] at hc7; omega
    ·
     simp only [ge_iff_le,decide_eq_false_iff_not] at hc7
     refine H5 (B1 ?_)
     refine B1 (C7 ?_)
     refine A0 (A1 ?_)
     refine G_p [0,0,0] [0,1,3,4,10,11,12,13] (k:=A0 ?_)
     refine A2 (A4 (j:=2) [0,0] (k:=?_))
     refine D4 (ch:=[]) (s:=(ByteArray.mk #[48,49,50,51,52,53,54,55,56,57,97,98,99,100,101,102,103,104,105,106,107,108,109,110,111,112,113,114,115,116,117,118,119,120,121,122])) (kd:=.u64) (j:=(((n / 16) / 16) / 16)) (hb:=(by intro _; exact ⟨by omega,by show _<(36:Int); omega⟩)) (k:=?_)
     have hb8:=C2 (ByteArray.mk #[48,49,50,51,52,53,54,55,56,57,97,98,99,100,101,102,103,104,105,106,107,108,109,110,111,112,113,114,115,116,117,118,119,120,121,122]) (((n / 16) / 16) / 16)
     refine K4 (ch:=[]) (b:=B) (off:=0) (len:=65) (sz:=1) (e:=5) (kd:=.i64) (j:=61) (hb:=(fun _=>⟨by decide,by decide⟩)) (k:=M3 (ch:=[]) (b:=B) (off:=61) (v:=.int .u8 ((E4 (((n / 16) / 16) / 16)).toNat:Int)) (c:=rowH [E4 (((n / 16) / 16) % 16),E4 ((n / 16) % 16),E4 (n % 16)]) (c':=rowH [E4 (((n / 16) / 16) / 16),E4 (((n / 16) / 16) % 16),E4 ((n / 16) % 16),E4 (n % 16)]) (j:=0) (m:=0) (H':=([(B,.cells (rowH [E4 (((n / 16) / 16) / 16),E4 (((n / 16) / 16) % 16),E4 ((n / 16) % 16),E4 (n % 16)]) 253 (0,0))]::H)) (hoff:=(by rw [P1 (by simp)]; exact Nat.le_of_ble_eq_true rfl)) (hfz:=(fun _ _=>C6)) (hc':=R1 _ [E4 (((n / 16) / 16) % 16),E4 ((n / 16) % 16),E4 (n % 16)] (by simp)) (k:=?_))
     refine B2 (E':=[⟨0,[],.slice none 0 0⟩,⟨3,[],.bool false⟩,⟨4,[],.bool false⟩,⟨10,[],.slice none 0 0⟩,⟨11,[],.string (ByteArray.mk #[])⟩,⟨12,[],pt B⟩,⟨13,[],.int .i64 61⟩]) [] [0,3,4,10,11,12,13] (k:=A0 ?_)
     refine A1 (A1 ?_)
     refine G_p [0] [0,4,10,11,12,13,89] (k:=A0 ?_)
     refine C4 kr (A8 ?_)
     refine A0 (A1 ?_)
     refine A1 (G_p [0] [0,10,11,12,13,94] (k:=?_))
     refine A0 (C4 kr ?_)
     refine A8 (A0 ?_)
     refine A1 (A2 ?_)
     refine A4 (j:=1) [0] (k:=S5 (ch:=[]) (b:=B) (off:=0) (len:=65) (sz:=1) (e:=5) (vl:=(some (.int .i64 61))) (vh:=none) (l:=61) (h:=65) (hb:=(fun _=>by decide)) (k:=?_))
     refine N3 (ch:=[]) (a:=⟨B,61,none⟩) (cap:=4) (e:=5) (S:=inG [(B,.cells (rowH [E4 (((n / 16) / 16) / 16),E4 (((n / 16) / 16) % 16),E4 ((n / 16) % 16),E4 (n % 16)]) 253 (0,0))]) [E4 (((n / 16) / 16) / 16),E4 (((n / 16) / 16) % 16),E4 ((n / 16) % 16),E4 (n % 16)] (hrd:=rowH_rd [E4 (((n / 16) / 16) / 16),E4 (((n / 16) / 16) % 16),E4 ((n / 16) % 16),E4 (n % 16)] (by simp) (by simp)) (hS:=F7 0 rfl) (k:=A9 [0] [10,11] (k:=?_))
     refine A0 (B4 ?_)
     refine C1 (H':=H) (fun w h=>(h.erase 0)) (B6 [.tmp 10,.tmp 11] [.slice none 0 0,.string ⟨[E4 (((n / 16) / 16) / 16),E4 (((n / 16) / 16) % 16),E4 ((n / 16) % 16),E4 (n % 16)].toArray⟩] (k:=?_))
     exact ⟨by unfold R5; rw [if_neg (by omega),if_neg (by omega),if_neg (by omega)]; rfl,rfl⟩
   ·
    simp only [ge_iff_le,decide_eq_false_iff_not] at hc5
    refine H5 (B1 ?_)
    refine B1 (C7 ?_)
    refine A0 (A1 ?_)
    refine G_p [0,0,0] [0,1,3,4,10,11,12,13] (k:=A0 ?_)
    refine A2 (A4 (j:=2) [0,0] (k:=?_))
    refine D4 (ch:=[]) (s:=(ByteArray.mk #[48,49,50,51,52,53,54,55,56,57,97,98,99,100,101,102,103,104,105,106,107,108,109,110,111,112,113,114,115,116,117,118,119,120,121,122])) (kd:=.u64) (j:=((n / 16) / 16)) (hb:=(by intro _; exact ⟨by omega,by show _<(36:Int); omega⟩)) (k:=?_)
    have hb9:=C2 (ByteArray.mk #[48,49,50,51,52,53,54,55,56,57,97,98,99,100,101,102,103,104,105,106,107,108,109,110,111,112,113,114,115,116,117,118,119,120,121,122]) ((n / 16) / 16)
    refine K4 (ch:=[]) (b:=B) (off:=0) (len:=65) (sz:=1) (e:=5) (kd:=.i64) (j:=62) (hb:=(fun _=>⟨by decide,by decide⟩)) (k:=M3 (ch:=[]) (b:=B) (off:=62) (v:=.int .u8 ((E4 ((n / 16) / 16)).toNat:Int)) (c:=rowH [E4 ((n / 16) % 16),E4 (n % 16)]) (c':=rowH [E4 ((n / 16) / 16),E4 ((n / 16) % 16),E4 (n % 16)]) (j:=0) (m:=0) (H':=([(B,.cells (rowH [E4 ((n / 16) / 16),E4 ((n / 16) % 16),E4 (n % 16)]) 253 (0,0))]::H)) (hoff:=(by rw [P1 (by simp)]; exact Nat.le_of_ble_eq_true rfl)) (hfz:=(fun _ _=>C6)) (hc':=R1 _ [E4 ((n / 16) % 16),E4 (n % 16)] (by simp)) (k:=?_))
    refine A9 [] [0,3,4,10,11,12,13] (k:=A0 ?_)
    refine A1 (A1 ?_)
    refine G_p [0] [0,4,10,11,12,13,89] (k:=A0 ?_)
    refine C4 kr (A8 ?_)
    refine A0 (A1 ?_)
    refine A1 (G_p [0] [0,10,11,12,13,94] (k:=?_))
    refine A0 (C4 kr ?_)
    refine A8 (A0 ?_)
    refine A1 (A2 ?_)
    refine A4 (j:=1) [0] (k:=S5 (ch:=[]) (b:=B) (off:=0) (len:=65) (sz:=1) (e:=5) (vl:=(some (.int .i64 62))) (vh:=none) (l:=62) (h:=65) (hb:=(fun _=>by decide)) (k:=?_))
    refine N3 (ch:=[]) (a:=⟨B,62,none⟩) (cap:=3) (e:=5) (S:=inG [(B,.cells (rowH [E4 ((n / 16) / 16),E4 ((n / 16) % 16),E4 (n % 16)]) 253 (0,0))]) [E4 ((n / 16) / 16),E4 ((n / 16) % 16),E4 (n % 16)] (hrd:=rowH_rd [E4 ((n / 16) / 16),E4 ((n / 16) % 16),E4 (n % 16)] (by simp) (by simp)) (hS:=F7 0 rfl) (k:=A9 [0] [10,11] (k:=?_))
    refine A0 (B4 ?_)
    refine C1 (H':=H) (fun w h=>(h.erase 0)) (B6 [.tmp 10,.tmp 11] [.slice none 0 0,.string ⟨[E4 ((n / 16) / 16),E4 ((n / 16) % 16),E4 (n % 16)].toArray⟩] (k:=?_))
    exact ⟨by unfold R5; rw [if_neg (by omega),if_neg (by omega),if_pos (by omega)]; rfl,rfl⟩
  ·
   simp only [ge_iff_le,decide_eq_false_iff_not] at hc3
   refine H5 (B1 ?_)
   refine B1 (C7 ?_)
   refine A0 (A1 ?_)
   refine G_p [0,0,0] [0,1,3,4,10,11,12,13] (k:=A0 ?_)
   refine A2 (A4 (j:=2) [0,0] (k:=?_))
   refine D4 (ch:=[]) (s:=(ByteArray.mk #[48,49,50,51,52,53,54,55,56,57,97,98,99,100,101,102,103,104,105,106,107,108,109,110,111,112,113,114,115,116,117,118,119,120,121,122])) (kd:=.u64) (j:=(n / 16)) (hb:=(by intro _; exact ⟨by omega,by show _<(36:Int); omega⟩)) (k:=?_)
   have hb10:=C2 (ByteArray.mk #[48,49,50,51,52,53,54,55,56,57,97,98,99,100,101,102,103,104,105,106,107,108,109,110,111,112,113,114,115,116,117,118,119,120,121,122]) (n / 16)
   refine K4 (ch:=[]) (b:=B) (off:=0) (len:=65) (sz:=1) (e:=5) (kd:=.i64) (j:=63) (hb:=(fun _=>⟨by decide,by decide⟩)) (k:=M3 (ch:=[]) (b:=B) (off:=63) (v:=.int .u8 ((E4 (n / 16)).toNat:Int)) (c:=rowH [E4 (n % 16)]) (c':=rowH [E4 (n / 16),E4 (n % 16)]) (j:=0) (m:=0) (H':=([(B,.cells (rowH [E4 (n / 16),E4 (n % 16)]) 253 (0,0))]::H)) (hoff:=(by rw [P1 (by simp)]; exact Nat.le_of_ble_eq_true rfl)) (hfz:=(fun _ _=>C6)) (hc':=R1 _ [E4 (n % 16)] (by simp)) (k:=?_))
   refine A9 [] [0,3,4,10,11,12,13] (k:=A0 ?_)
   refine A1 (A1 ?_)
   refine G_p [0] [0,4,10,11,12,13,89] (k:=A0 ?_)
   refine C4 kr (A8 ?_)
   refine A0 (A1 ?_)
   refine A1 (B7 (E':=[⟨0,[],.slice none 0 0⟩,⟨10,[],.slice none 0 0⟩,⟨11,[],.string (ByteArray.mk #[])⟩,⟨12,[],pt B⟩,⟨13,[],.int .i64 63⟩,⟨94,[],.bool false⟩]) [0] [0,10,11,12,13,94] (k:=?_))
   refine A0 (C4 kr ?_)
   refine A8 (A0 ?_)
   refine A1 (A2 ?_)
   refine A4 (j:=1) [0] (k:=S5 (ch:=[]) (b:=B) (off:=0) (len:=65) (sz:=1) (e:=5) (vl:=(some (.int .i64 63))) (vh:=none) (l:=63) (h:=65) (hb:=(fun _=>by decide)) (k:=?_))
   refine N3 (ch:=[]) (a:=⟨B,63,none⟩) (cap:=2) (e:=5) (S:=inG [(B,.cells (rowH [E4 (n / 16),E4 (n % 16)]) 253 (0,0))]) [E4 (n / 16),E4 (n % 16)] (hrd:=rowH_rd [E4 (n / 16),E4 (n % 16)] (by simp) (by simp)) (hS:=F7 0 rfl) (k:=A9 [0] [10,11] (k:=?_))
   refine A0 (B4 ?_)
   refine C1 (H':=H) (fun w h=>(h.erase 0)) (B6 [.tmp 10,.tmp 11] [.slice none 0 0,.string ⟨[E4 (n / 16),E4 (n % 16)].toArray⟩] (k:=?_))
   exact ⟨by unfold R5; rw [if_neg (by omega),if_pos (by omega)]; rfl,rfl⟩
 ·
  simp only [ge_iff_le,decide_eq_false_iff_not] at hc1
  refine H5 (B1 ?_)
  refine B1 (C7 ?_)
  refine A0 (A1 ?_)
  refine G_p [0,0,0] [0,1,3,4,10,11,12,13] (k:=A0 ?_)
  refine A2 (A4 (j:=2) [0,0] (k:=?_))
  refine D4 (ch:=[]) (s:=(ByteArray.mk #[48,49,50,51,52,53,54,55,56,57,97,98,99,100,101,102,103,104,105,106,107,108,109,110,111,112,113,114,115,116,117,118,119,120,121,122])) (kd:=.u64) (j:=n) (hb:=(by intro _; exact ⟨by omega,by show _<(36:Int); omega⟩)) (k:=?_)
  have hb11:=C2 (ByteArray.mk #[48,49,50,51,52,53,54,55,56,57,97,98,99,100,101,102,103,104,105,106,107,108,109,110,111,112,113,114,115,116,117,118,119,120,121,122]) n
  refine K4 (ch:=[]) (b:=B) (off:=0) (len:=65) (sz:=1) (e:=5) (kd:=.i64) (j:=64) (hb:=(fun _=>⟨by decide,by decide⟩)) (k:=M3 (ch:=[]) (b:=B) (off:=64) (v:=.int .u8 ((E4 n).toNat:Int)) (c:=rowH []) (c':=rowH [E4 n]) (j:=0) (m:=0) (H':=([(B,.cells (rowH [E4 n]) 253 (0,0))]::H)) (hoff:=(by rw [P1 (by simp)]; exact Nat.le_of_ble_eq_true rfl)) (hfz:=(fun _ _=>C6)) (hc':=R1 _ [] (by simp)) (k:=?_))
  refine B2 (E':=[⟨0,[],.slice none 0 0⟩,⟨3,[],.bool false⟩,⟨4,[],.bool false⟩,⟨10,[],.slice none 0 0⟩,⟨11,[],.string (ByteArray.mk #[])⟩,⟨12,[],pt B⟩,⟨13,[],.int .i64 64⟩]) [] [0,3,4,10,11,12,13] (k:=A0 ?_)
  refine A1 (A1 ?_)
  refine G_p [0] [0,4,10,11,12,13,89] (k:=A0 ?_)
  refine C4 kr (A8 ?_)
  refine A0 (A1 ?_)
  refine A1 (G_p [0] [0,10,11,12,13,94] (k:=?_))
  refine A0 (C4 kr ?_)
  refine A8 (A0 ?_)
  refine A1 (A2 ?_)
  refine A4 (j:=1) [0] (k:=S5 (ch:=[]) (b:=B) (off:=0) (len:=65) (sz:=1) (e:=5) (vl:=(some (.int .i64 64))) (vh:=none) (l:=64) (h:=65) (hb:=(fun _=>by decide)) (k:=?_))
  refine N3 (ch:=[]) (a:=⟨B,64,none⟩) (cap:=1) (e:=5) (S:=inG [(B,.cells (rowH [E4 n]) 253 (0,0))]) [E4 n] (hrd:=rowH_rd [E4 n] (by simp) (by simp)) (hS:=F7 0 rfl) (k:=A9 [0] [10,11] (k:=?_))
  refine A0 (B4 ?_)
  refine C1 (H':=H) (fun w h=>(h.erase 0)) (B6 [.tmp 10,.tmp 11] [.slice none 0 0,.string ⟨[E4 n].toArray⟩] (k:=?_))
  exact ⟨by unfold R5; rw [if_pos (by omega)]; rfl,rfl⟩
theorem fint0_ (n:Int) (h0:0≤n) (h1:n<65536) (W0:World) (H:List Grp) (hW:F6 W0):Tri Tryz.prog 180 #[.int .i64 n,.int .i64 16] W0 H (fun v H'=>v=.string ⟨(R5 n).toArray⟩∧H'=H):=by
 refine C5 (args:=[.int .i64 n,.int .i64 16]) (n:=54) Tryz.func180 rfl rfl (Nat.le_of_ble_eq_true rfl) ?_
 refine A1 (G_p [0] [0,1] (k:=?_))
 refine A0 (A1 ?_)
 refine A1 (G_p [0,0] [0,1,11] (k:=?_))
 refine A0 (C4 kr ?_)
 refine A8 (A0 ?_)
 refine A1 ?_
 have hw1:IntKind.wrap .u64 n=n:=w64u (by omega) (by omega)
 refine A2 (B5 (E':=[⟨49,[],.bool (decide (n<0))⟩,⟨47,[],.int .i64 16⟩,⟨46,[],.int .u64 n⟩]) [0,0,0,0,0] (Eq.trans (b:=some [⟨49,[],.bool (decide (n<0))⟩,⟨47,[],.int .i64 16⟩,⟨46,[],.int .u64 (IntKind.wrap .u64 n)⟩]) kr (by simp only [hw1])) (j:=5) rfl ?_)
 refine B8 (E':=[⟨49,[],.bool false⟩,⟨47,[],.int .i64 16⟩,⟨46,[],.int .u64 n⟩]) (by rw [show decide (n<0)=false from decide_eq_false (by omega)]) (D5 Tryz.func198 (fbits_ n (by omega) (by omega) _ _ hW) ?_)
 rintro _ _ ⟨rfl,rfl⟩
 refine B2 (E':=[⟨9,[],.string (bk (R5 n))⟩]) [0,0,0,0,0] [9] (k:=A0 ?_)
 refine A1 (B7 (E':=[⟨4,[],.string (bk (R5 n))⟩]) [0,0] [4] (k:=?_))
 refine A0 (B4 ?_)
 refine B6 [.tmp 4] [.string (bk (R5 n))] (k:=?_)
 exact ⟨rfl,rfl⟩
theorem fint_ (n:Int) (h0:0≤n) (h1:n<65536) (W0:World) (H:List Grp) (hW:F6 W0):Tri Tryz.prog 164 #[.int .i64 n,.int .i64 16] W0 H (fun v H'=>v=.string ⟨(R5 n).toArray⟩∧H'=H):=by
 refine C5 (args:=[.int .i64 n,.int .i64 16]) (n:=8) Tryz.func164 rfl rfl (Nat.le_of_ble_eq_true rfl) ?_
 refine A1 (G_p [0] [0,1] (k:=?_))
 refine A0 (A1 ?_)
 refine A2 (A4 (j:=2) [0,0] (k:=?_))
 refine D5 Tryz.func180 (fint0_ n (by omega) (by omega) _ _ hW) ?_
 rintro _ _ ⟨rfl,rfl⟩
 refine B2 (E':=[⟨4,[],.string (bk (R5 n))⟩]) [0] [4] (k:=A0 ?_)
 refine B4 (B6 [.tmp 4] [.string (bk (R5 n))] (k:=?_))
 exact ⟨rfl,rfl⟩
theorem rep0 (s:ByteArray) (c:Nat) (hs:s.size=1) (hc:c≤1000) (W0:World) (H:List Grp):Tri Tryz.prog 165 #[.string s,.int .i64 c] W0 H (fun v H'=>v=.string ⟨(Lib.repeatL s.data.toList c).toArray⟩∧H'=H) :=
  Tri_below (fun w _=>Tryz.strings_Repeat s c w (by omega) (by rw [hs]; omega))
theorem rep48 (c:Nat):Lib.repeatL [48] c=List.replicate c 48:=by
  induction c with
  | zero=>rfl
  | succ c ih=>first | (rw [List.replicate_succ,← ih]; rfl) | (simp [Lib.repeatL] at ih ⊢; try exact ih)
theorem hexD_size (n:Int):(bk (R5 n)).size=(R5 n).length:=by simp [ByteArray.size]
theorem four_ (n:Int) (h0:0≤n) (h1:n<65536) (W0:World) (H:List Grp) (hW:F6 W0):Tri Tryz.prog 137 #[.int .i64 n] W0 H (fun v H'=>v=.string ⟨(92::117::hex4 n.toNat).toArray⟩∧H'=H):=by
 have hhl:=hexD_len n
 have hsz:=hexD_size n
 have hsub:(4:Int) - ((bk (R5 n)).size:Int)=((4 - (R5 n).length:Nat):Int):=by rw [hsz]; omega
 have hz2:(bk (Lib.repeatL (ByteArray.mk #[48]).data.toList (4 - (R5 n).length))).size=4 - (R5 n).length:=by rw [D3,show (ByteArray.mk #[48]).data.toList=[48] from rfl,rep48,List.length_replicate]
 have hz3:(ByteArray.mk #[92,117]).size=2:=rfl
 refine C5 (args:=[.int .i64 n]) (n:=13) Tryz.func137 rfl rfl (Nat.le_of_ble_eq_true rfl) ?_
 refine A1 (B7 (E':=[⟨0,[],.int .i64 n⟩]) [0] [0] (k:=?_))
 refine A0 (A1 ?_)
 refine A2 (A4 (j:=1) [0] (k:=?_))
 refine D5 Tryz.func164 (fint_ n (by omega) (by omega) _ _ hW) ?_
 rintro _ _ ⟨rfl,rfl⟩
 refine B2 (E':=[⟨3,[],.string (bk (R5 n))⟩]) [0] [3] (k:=A0 ?_)
 refine A1 ?_
 have hw1:IntKind.wrap .i64 (4 - ((bk (R5 n)).size:Int))=4 - ((bk (R5 n)).size:Int):=w64 (by omega) (by omega)
 refine A2 (B5 (E':=[⟨8,[],.int .i64 (4 - ((bk (R5 n)).size:Int))⟩,⟨3,[],.string (bk (R5 n))⟩]) [0,0,0] (Eq.trans (b:=some [⟨8,[],.int .i64 (IntKind.wrap .i64 (4 - ((bk (R5 n)).size:Int)))⟩,⟨3,[],.string (bk (R5 n))⟩]) kr (by simp only [hw1])) (j:=3) rfl ?_)
 refine B8 (E':=[⟨8,[],.int .i64 ((4 - (R5 n).length:Nat):Int)⟩,⟨3,[],.string (bk (R5 n))⟩]) (by rw [hsub]) (D5 Tryz.func165 (rep0 (ByteArray.mk #[48]) (4 - (R5 n).length) rfl (by omega) _ _) ?_)
 rintro _ _ ⟨rfl,rfl⟩
 refine I9 (ch:=[]) (s:=(ByteArray.mk #[92,117])) (u:=⟨(Lib.repeatL (ByteArray.mk #[48]).data.toList (4 - (R5 n).length)).toArray⟩) (hb:=(by intro _; simp only [hz2,hz3]; omega)) (k:=A4 (j:=6) [0] (k:=?_))
 refine I9 (ch:=[]) (s:=(ByteArray.mk #[92,117])++⟨(Lib.repeatL (ByteArray.mk #[48]).data.toList (4 - (R5 n).length)).toArray⟩) (u:=(bk (R5 n))) (hb:=(by intro _; simp only [G8,hz2,hz3,hsz]; omega)) (k:=A9 [0] [2] (k:=?_))
 refine A0 (B4 ?_)
 refine B6 [.tmp 2] [.string (((ByteArray.mk #[92,117])++⟨(Lib.repeatL (ByteArray.mk #[48]).data.toList (4 - (R5 n).length)).toArray⟩)++(bk (R5 n)))] (k:=?_)
 exact ⟨congrArg Value.string (ba_eq (by rw [G0,G0,← hexD_pad h0 h1,← rep48]; rfl)),rfl⟩
end Go.Proofs.YtppgfiklmfoaeaaGreatDoor
namespace Go.Proofs.YtppgfiklmfoaeaaGreatDoor
open Go.Sw Go.Sha Go.Esc Go.RowKit
theorem json_ (s:ByteArray) (hs:s.size≤1000000000) (W0:World) (H:List Grp) (hW:F6 W0):Tri Tryz.prog 91 #[.string s] W0 H (fun v H'=>v=.string ⟨(K0 s.data.toList).toArray⟩∧H'=H):=by
 refine C5 (args:=[.string s]) (n:=69) Tryz.func91 rfl rfl (Nat.le_of_ble_eq_true rfl) ?_
 refine A1 (B7 (E':=[⟨0,[],.string s⟩]) [0] [0] (k:=?_))
 refine A0 (A1 ?_)
 refine A2 (F0 (ch:=[]) (z:=.agg #[.pointer none,.slice none 0 0]) (k:=(fun b1=>?_)))
 refine I1 rfl (H':=([(b1,.cells #[.pointer none,.slice none 0 0] 87 (0,0))]::[]::H)) (fun w h=>h.flat (List.Perm.refl _)) (B2 (E':=[⟨0,[],.string s⟩,⟨3,[],pt b1⟩]) [] [0,3] (k:=?_))
 refine A0 (A1 ?_)
 refine A2 (D5 (vs:=[pt b1,.int .u8 34]) Tryz.func92 (J8 b1 (.pointer none) (.slice none 0 0) [] .empty (Nat.toUInt8 34) bld0 bown0 (by show 0+1≤_; omega) _ _) ?_)
 rintro _ _ ⟨v2,g3,hB4,rfl⟩
 refine B2 (E':=[⟨0,[],.string s⟩,⟨3,[],pt b1⟩]) [] [0,3] (k:=A0 ?_)
 refine A1 (A1 ?_)
 refine A2 (A4 (j:=1) [0] (k:=?_))
 refine GL_rangeS (i:=1) (ch:=[]) (s:=s) rfl rfl kr kr kr kr kr (fun it5=>B2 (E':=[⟨3,[],pt b1⟩,⟨8,[],pt it5⟩]) [] [3,8] (k:=?_))
 refine A0 (B9 ?_)
 refine G_heap (H':=([(b1,.cells #[pt b1,v2] 87 (0,0))]::g3::[(it5,.stringIter s 0)]::H)) (fun w h=>((h.front (j:=2) rfl).front (j:=2) rfl)) (J5 (EI:=(fun ξ:Value × Value × Grp × ByteArray × Nat=>[⟨3,[],pt b1⟩,⟨8,[],pt it5⟩])) (HI:=(fun ξ:Value × Value × Grp × ByteArray × Nat=>([(b1,.cells #[ξ.1,ξ.2.1] 87 (0,0))]::ξ.2.2.1::[(it5,.stringIter s ξ.2.2.2.2)]::H))) (Φ:=(fun ξ:Value × Value × Grp × ByteArray × Nat=>(Bld b1 ξ.1)∧(P6 ξ.2.1 ξ.2.2.1 ξ.2.2.2.1)∧(ξ.2.2.2.2≤s.size)∧(ξ.2.2.2.1.data.toList++((O3 (s.data.toList.drop ξ.2.2.2.2)).flatMap K8++[34])=K0 s.data.toList))) (μ:=(fun ξ:Value × Value × Grp × ByteArray × Nat=>s.size - ξ.2.2.2.2)) (s0:=(pt b1,v2,g3,(.empty++⟨#[Nat.toUInt8 34]⟩),0)) [3,8] kr rfl ⟨bld1,hB4,(by (try dsimp only); omega),(by rfl)⟩ ?_)
 rintro ⟨p,v,g,t,q⟩ ⟨hbp,hB,hq,hT⟩
 dsimp only at hbp hB hq hT
 have ht:t.size≤6 * s.size+2:=by
  have h1:=congrArg List.length hT
  have h2:=M0 s.data.toList
  rw [List.length_append,E0] at h1
  rw [E0] at h2
  omega
 refine A1 (A2 ?_)
 refine GL_nextS (i:=0) (ch:=[]) (it:=it5) (p:=q) (s:=s) (j:=2) rfl rfl kr kr kr kr rfl (fun hend6=>?_) (fun hmore7=>?_)
 ·
  have hxe:=hend6
  refine A9 [0] [3,8,9,10] (k:=A0 ?_)
  refine A1 (C4 kr ?_)
  refine H5 (B1 ?_)
  refine B1 (C7 ?_)
  refine A0 (A1 ?_)
  refine A2 (D5 Tryz.func92 (J8 b1 (p) (v) g t (Nat.toUInt8 34) hbp hB (by omega) _ _) ?_)
  rintro _ _ ⟨v8,g9,hB10,rfl⟩
  refine B2 (E':=[⟨3,[],pt b1⟩]) [] [3] (k:=A0 ?_)
  refine A1 (A2 ?_)
  refine D5 Tryz.func53 (R8 b1 (pt b1) (v8) g9 (t++⟨#[Nat.toUInt8 34]⟩) hB10 (by (try simp only [G8,sz1]); omega) _ _) ?_
  rintro _ _ ⟨rfl,rfl⟩
  refine A9 [0] [2] (k:=A0 ?_)
  refine B4 (C1 (H':=H) (fun w h=>((h.erase 1).erase 0)) ?_)
  refine B6 [.tmp 2] [.string (t++⟨#[Nat.toUInt8 34]⟩)] (k:=?_)
  exact ⟨congrArg Value.string (ba_eq (by rw [G0,← hT,runes_end (by omega)]; rfl)),rfl⟩
 ·
  have hdc:=dc_rng s q
  have hxm:=hmore7
  refine A9 [0] [3,8,9,10] (k:=A0 ?_)
  refine A1 (F5 kr ?_)
  refine A8 (A0 ?_)
  refine B9 (A1 ?_)
  refine G_p [0,0] [3,5,8] (k:=A0 ?_)
  refine B9 (A1 ?_)
  refine G_p [0,0,0,0,0,5,0] [3,5,8,14] (k:=A0 ?_)
  refine B0 (b:=((dcR s q)==34)||((dcR s q)==92)) kr (fun hc11=>?_) (fun hc11=>?_)
  ·
   simp only [Bool.or_eq_true,beq_iff_eq] at hc11
   have hj:K8 (dcR s q)=92::Lib.encodeRune (dcR s q):=by unfold K8; rw [if_pos (by omega)]
   refine A1 (A2 ?_)
   refine D5 Tryz.func92 (J8 b1 (p) (v) g t (Nat.toUInt8 92) hbp hB (by omega) _ _) ?_
   rintro _ _ ⟨v12,g13,hB14,rfl⟩
   refine A9 [] [3,5,8] (k:=A0 ?_)
   refine A2 (A4 (j:=1) [0] (k:=?_))
   refine D5 (vs:=[pt b1,.int .i32 (dcR s q)]) Tryz.func136 (writeRune b1 (pt b1) (v12) g13 (t++⟨#[Nat.toUInt8 92]⟩) (dcR s q) bld1 hB14 (isR_dc _ _) (by simp only [G8]; have h2:(⟨#[Nat.toUInt8 92]⟩:ByteArray).size=1:=rfl; omega) _ _) ?_
   rintro _ _ ⟨v15,g16,hB17,rfl⟩
   refine B2 (E':=[⟨3,[],pt b1⟩,⟨8,[],pt it5⟩]) [] [3,8] (k:=C0 ?_)
   refine C0 (F3 (s':=(pt b1,v15,g16,((t++⟨#[Nat.toUInt8 92]⟩)++encB (dcR s q)),q+dcW s q)) [3,8] kr rfl ⟨bld1,hB17,(dcW_le hxm),(by dsimp only; rw [← hT,runes_at hxm,List.flatMap_cons,hj]; (try simp only [G0,J7,List.append_assoc]) <;> rfl)⟩ (by (try dsimp only); omega))
  ·
   simp only [Bool.or_eq_false_iff,beq_eq_false_iff_ne] at hc11
   refine A1 (G_p [0,0,0] [3,5,8,24] (k:=?_))
   refine A0 (B0 (b:=(dcR s q)==10) kr (fun hc18=>?_) (fun hc18=>?_))
   ·
    simp only [beq_iff_eq] at hc18
    have hj:K8 (dcR s q)=[92,110]:=by unfold K8; rw [if_neg (by omega),if_pos (by omega)]
    refine A2 (D5 Tryz.func90 (I0 b1 (p) (v) g t (ByteArray.mk #[92,110]) hbp hB (by have h2:(ByteArray.mk #[92,110]).size=2:=rfl; omega) _ _) ?_)
    rintro _ _ ⟨v19,g20,hB21,rfl⟩
    refine B2 (E':=[⟨3,[],pt b1⟩,⟨8,[],pt it5⟩]) [] [3,8] (k:=C0 ?_)
    refine C0 (F3 (s':=(pt b1,v19,g20,(t++(ByteArray.mk #[92,110])),q+dcW s q)) [3,8] kr rfl ⟨bld1,hB21,(dcW_le hxm),(by dsimp only; rw [← hT,runes_at hxm,List.flatMap_cons,hj]; (try simp only [G0,List.append_assoc]) <;> rfl)⟩ (by (try dsimp only); omega))
   ·
    simp only [beq_eq_false_iff_ne] at hc18
    refine A1 (G_p [0,0,0] [3,5,8,28] (k:=?_))
    refine A0 (B0 (b:=(dcR s q)==13) kr (fun hc22=>?_) (fun hc22=>?_))
    ·
     simp only [beq_iff_eq] at hc22
     have hj:K8 (dcR s q)=[92,114]:=by unfold K8; rw [if_neg (by omega),if_neg (by omega),if_pos (by omega)]
     refine A2 (D5 Tryz.func90 (I0 b1 (p) (v) g t (ByteArray.mk #[92,114]) hbp hB (by have h2:(ByteArray.mk #[92,114]).size=2:=rfl; omega) _ _) ?_)
     rintro _ _ ⟨v23,g24,hB25,rfl⟩
     refine B2 (E':=[⟨3,[],pt b1⟩,⟨8,[],pt it5⟩]) [] [3,8] (k:=C0 ?_)
     refine C0 (F3 (s':=(pt b1,v23,g24,(t++(ByteArray.mk #[92,114])),q+dcW s q)) [3,8] kr rfl ⟨bld1,hB25,(dcW_le hxm),(by dsimp only; rw [← hT,runes_at hxm,List.flatMap_cons,hj]; (try simp only [G0,List.append_assoc]) <;> rfl)⟩ (by (try dsimp only); omega))
    ·
     simp only [beq_eq_false_iff_ne] at hc22
     refine A1 (B7 (E':=[⟨3,[],pt b1⟩,⟨5,[],.int .i32 (dcR s q)⟩,⟨8,[],pt it5⟩,⟨32,[],.bool ((dcR s q)==9)⟩]) [0,0,0] [3,5,8,32] (k:=?_))
     refine A0 (B0 (b:=(dcR s q)==9) kr (fun hc26=>?_) (fun hc26=>?_))
     ·
      simp only [beq_iff_eq] at hc26
      have hj:K8 (dcR s q)=[92,116]:=by unfold K8; rw [if_neg (by omega),if_neg (by omega),if_neg (by omega),if_pos (by omega)]
      refine A2 (D5 Tryz.func90 (I0 b1 (p) (v) g t (ByteArray.mk #[92,116]) hbp hB (by have h2:(ByteArray.mk #[92,116]).size=2:=rfl; omega) _ _) ?_)
      rintro _ _ ⟨v27,g28,hB29,rfl⟩
      refine B2 (E':=[⟨3,[],pt b1⟩,⟨8,[],pt it5⟩]) [] [3,8] (k:=C0 ?_)
      refine C0 (F3 (s':=(pt b1,v27,g28,(t++(ByteArray.mk #[92,116])),q+dcW s q)) [3,8] kr rfl ⟨bld1,hB29,(dcW_le hxm),(by dsimp only; rw [← hT,runes_at hxm,List.flatMap_cons,hj]; (try simp only [G0,List.append_assoc]) <;> rfl)⟩ (by (try dsimp only); omega))
     ·
      simp only [beq_eq_false_iff_ne] at hc26
      refine A1 (G_p [0,0,0,0,0,5,0,0,0,5,0,0,0,5,0,0,0,5,0,0,0,5,0,0,0,5,0] [3,5,8,36] (k:=?_))
      refine A0 (B0 (b:=((((((decide ((dcR s q)<32))||((dcR s q)==127))||((dcR s q)==8232))||((dcR s q)==8233))||((dcR s q)==60))||((dcR s q)==62))||((dcR s q)==38)) kr (fun hc30=>?_) (fun hc30=>?_))
      ·
       simp only [Bool.or_eq_true,decide_eq_true_eq,beq_iff_eq] at hc30
       have hj:K8 (dcR s q)=92::117::hex4 (Int.toNat (dcR s q)):=by unfold K8; rw [if_neg (by omega),if_neg (by omega),if_neg (by omega),if_neg (by omega),if_pos (by omega)]
       refine A2 (A4 (j:=2) [0,0] (k:=?_))
       refine D8 64 (dcR s q) (by omega) (by omega) kr (D5 Tryz.func137 (four_ (dcR s q) (by omega) (by omega) _ _ hW) ?_)
       rintro _ _ ⟨rfl,rfl⟩
       refine D5 (vs:=[pt b1,.string (bk (92::117::hex4 (Int.toNat (dcR s q))))]) Tryz.func90 (I0 b1 (p) (v) g t (bk (92::117::hex4 (Int.toNat (dcR s q)))) hbp hB (by have h6:(bk (92::117::hex4 (Int.toNat (dcR s q)))).size=6:=(D3 _).trans rfl; omega) _ _) ?_
       rintro _ _ ⟨v32,g33,hB34,rfl⟩
       refine B2 (E':=[⟨3,[],pt b1⟩,⟨8,[],pt it5⟩]) [] [3,8] (k:=C0 ?_)
       refine C0 (F3 (s':=(pt b1,v32,g33,(t++(bk (92::117::hex4 (Int.toNat (dcR s q))))),q+dcW s q)) [3,8] kr rfl ⟨bld1,hB34,(dcW_le hxm),(by dsimp only; rw [← hT,runes_at hxm,List.flatMap_cons,hj]; (try simp only [G0,List.append_assoc]) <;> rfl)⟩ (by (try dsimp only); omega))
      ·
       simp only [Bool.or_eq_false_iff,decide_eq_false_iff_not,beq_eq_false_iff_ne] at hc30
       have hj:K8 (dcR s q)=Lib.encodeRune (dcR s q):=by unfold K8; rw [if_neg (by omega),if_neg (by omega),if_neg (by omega),if_neg (by omega),if_neg (by omega)]
       refine A2 (A4 (j:=1) [0] (k:=?_))
       refine D5 (vs:=[pt b1,.int .i32 (dcR s q)]) Tryz.func136 (writeRune b1 (p) (v) g t (dcR s q) hbp hB (isR_dc _ _) (by omega) _ _) ?_
       rintro _ _ ⟨v35,g36,hB37,rfl⟩
       refine B2 (E':=[⟨3,[],pt b1⟩,⟨8,[],pt it5⟩]) [] [3,8] (k:=C0 ?_)
       refine C0 (F3 (s':=(pt b1,v35,g36,(t++encB (dcR s q)),q+dcW s q)) [3,8] kr rfl ⟨bld1,hB37,(dcW_le hxm),(by dsimp only; rw [← hT,runes_at hxm,List.flatMap_cons,hj]; (try simp only [G0,J7,List.append_assoc]) <;> rfl)⟩ (by (try dsimp only); omega))
end Go.Proofs.YtppgfiklmfoaeaaGreatDoor
namespace Go.Proofs.YtppgfiklmfoaeaaGreatDoor
open Go.Sw Go.Sha Go.Esc Go.RowKit Go.Json
theorem bko (l:List UInt8) (t:ByteArray):(t++bk l).data.toList=t.data.toList++l:=G0 _ _
theorem ba_ext {s t:ByteArray} (h:s.data.toList=t.data.toList):s=t:=ByteArray.ext (Array.ext' h)
theorem name_get {ns:List (List UInt8)} {k:Nat} (h:k<ns.length):ns.getD k []=ns[k]:=by simp [List.getD,h]
theorem jwrite0_ (x:JV) (an:Option Addr) (cn:Nat) (al:Option Addr) (cl:Nat) (cs:List Value) (S:Nat→Obj→Prop) (_:Rd S an (G4 x.names)) (_:Rd S al cs) (_:JRdL S x.list cs) (_:Nat) (hk6:x.kind=0) (b:Nat) (p v:Value) (g:Grp) (t0:ByteArray) (hp:Bld b p) (hv:P6 v g t0) (hs:t0.size+20 * wtJ x≤10000000000)  (W0:World) (H:List Grp) (_:∀ y o,S y o→At W0 H y o) (_:F6 W0):Tri Tryz.prog 52 #[pt b,.agg #[.int .i64 0,.string (bk x.text),.slice an x.names.length cn,.slice al x.list.length cl]] W0 ([(b,.cells #[p,v] 87 (0,0))]::g::H) (fun _ H'=>∃ v' g',P6 v' g' (t0++bk (prP x))∧H'=bldG b (.pointer (some ⟨b,0,none⟩)) v'::g'::H):=by
 have hxl:=O0 x
 have hcw:=cn_wt x
 have hxt:x.text.length<wtJ x:=by rw [wt_pr x]; omega
 have hjl:=M0 x.text
 refine C5 (args:=[pt b,.agg #[.int .i64 0,.string (bk x.text),.slice an x.names.length cn,.slice al x.list.length cl]]) (n:=73) Tryz.func52 rfl rfl (Nat.le_of_ble_eq_true rfl) ?_
 refine A1 (A2 ?_)
 refine K7 (ch:=[]) (v:=.agg #[.int .i64 0,.string (bk x.text),.slice an x.names.length cn,.slice al x.list.length cl]) (k:=(fun b1=>?_))
 refine B2 (E':=[⟨0,[],pt b⟩,⟨3,[],pt b1⟩]) [] [0,3] (k:=A0 ?_)
 refine A1 (A2 ?_)
 refine A4 (j:=1) [0] (k:=A6 (ch:=[]) (b:=b1) (off:=0) (v:=.int .i64 0) (hA:=At.grp 0 0 rfl rfl) (k:=?_))
 refine A9 [] [0,3,8] (k:=A0 ?_)
 refine B9 (A1 ?_)
 refine G_p [0,0] [0,3,8,48] (k:=A0 ?_)
 refine F5 kr (A2 ?_)
 refine A4 (j:=1) [0] (k:=I1 rfl (H':=([(b,.cells #[p,v] 87 (0,0))]::g::[(b1,.cells #[.int .i64 0,.string (bk x.text),.slice an x.names.length cn,.slice al x.list.length cl] 28 (0,0))]::H)) (fun w h=>((h.front (j:=2) rfl).front (j:=2) rfl)) ?_)
 refine D5 Tryz.func90 (I0 b (p) (v) g t0 (ByteArray.mk #[110,117,108,108]) hp hv (by (try simp only [D3,List.length_cons,List.length_nil]); omega) _ _) ?_
 rintro _ _ ⟨v2,g3,hB4,rfl⟩
 refine B2 (E':=[]) [] [] (k:=C0 ?_)
 refine C1 (H':=([(b,.cells #[pt b,v2] 87 (0,0))]::g3::H)) (fun w h=>(h.erase 2)) (B6 [] [] (k:=?_))
 exact ⟨_,_,(by rw [show t0++bk (prP x)=(t0++(ByteArray.mk #[110,117,108,108])) from (ba_ext (by rw [pr_atom hk6 (by decide)]; rfl)).symm]; exact hB4),rfl⟩
theorem jwrite1_ (x:JV) (an:Option Addr) (cn:Nat) (al:Option Addr) (cl:Nat) (cs:List Value) (S:Nat→Obj→Prop) (_:Rd S an (G4 x.names)) (_:Rd S al cs) (_:JRdL S x.list cs) (_:Nat) (hk6:x.kind=1) (b:Nat) (p v:Value) (g:Grp) (t0:ByteArray) (hp:Bld b p) (hv:P6 v g t0) (hs:t0.size+20 * wtJ x≤10000000000)  (W0:World) (H:List Grp) (_:∀ y o,S y o→At W0 H y o) (_:F6 W0):Tri Tryz.prog 52 #[pt b,.agg #[.int .i64 1,.string (bk x.text),.slice an x.names.length cn,.slice al x.list.length cl]] W0 ([(b,.cells #[p,v] 87 (0,0))]::g::H) (fun _ H'=>∃ v' g',P6 v' g' (t0++bk (prP x))∧H'=bldG b (.pointer (some ⟨b,0,none⟩)) v'::g'::H):=by
 have hxl:=O0 x
 have hcw:=cn_wt x
 have hxt:x.text.length<wtJ x:=by rw [wt_pr x]; omega
 have hjl:=M0 x.text
 refine C5 (args:=[pt b,.agg #[.int .i64 1,.string (bk x.text),.slice an x.names.length cn,.slice al x.list.length cl]]) (n:=73) Tryz.func52 rfl rfl (Nat.le_of_ble_eq_true rfl) ?_
 refine A1 (A2 ?_)
 refine K7 (ch:=[]) (v:=.agg #[.int .i64 1,.string (bk x.text),.slice an x.names.length cn,.slice al x.list.length cl]) (k:=(fun b1=>?_))
 refine B2 (E':=[⟨0,[],pt b⟩,⟨3,[],pt b1⟩]) [] [0,3] (k:=A0 ?_)
 refine A1 (A2 ?_)
 refine A4 (j:=1) [0] (k:=A6 (ch:=[]) (b:=b1) (off:=0) (v:=.int .i64 1) (hA:=At.grp 0 0 rfl rfl) (k:=?_))
 refine A9 [] [0,3,8] (k:=A0 ?_)
 refine B9 (A1 ?_)
 refine G_p [0,0] [0,3,8,48] (k:=A0 ?_)
 refine C4 kr (A1 ?_)
 refine G_p [0,0] [0,3,8,52] (k:=A0 ?_)
 refine F5 kr (A2 ?_)
 refine A4 (j:=1) [0] (k:=I1 rfl (H':=([(b,.cells #[p,v] 87 (0,0))]::g::[(b1,.cells #[.int .i64 1,.string (bk x.text),.slice an x.names.length cn,.slice al x.list.length cl] 28 (0,0))]::H)) (fun w h=>((h.front (j:=2) rfl).front (j:=2) rfl)) ?_)
 refine D5 Tryz.func90 (I0 b (p) (v) g t0 (ByteArray.mk #[102,97,108,115,101]) hp hv (by (try simp only [D3,List.length_cons,List.length_nil]); omega) _ _) ?_
 rintro _ _ ⟨v2,g3,hB4,rfl⟩
 refine B2 (E':=[]) [] [] (k:=C0 ?_)
 refine C1 (H':=([(b,.cells #[pt b,v2] 87 (0,0))]::g3::H)) (fun w h=>(h.erase 2)) (B6 [] [] (k:=?_))
 exact ⟨_,_,(by rw [show t0++bk (prP x)=(t0++(ByteArray.mk #[102,97,108,115,101])) from (ba_ext (by rw [pr_atom hk6 (by decide)]; rfl)).symm]; exact hB4),rfl⟩
theorem jwrite2_ (x:JV) (an:Option Addr) (cn:Nat) (al:Option Addr) (cl:Nat) (cs:List Value) (S:Nat→Obj→Prop) (_:Rd S an (G4 x.names)) (_:Rd S al cs) (_:JRdL S x.list cs) (_:Nat) (hk6:x.kind=2) (b:Nat) (p v:Value) (g:Grp) (t0:ByteArray) (hp:Bld b p) (hv:P6 v g t0) (hs:t0.size+20 * wtJ x≤10000000000)  (W0:World) (H:List Grp) (_:∀ y o,S y o→At W0 H y o) (_:F6 W0):Tri Tryz.prog 52 #[pt b,.agg #[.int .i64 2,.string (bk x.text),.slice an x.names.length cn,.slice al x.list.length cl]] W0 ([(b,.cells #[p,v] 87 (0,0))]::g::H) (fun _ H'=>∃ v' g',P6 v' g' (t0++bk (prP x))∧H'=bldG b (.pointer (some ⟨b,0,none⟩)) v'::g'::H):=by
 have hxl:=O0 x
 have hcw:=cn_wt x
 have hxt:x.text.length<wtJ x:=by rw [wt_pr x]; omega
 have hjl:=M0 x.text
 refine C5 (args:=[pt b,.agg #[.int .i64 2,.string (bk x.text),.slice an x.names.length cn,.slice al x.list.length cl]]) (n:=73) Tryz.func52 rfl rfl (Nat.le_of_ble_eq_true rfl) ?_
 refine A1 (A2 ?_)
 refine K7 (ch:=[]) (v:=.agg #[.int .i64 2,.string (bk x.text),.slice an x.names.length cn,.slice al x.list.length cl]) (k:=(fun b1=>?_))
 refine B2 (E':=[⟨0,[],pt b⟩,⟨3,[],pt b1⟩]) [] [0,3] (k:=A0 ?_)
 refine A1 (A2 ?_)
 refine A4 (j:=1) [0] (k:=A6 (ch:=[]) (b:=b1) (off:=0) (v:=.int .i64 2) (hA:=At.grp 0 0 rfl rfl) (k:=?_))
 refine A9 [] [0,3,8] (k:=A0 ?_)
 refine B9 (A1 ?_)
 refine G_p [0,0] [0,3,8,48] (k:=A0 ?_)
 refine C4 kr (A1 ?_)
 refine G_p [0,0] [0,3,8,52] (k:=A0 ?_)
 refine C4 kr (A1 ?_)
 refine G_p [0,0] [0,3,8,56] (k:=A0 ?_)
 refine F5 kr (A2 ?_)
 refine A4 (j:=1) [0] (k:=I1 rfl (H':=([(b,.cells #[p,v] 87 (0,0))]::g::[(b1,.cells #[.int .i64 2,.string (bk x.text),.slice an x.names.length cn,.slice al x.list.length cl] 28 (0,0))]::H)) (fun w h=>((h.front (j:=2) rfl).front (j:=2) rfl)) ?_)
 refine D5 Tryz.func90 (I0 b (p) (v) g t0 (ByteArray.mk #[116,114,117,101]) hp hv (by (try simp only [D3,List.length_cons,List.length_nil]); omega) _ _) ?_
 rintro _ _ ⟨v2,g3,hB4,rfl⟩
 refine B2 (E':=[]) [] [] (k:=C0 ?_)
 refine C1 (H':=([(b,.cells #[pt b,v2] 87 (0,0))]::g3::H)) (fun w h=>(h.erase 2)) (B6 [] [] (k:=?_))
 exact ⟨_,_,(by rw [show t0++bk (prP x)=(t0++(ByteArray.mk #[116,114,117,101])) from (ba_ext (by rw [pr_atom hk6 (by decide)]; rfl)).symm]; exact hB4),rfl⟩
theorem jwrite3_ (x:JV) (an:Option Addr) (cn:Nat) (al:Option Addr) (cl:Nat) (cs:List Value) (S:Nat→Obj→Prop) (_:Rd S an (G4 x.names)) (_:Rd S al cs) (_:JRdL S x.list cs) (_:Nat) (hk6:x.kind=3) (b:Nat) (p v:Value) (g:Grp) (t0:ByteArray) (hp:Bld b p) (hv:P6 v g t0) (hs:t0.size+20 * wtJ x≤10000000000)  (W0:World) (H:List Grp) (_:∀ y o,S y o→At W0 H y o) (_:F6 W0):Tri Tryz.prog 52 #[pt b,.agg #[.int .i64 3,.string (bk x.text),.slice an x.names.length cn,.slice al x.list.length cl]] W0 ([(b,.cells #[p,v] 87 (0,0))]::g::H) (fun _ H'=>∃ v' g',P6 v' g' (t0++bk (prP x))∧H'=bldG b (.pointer (some ⟨b,0,none⟩)) v'::g'::H):=by
 have hxl:=O0 x
 have hcw:=cn_wt x
 have hxt:x.text.length<wtJ x:=by rw [wt_pr x]; omega
 have hjl:=M0 x.text
 refine C5 (args:=[pt b,.agg #[.int .i64 3,.string (bk x.text),.slice an x.names.length cn,.slice al x.list.length cl]]) (n:=73) Tryz.func52 rfl rfl (Nat.le_of_ble_eq_true rfl) ?_
 refine A1 (A2 ?_)
 refine K7 (ch:=[]) (v:=.agg #[.int .i64 3,.string (bk x.text),.slice an x.names.length cn,.slice al x.list.length cl]) (k:=(fun b1=>?_))
 refine B2 (E':=[⟨0,[],pt b⟩,⟨3,[],pt b1⟩]) [] [0,3] (k:=A0 ?_)
 refine A1 (A2 ?_)
 refine A4 (j:=1) [0] (k:=A6 (ch:=[]) (b:=b1) (off:=0) (v:=.int .i64 3) (hA:=At.grp 0 0 rfl rfl) (k:=?_))
 refine A9 [] [0,3,8] (k:=A0 ?_)
 refine B9 (A1 ?_)
 refine G_p [0,0] [0,3,8,48] (k:=A0 ?_)
 refine C4 kr (A1 ?_)
 refine G_p [0,0] [0,3,8,52] (k:=A0 ?_)
 refine C4 kr (A1 ?_)
 refine G_p [0,0] [0,3,8,56] (k:=A0 ?_)
 refine C4 kr (A1 ?_)
 refine G_p [0,0] [0,3,8,60] (k:=A0 ?_)
 refine F5 kr (A2 ?_)
 refine A4 (j:=2) [0,0] (k:=A6 (ch:=[]) (b:=b1) (off:=1) (v:=.string (bk x.text)) (hA:=At.grp 0 0 rfl rfl) (k:=?_))
 refine I1 rfl (H':=([(b,.cells #[p,v] 87 (0,0))]::g::[(b1,.cells #[.int .i64 3,.string (bk x.text),.slice an x.names.length cn,.slice al x.list.length cl] 28 (0,0))]::H)) (fun w h=>((h.front (j:=2) rfl).front (j:=2) rfl)) (D5 Tryz.func90 (I0 b (p) (v) g t0 (bk x.text) hp hv (by (try simp only [D3]); omega) _ _) ?_)
 rintro _ _ ⟨v2,g3,hB4,rfl⟩
 refine B2 (E':=[]) [] [] (k:=C0 ?_)
 refine C1 (H':=([(b,.cells #[pt b,v2] 87 (0,0))]::g3::H)) (fun w h=>(h.erase 2)) (B6 [] [] (k:=?_))
 exact ⟨_,_,(by rw [show t0++bk (prP x)=(t0++(bk x.text)) from (ba_ext (by rw [pr_atom hk6 (by decide)]; rfl)).symm]; exact hB4),rfl⟩
theorem jwrite4_ (x:JV) (an:Option Addr) (cn:Nat) (al:Option Addr) (cl:Nat) (cs:List Value) (S:Nat→Obj→Prop) (_:Rd S an (G4 x.names)) (_:Rd S al cs) (_:JRdL S x.list cs) (_:Nat) (hk6:x.kind=4) (b:Nat) (p v:Value) (g:Grp) (t0:ByteArray) (hp:Bld b p) (hv:P6 v g t0) (hs:t0.size+20 * wtJ x≤10000000000)  (W0:World) (H:List Grp) (_:∀ y o,S y o→At W0 H y o) (hW:F6 W0):Tri Tryz.prog 52 #[pt b,.agg #[.int .i64 4,.string (bk x.text),.slice an x.names.length cn,.slice al x.list.length cl]] W0 ([(b,.cells #[p,v] 87 (0,0))]::g::H) (fun _ H'=>∃ v' g',P6 v' g' (t0++bk (prP x))∧H'=bldG b (.pointer (some ⟨b,0,none⟩)) v'::g'::H):=by
 have hxl:=O0 x
 have hcw:=cn_wt x
 have hxt:x.text.length<wtJ x:=by rw [wt_pr x]; omega
 have hjl:=M0 x.text
 refine C5 (args:=[pt b,.agg #[.int .i64 4,.string (bk x.text),.slice an x.names.length cn,.slice al x.list.length cl]]) (n:=73) Tryz.func52 rfl rfl (Nat.le_of_ble_eq_true rfl) ?_
 refine A1 (A2 ?_)
 refine K7 (ch:=[]) (v:=.agg #[.int .i64 4,.string (bk x.text),.slice an x.names.length cn,.slice al x.list.length cl]) (k:=(fun b1=>?_))
 refine B2 (E':=[⟨0,[],pt b⟩,⟨3,[],pt b1⟩]) [] [0,3] (k:=A0 ?_)
 refine A1 (A2 ?_)
 refine A4 (j:=1) [0] (k:=A6 (ch:=[]) (b:=b1) (off:=0) (v:=.int .i64 4) (hA:=At.grp 0 0 rfl rfl) (k:=?_))
 refine A9 [] [0,3,8] (k:=A0 ?_)
 refine B9 (A1 ?_)
 refine G_p [0,0] [0,3,8,48] (k:=A0 ?_)
 refine C4 kr (A1 ?_)
 refine G_p [0,0] [0,3,8,52] (k:=A0 ?_)
 refine C4 kr (A1 ?_)
 refine G_p [0,0] [0,3,8,56] (k:=A0 ?_)
 refine C4 kr (A1 ?_)
 refine G_p [0,0] [0,3,8,60] (k:=A0 ?_)
 refine C4 kr (A1 ?_)
 refine B7 (E':=[⟨0,[],pt b⟩,⟨3,[],pt b1⟩,⟨66,[],.bool true⟩]) [0,0] [0,3,66] (k:=A0 ?_)
 refine F5 kr (A2 ?_)
 refine A4 (j:=2) [0,0] (k:=A6 (ch:=[]) (b:=b1) (off:=1) (v:=.string (bk x.text)) (hA:=At.grp 0 0 rfl rfl) (k:=?_))
 refine J1 Tryz.func91 (json_ (bk x.text) (by rw [D3]; omega) _ _ hW) (I1 rfl (H':=([(b,.cells #[p,v] 87 (0,0))]::g::[(b1,.cells #[.int .i64 4,.string (bk x.text),.slice an x.names.length cn,.slice al x.list.length cl] 28 (0,0))]::H)) (fun w h=>((h.front (j:=2) rfl).front (j:=2) rfl)) ?_)
 refine D5 Tryz.func90 (I0 b (p) (v) g t0 (bk (K0 x.text)) hp hv (by (try simp only [D3]); omega) _ _) ?_
 rintro _ _ ⟨v2,g3,hB4,rfl⟩
 refine B2 (E':=[]) [] [] (k:=C0 ?_)
 refine C1 (H':=([(b,.cells #[pt b,v2] 87 (0,0))]::g3::H)) (fun w h=>(h.erase 2)) (B6 [] [] (k:=?_))
 exact ⟨_,_,(by rw [show t0++bk (prP x)=(t0++(bk (K0 x.text))) from (ba_ext (by rw [pr_atom hk6 (by decide)]; rfl)).symm]; exact hB4),rfl⟩
theorem jwrite5_ (x:JV) (an:Option Addr) (cn:Nat) (al:Option Addr) (cl:Nat) (cs:List Value) (S:Nat→Obj→Prop) (_:Rd S an (G4 x.names)) (hrl:Rd S al cs) (hrc:JRdL S x.list cs) (m:Nat) (hk6:x.kind=5) (hrt:rtL m x.list=true) (hno:false=true→x.names.length=x.list.length) (b:Nat) (p v:Value) (g:Grp) (t0:ByteArray) (hp:Bld b p) (hv:P6 v g t0) (hs:t0.size+20 * wtJ x≤10000000000) (hrec:∀ (y:JV),szJ y<szJ x→∀ (m:Nat),rtP m y=true→∀ (an:Option Addr) (cn:Nat) (al:Option Addr) (cl:Nat) (cs:List Value),Rd S an (G4 y.names)→Rd S al cs→JRdL S y.list cs→∀ (b:Nat) (p v:Value) (g:Grp) (t:ByteArray) (_:Bld b p) (_:P6 v g t) (_:t.size+20 * wtJ y≤10000000000) (W0:World) (H:List Grp),(∀ z o,S z o→At W0 H z o)→F6 W0→Tri Tryz.prog 52 #[pt b,.agg (jvC y an cn al cl).toArray] W0 (bldG b p v::g::H) (fun _ H'=>∃ v' g',P6 v' g' (t++bk (prP y))∧H'=bldG b (.pointer (some ⟨b,0,none⟩)) v'::g'::H)) (W0:World) (H:List Grp) (hS:∀ y o,S y o→At W0 H y o) (hW:F6 W0):Tri Tryz.prog 52 #[pt b,.agg #[.int .i64 5,.string (bk x.text),.slice an x.names.length cn,.slice al x.list.length cl]] W0 ([(b,.cells #[p,v] 87 (0,0))]::g::H) (fun _ H'=>∃ v' g',P6 v' g' (t0++bk (prP x))∧H'=bldG b (.pointer (some ⟨b,0,none⟩)) v'::g'::H):=by
 have hxl:=O0 x
 have hcw:=cn_wt x
 have hxt:x.text.length<wtJ x:=by rw [wt_pr x]; omega
 have hjl:=M0 x.text
 refine C5 (args:=[pt b,.agg #[.int .i64 5,.string (bk x.text),.slice an x.names.length cn,.slice al x.list.length cl]]) (n:=73) Tryz.func52 rfl rfl (Nat.le_of_ble_eq_true rfl) ?_
 refine A1 (A2 ?_)
 refine K7 (ch:=[]) (v:=.agg #[.int .i64 5,.string (bk x.text),.slice an x.names.length cn,.slice al x.list.length cl]) (k:=(fun b1=>?_))
 refine B2 (E':=[⟨0,[],pt b⟩,⟨3,[],pt b1⟩]) [] [0,3] (k:=A0 ?_)
 refine A1 (A2 ?_)
 refine A4 (j:=1) [0] (k:=A6 (ch:=[]) (b:=b1) (off:=0) (v:=.int .i64 5) (hA:=At.grp 0 0 rfl rfl) (k:=?_))
 refine A9 [] [0,3,8] (k:=A0 ?_)
 refine B9 (A1 ?_)
 refine G_p [0,0] [0,3,8,48] (k:=A0 ?_)
 refine C4 kr (A1 ?_)
 refine G_p [0,0] [0,3,8,52] (k:=A0 ?_)
 refine C4 kr (A1 ?_)
 refine G_p [0,0] [0,3,8,56] (k:=A0 ?_)
 refine C4 kr (A1 ?_)
 refine G_p [0,0] [0,3,8,60] (k:=A0 ?_)
 refine C4 kr (A1 ?_)
 refine B7 (E':=[⟨0,[],pt b⟩,⟨3,[],pt b1⟩,⟨66,[],.bool false⟩]) [0,0] [0,3,66] (k:=A0 ?_)
 refine C4 kr (A1 ?_)
 refine G_p [0] [0,3,4] (k:=A0 ?_)
 refine A1 (A1 ?_)
 refine A2 (A4 (j:=1) [0] (k:=?_))
 refine A6 (ch:=[]) (b:=b1) (off:=0) (v:=.int .i64 5) (hA:=At.grp 0 0 rfl rfl) (k:=A9 [0] [0,3,4,11] (k:=?_))
 refine A0 (C4 kr ?_)
 refine A8 (A0 ?_)
 refine A1 (A2 ?_)
 refine A4 (j:=2) [0,0] (k:=D4 (ch:=[]) (s:=(ByteArray.mk #[91,93])) (kd:=.i64) (j:=0) (hb:=(fun _=>by decide)) (k:=?_))
 refine I1 rfl (H':=([(b,.cells #[p,v] 87 (0,0))]::g::[(b1,.cells #[.int .i64 5,.string (bk x.text),.slice an x.names.length cn,.slice al x.list.length cl] 28 (0,0))]::H)) (fun w h=>((h.front (j:=2) rfl).front (j:=2) rfl)) (D5 Tryz.func92 (J8 b (p) (v) g t0 (Nat.toUInt8 91) hp hv (by (try simp only [G8,D3,sz1,List.length_cons,List.length_nil]); omega) _ _) ?_)
 rintro _ _ ⟨v2,g3,hB4,rfl⟩
 refine A9 [] [0,3,4] (k:=A0 ?_)
 refine A1 (A1 ?_)
 refine A2 (A4 (j:=1) [0] (k:=?_))
 refine A6 (ch:=[]) (b:=b1) (off:=3) (v:=.slice al x.list.length cl) (hA:=At.grp 2 0 rfl rfl) (k:=A9 [0,0] [0,3,4,17,18,19] (k:=?_))
 refine A0 (B9 ?_)
 refine J5 (EI:=(fun ξ:Value × Value × Grp × ByteArray × Nat=>[⟨0,[],pt b⟩,⟨3,[],pt b1⟩,⟨4,[],.string (ByteArray.mk #[91,93])⟩,⟨17,[],.slice al x.list.length cl⟩,⟨18,[],.int .i64 ((x.list.length:Nat):Int)⟩,⟨19,[],.int .i64 ((ξ.2.2.2.2:Nat):Int)⟩])) (HI:=(fun ξ:Value × Value × Grp × ByteArray × Nat=>([(b,.cells #[ξ.1,ξ.2.1] 87 (0,0))]::ξ.2.2.1::[(b1,.cells #[.int .i64 5,.string (bk x.text),.slice an x.names.length cn,.slice al x.list.length cl] 28 (0,0))]::H))) (Φ:=(fun ξ:Value × Value × Grp × ByteArray × Nat=>(Bld b ξ.1)∧(P6 ξ.2.1 ξ.2.2.1 ξ.2.2.2.1)∧(ξ.2.2.2.2≤x.list.length)∧(ξ.2.2.2.1.data.toList=t0.data.toList++(91::prL false true (x.names.take ξ.2.2.2.2) (x.list.take ξ.2.2.2.2))))) (μ:=(fun ξ:Value × Value × Grp × ByteArray × Nat=>x.list.length - ξ.2.2.2.2)) (s0:=(pt b,v2,g3,(t0++⟨#[Nat.toUInt8 91]⟩),0)) [0,3,4,17,18,19] kr rfl ⟨bld1,hB4,(Nat.zero_le _),(by show (t0++_).data.toList=_; rw [G0,List.take_zero,List.take_zero,R2]; rfl)⟩ ?_
 rintro ⟨p,v,g,t,k⟩ ⟨hbp,hB,hk,hT⟩
 dsimp only at hbp hB hk hT
 have hwx:=wt_pr x
 have hts:t.size≤t0.size+1+10 * (wtN (x.names.take k)+wtL (x.list.take k)):=by
  have h1:=congrArg List.length hT
  have h2:=prL_len false true (x.names.take k) (x.list.take k)
  rw [List.length_append,List.length_cons,E0,E0] at h1
  omega
 refine A1 (G_p [0] [0,3,4,17,18,19,20] (k:=?_))
 refine A0 (A1 ?_)
 refine B0 (b:=decide (((k:Nat):Int)<((x.list.length:Nat):Int))) kr (fun hc5=>?_) (fun hc5=>?_)
 ·
  simp only [decide_eq_true_eq] at hc5
  have hlt:k<x.list.length:=by omega
  obtain ⟨y,yan,ycn,yal,ycl,ycs,hyx,hye,hyn,hyl,hyc⟩:=hrc.get hlt
  have hysz:szJ y<szJ x:=by rw [hyx]; exact szJ_lt hlt
  have hyr:rtP m y=true:=by rw [hyx]; exact rtL_get hrt hlt
  have hyw:wtJ y<wtJ x:=by rw [hyx]; exact wt_sub hlt
  have hpl:=pr_len y
  have hwl:=wtL_step hlt
  rw [← hyx] at hwl
  have hwn:=wtN_take x.names k
  refine A8 (A0 ?_)
  refine A1 (B9 ?_)
  refine A1 (A2 ?_)
  refine A4 (j:=1) [0] (k:=F2 (ch:=[]) (a:=al) (len:=x.list.length) (cap:=cl) (kd:=.i64) (j:=((k:Nat):Int)) (e:=28) (sz:=4) (S:=S) (cs:=cs) (hrd:=hrl) (hb:=(fun _=>by exact ⟨by omega,by omega,hrc.ne hlt⟩)) (k:=?_))
  refine P4 (ch:=[]) (a:=al) (q:=k * 4) (S:=S) (cs:=cs) (l:=[.int .i64 y.kind,.string (bk y.text),.slice yan y.names.length ycn,.slice yal y.list.length ycl]) (hrd:=hrl) (hS:=(fun y o h=>(At.cons (At.cons (At.cons (hS y o h)))))) (hl:=List.cons_ne_nil _ _) (hv:=(fun _=>(elt4 hye))) (k:=F0 (ch:=[]) (z:=.agg #[.int .i64 0,.string (ByteArray.mk #[]),.slice none 0 0,.slice none 0 0]) (k:=(fun b6=>?_)))
  refine A4 (j:=5) [0] (k:=D2 (ch:=[]) (b:=b6) (off:=0) (v:=.agg #[.int .i64 y.kind,.string (bk y.text),.slice yan y.names.length ycn,.slice yal y.list.length ycl]) (j:=0) ([(b6,.cells #[.int .i64 y.kind,.string (bk y.text),.slice yan y.names.length ycn,.slice yal y.list.length ycl] 28 (0,0))]::[(b,.cells #[p,v] 87 (0,0))]::g::[(b1,.cells #[.int .i64 5,.string (bk x.text),.slice an x.names.length cn,.slice al x.list.length cl] 28 (0,0))]::H) (hoff:=Nat.le_of_ble_eq_true rfl) (hfz:=(fun _ _=>C6)) (k:=?_))
  refine A9 [] [0,3,4,5,6,17,18,19] (k:=A0 ?_)
  refine A1 (A1 ?_)
  refine G_p [0,0] [0,3,4,5,6,17,18,19,25] (k:=A0 ?_)
  refine B0 (b:=decide (((k:Nat):Int) > 0)) kr (fun hc7=>?_) (fun hc7=>?_)
  ·
   simp only [decide_eq_true_eq,gt_iff_lt] at hc7
   have hk0:¬ k=0:=by omega
   refine A2 (A4 (j:=1) [0] (k:=?_))
   refine I1 rfl (H':=([(b,.cells #[p,v] 87 (0,0))]::g::[(b6,.cells #[.int .i64 y.kind,.string (bk y.text),.slice yan y.names.length ycn,.slice yal y.list.length ycl] 28 (0,0))]::[(b1,.cells #[.int .i64 5,.string (bk x.text),.slice an x.names.length cn,.slice al x.list.length cl] 28 (0,0))]::H)) (fun w h=>((h.front (j:=2) rfl).front (j:=2) rfl)) (D5 Tryz.func92 (J8 b (p) (v) g t (Nat.toUInt8 44) hbp hB (by (try simp only [G8,D3,sz1,List.length_cons,List.length_nil]); omega) _ _) ?_)
   rintro _ _ ⟨v8,g9,hB10,rfl⟩
   refine A9 [] [0,3,4,5,6,17,18,19] (k:=A0 ?_)
   refine A1 (A1 ?_)
   refine A2 (A4 (j:=1) [0] (k:=?_))
   refine A6 (ch:=[]) (b:=b1) (off:=0) (v:=.int .i64 5) (hA:=At.grp 3 0 rfl rfl) (k:=A9 [0] [0,3,4,5,6,17,18,19,30] (k:=?_))
   refine A0 (C4 kr ?_)
   refine A8 (A0 ?_)
   refine A2 (A4 (j:=1) [0] (k:=?_))
   refine E8 (ch:=[]) (b:=b6) (off:=0) (l:=[.int .i64 y.kind,.string (bk y.text),.slice yan y.names.length ycn,.slice yal y.list.length ycl]) (hA:=At.grp 2 0 rfl rfl) (k:=D5 (vs:=[pt b,.agg #[.int .i64 y.kind,.string (bk y.text),.slice yan y.names.length ycn,.slice yal y.list.length ycl]]) Tryz.func52 (hrec y hysz m hyr yan ycn yal ycl ycs hyn hyl hyc b (pt b) (v8) g9 (t++⟨#[Nat.toUInt8 44]⟩) bld1 hB10 (by (try simp only [G8,D3,List.length_cons,List.length_nil]); omega) _ _ (fun y o h=>At.cons (At.cons (hS y o h))) hW) ?_)
   rintro _ _ ⟨v11,g12,hB13,rfl⟩
   refine B2 (E':=[⟨0,[],pt b⟩,⟨3,[],pt b1⟩,⟨4,[],.string (ByteArray.mk #[91,93])⟩,⟨17,[],.slice al x.list.length cl⟩,⟨18,[],.int .i64 ((x.list.length:Nat):Int)⟩,⟨19,[],.int .i64 ((k:Nat):Int)⟩]) [] [0,3,4,17,18,19] (k:=C0 ?_)
   refine A0 ?_
   have hw14:IntKind.wrap .i64 (((k:Nat):Int)+1)=((k:Nat):Int)+1:=w64 (by omega) (by omega)
   refine A2 (B5 (E':=[⟨43,[],.int .i64 (((k:Nat):Int)+1)⟩,⟨0,[],pt b⟩,⟨3,[],pt b1⟩,⟨4,[],.string (ByteArray.mk #[91,93])⟩,⟨17,[],.slice al x.list.length cl⟩,⟨18,[],.int .i64 ((x.list.length:Nat):Int)⟩,⟨19,[],.int .i64 ((k:Nat):Int)⟩]) [0] (Eq.trans (b:=some [⟨43,[],.int .i64 (IntKind.wrap .i64 (((k:Nat):Int)+1))⟩,⟨0,[],pt b⟩,⟨3,[],pt b1⟩,⟨4,[],.string (ByteArray.mk #[91,93])⟩,⟨17,[],.slice al x.list.length cl⟩,⟨18,[],.int .i64 ((x.list.length:Nat):Int)⟩,⟨19,[],.int .i64 ((k:Nat):Int)⟩]) kr (by simp only [hw14])) (j:=1) rfl ?_)
   refine B8 (E':=[⟨43,[],.int .i64 ((k+1:Nat):Int)⟩,⟨0,[],pt b⟩,⟨3,[],pt b1⟩,⟨4,[],.string (ByteArray.mk #[91,93])⟩,⟨17,[],.slice al x.list.length cl⟩,⟨18,[],.int .i64 ((x.list.length:Nat):Int)⟩,⟨19,[],.int .i64 ((k:Nat):Int)⟩]) (by rw [show ((k:Nat):Int)+1=((k+1:Nat):Int) by omega]) (A9 [0] [0,3,4,17,18,19] (k:=?_))
   refine C1 (H':=([(b,.cells #[pt b,v11] 87 (0,0))]::g12::[(b1,.cells #[.int .i64 5,.string (bk x.text),.slice an x.names.length cn,.slice al x.list.length cl] 28 (0,0))]::H)) (fun w h=>(h.erase 2)) (F3 (s':=(pt b,v11,g12,((t++⟨#[Nat.toUInt8 44]⟩)++bk (prP y)),k+1)) [0,3,4,17,18,19] kr rfl ⟨bld1,hB13,(by dsimp only; omega),(by dsimp only; rw [pr_round false hlt hyx hno hT]; (first | rw [if_pos hk0] | rw [if_neg hk0]); simp only [G0,List.append_assoc,if_false,Bool.false_eq_true,List.nil_append] <;> rfl)⟩ (by dsimp only; omega))
  ·
   simp only [decide_eq_false_iff_not,gt_iff_lt] at hc7
   have hk0:k=0:=by omega
   refine A8 (A0 ?_)
   refine A1 (A1 ?_)
   refine A2 (A4 (j:=1) [0] (k:=?_))
   refine A6 (ch:=[]) (b:=b1) (off:=0) (v:=.int .i64 5) (hA:=At.grp 3 0 rfl rfl) (k:=A9 [0] [0,3,4,5,6,17,18,19,30] (k:=?_))
   refine A0 (C4 kr ?_)
   refine A8 (A0 ?_)
   refine A2 (A4 (j:=1) [0] (k:=?_))
   refine E8 (ch:=[]) (b:=b6) (off:=0) (l:=[.int .i64 y.kind,.string (bk y.text),.slice yan y.names.length ycn,.slice yal y.list.length ycl]) (hA:=At.grp 0 0 rfl rfl) (k:=I1 rfl (H':=([(b,.cells #[p,v] 87 (0,0))]::g::[(b6,.cells #[.int .i64 y.kind,.string (bk y.text),.slice yan y.names.length ycn,.slice yal y.list.length ycl] 28 (0,0))]::[(b1,.cells #[.int .i64 5,.string (bk x.text),.slice an x.names.length cn,.slice al x.list.length cl] 28 (0,0))]::H)) (fun w h=>((h.front (j:=2) rfl).front (j:=2) rfl)) ?_)
   refine D5 (vs:=[pt b,.agg #[.int .i64 y.kind,.string (bk y.text),.slice yan y.names.length ycn,.slice yal y.list.length ycl]]) Tryz.func52 (hrec y hysz m hyr yan ycn yal ycl ycs hyn hyl hyc b (p) (v) g t hbp hB (by (try simp only [G8,D3,sz1,List.length_cons,List.length_nil]); omega) _ _ (fun y o h=>At.cons (At.cons (hS y o h))) hW) ?_
   rintro _ _ ⟨v15,g16,hB17,rfl⟩
   refine A9 [] [0,3,4,17,18,19] (k:=C0 ?_)
   refine A0 ?_
   have hw18:IntKind.wrap .i64 (((k:Nat):Int)+1)=((k:Nat):Int)+1:=w64 (by omega) (by omega)
   refine A2 (B5 (E':=[⟨43,[],.int .i64 (((k:Nat):Int)+1)⟩,⟨0,[],pt b⟩,⟨3,[],pt b1⟩,⟨4,[],.string (ByteArray.mk #[91,93])⟩,⟨17,[],.slice al x.list.length cl⟩,⟨18,[],.int .i64 ((x.list.length:Nat):Int)⟩,⟨19,[],.int .i64 ((k:Nat):Int)⟩]) [0] (Eq.trans (b:=some [⟨43,[],.int .i64 (IntKind.wrap .i64 (((k:Nat):Int)+1))⟩,⟨0,[],pt b⟩,⟨3,[],pt b1⟩,⟨4,[],.string (ByteArray.mk #[91,93])⟩,⟨17,[],.slice al x.list.length cl⟩,⟨18,[],.int .i64 ((x.list.length:Nat):Int)⟩,⟨19,[],.int .i64 ((k:Nat):Int)⟩]) kr (by simp only [hw18])) (j:=1) rfl ?_)
   refine B8 (E':=[⟨43,[],.int .i64 ((k+1:Nat):Int)⟩,⟨0,[],pt b⟩,⟨3,[],pt b1⟩,⟨4,[],.string (ByteArray.mk #[91,93])⟩,⟨17,[],.slice al x.list.length cl⟩,⟨18,[],.int .i64 ((x.list.length:Nat):Int)⟩,⟨19,[],.int .i64 ((k:Nat):Int)⟩]) (by rw [show ((k:Nat):Int)+1=((k+1:Nat):Int) by omega]) (B2 (E':=[⟨0,[],pt b⟩,⟨3,[],pt b1⟩,⟨4,[],.string (ByteArray.mk #[91,93])⟩,⟨17,[],.slice al x.list.length cl⟩,⟨18,[],.int .i64 ((x.list.length:Nat):Int)⟩,⟨19,[],.int .i64 ((k+1:Nat):Int)⟩]) [0] [0,3,4,17,18,19] (k:=?_))
   refine C1 (H':=([(b,.cells #[pt b,v15] 87 (0,0))]::g16::[(b1,.cells #[.int .i64 5,.string (bk x.text),.slice an x.names.length cn,.slice al x.list.length cl] 28 (0,0))]::H)) (fun w h=>(h.erase 2)) (F3 (s':=(pt b,v15,g16,(t++bk (prP y)),k+1)) [0,3,4,17,18,19] kr rfl ⟨bld1,hB17,(by dsimp only; omega),(by dsimp only; rw [pr_round false hlt hyx hno hT]; (first | rw [if_pos hk0] | rw [if_neg hk0]); simp only [G0,if_false,Bool.false_eq_true,List.nil_append] <;> rfl)⟩ (by dsimp only; omega))
 ·
  simp only [decide_eq_false_iff_not] at hc5
  have hwl:=wtL_take x.list k
  have hwn:=wtN_take x.names k
  have ha1:x.list.take k=x.list:=List.take_of_length_le (by omega)
  refine H5 (B1 ?_)
  refine B1 (C7 ?_)
  refine A0 (A2 ?_)
  refine A4 (j:=2) [0,0] (k:=D4 (ch:=[]) (s:=(ByteArray.mk #[91,93])) (kd:=.i64) (j:=1) (hb:=(fun _=>by decide)) (k:=?_))
  refine D5 Tryz.func92 (J8 b (p) (v) g t (Nat.toUInt8 93) hbp hB (by (try simp only [G8,D3,sz1,List.length_cons,List.length_nil]); omega) _ _) ?_
  rintro _ _ ⟨v19,g20,hB21,rfl⟩
  refine B2 (E':=[]) [] [] (k:=C0 ?_)
  refine C1 (H':=([(b,.cells #[pt b,v19] 87 (0,0))]::g20::H)) (fun w h=>(h.erase 2)) (B6 [] [] (k:=?_))
  exact ⟨_,_,(by rw [show t0++bk (prP x)=(t++⟨#[Nat.toUInt8 93]⟩) from (ba_ext (by rw [G0,hT,ha1,prL_any,bko,pr_many false hk6]; rw [prL_any true x.names x.list]; simp only [List.append_assoc,List.cons_append]; rfl)).symm]; exact hB21),rfl⟩
theorem jwrite6_ (x:JV) (an:Option Addr) (cn:Nat) (al:Option Addr) (cl:Nat) (cs:List Value) (S:Nat→Obj→Prop) (hrn:Rd S an (G4 x.names)) (hrl:Rd S al cs) (hrc:JRdL S x.list cs) (m:Nat) (hk6:x.kind=6) (hrt:rtL m x.list=true) (hno:true=true→x.names.length=x.list.length) (b:Nat) (p v:Value) (g:Grp) (t0:ByteArray) (hp:Bld b p) (hv:P6 v g t0) (hs:t0.size+20 * wtJ x≤10000000000) (hrec:∀ (y:JV),szJ y<szJ x→∀ (m:Nat),rtP m y=true→∀ (an:Option Addr) (cn:Nat) (al:Option Addr) (cl:Nat) (cs:List Value),Rd S an (G4 y.names)→Rd S al cs→JRdL S y.list cs→∀ (b:Nat) (p v:Value) (g:Grp) (t:ByteArray) (_:Bld b p) (_:P6 v g t) (_:t.size+20 * wtJ y≤10000000000) (W0:World) (H:List Grp),(∀ z o,S z o→At W0 H z o)→F6 W0→Tri Tryz.prog 52 #[pt b,.agg (jvC y an cn al cl).toArray] W0 (bldG b p v::g::H) (fun _ H'=>∃ v' g',P6 v' g' (t++bk (prP y))∧H'=bldG b (.pointer (some ⟨b,0,none⟩)) v'::g'::H)) (W0:World) (H:List Grp) (hS:∀ y o,S y o→At W0 H y o) (hW:F6 W0):Tri Tryz.prog 52 #[pt b,.agg #[.int .i64 6,.string (bk x.text),.slice an x.names.length cn,.slice al x.list.length cl]] W0 ([(b,.cells #[p,v] 87 (0,0))]::g::H) (fun _ H'=>∃ v' g',P6 v' g' (t0++bk (prP x))∧H'=bldG b (.pointer (some ⟨b,0,none⟩)) v'::g'::H):=by
 have hxl:=O0 x
 have hcw:=cn_wt x
 have hxt:x.text.length<wtJ x:=by rw [wt_pr x]; omega
 have hjl:=M0 x.text
 refine C5 (args:=[pt b,.agg #[.int .i64 6,.string (bk x.text),.slice an x.names.length cn,.slice al x.list.length cl]]) (n:=73) Tryz.func52 rfl rfl (Nat.le_of_ble_eq_true rfl) ?_
 refine A1 (A2 ?_)
 refine K7 (ch:=[]) (v:=.agg #[.int .i64 6,.string (bk x.text),.slice an x.names.length cn,.slice al x.list.length cl]) (k:=(fun b1=>?_))
 refine B2 (E':=[⟨0,[],pt b⟩,⟨3,[],pt b1⟩]) [] [0,3] (k:=A0 ?_)
 refine A1 (A2 ?_)
 refine A4 (j:=1) [0] (k:=A6 (ch:=[]) (b:=b1) (off:=0) (v:=.int .i64 6) (hA:=At.grp 0 0 rfl rfl) (k:=?_))
 refine A9 [] [0,3,8] (k:=A0 ?_)
 refine B9 (A1 ?_)
 refine G_p [0,0] [0,3,8,48] (k:=A0 ?_)
 refine C4 kr (A1 ?_)
 refine G_p [0,0] [0,3,8,52] (k:=A0 ?_)
 refine C4 kr (A1 ?_)
 refine G_p [0,0] [0,3,8,56] (k:=A0 ?_)
 refine C4 kr (A1 ?_)
 refine G_p [0,0] [0,3,8,60] (k:=A0 ?_)
 refine C4 kr (A1 ?_)
 refine B7 (E':=[⟨0,[],pt b⟩,⟨3,[],pt b1⟩,⟨66,[],.bool false⟩]) [0,0] [0,3,66] (k:=A0 ?_)
 refine C4 kr (A1 ?_)
 refine G_p [0] [0,3,4] (k:=A0 ?_)
 refine A1 (A1 ?_)
 refine A2 (A4 (j:=1) [0] (k:=?_))
 refine A6 (ch:=[]) (b:=b1) (off:=0) (v:=.int .i64 6) (hA:=At.grp 0 0 rfl rfl) (k:=A9 [0] [0,3,4,11] (k:=?_))
 refine A0 (F5 kr ?_)
 refine G_p [0] [0,3,4] (k:=A0 ?_)
 refine A1 (A2 ?_)
 refine A4 (j:=2) [0,0] (k:=D4 (ch:=[]) (s:=(ByteArray.mk #[123,125])) (kd:=.i64) (j:=0) (hb:=(fun _=>by decide)) (k:=?_))
 refine I1 rfl (H':=([(b,.cells #[p,v] 87 (0,0))]::g::[(b1,.cells #[.int .i64 6,.string (bk x.text),.slice an x.names.length cn,.slice al x.list.length cl] 28 (0,0))]::H)) (fun w h=>((h.front (j:=2) rfl).front (j:=2) rfl)) (D5 Tryz.func92 (J8 b (p) (v) g t0 (Nat.toUInt8 123) hp hv (by (try simp only [G8,D3,sz1,List.length_cons,List.length_nil]); omega) _ _) ?_)
 rintro _ _ ⟨v2,g3,hB4,rfl⟩
 refine A9 [] [0,3,4] (k:=A0 ?_)
 refine A1 (A1 ?_)
 refine A2 (A4 (j:=1) [0] (k:=?_))
 refine A6 (ch:=[]) (b:=b1) (off:=3) (v:=.slice al x.list.length cl) (hA:=At.grp 2 0 rfl rfl) (k:=A9 [0,0] [0,3,4,17,18,19] (k:=?_))
 refine A0 (B9 ?_)
 refine J5 (EI:=(fun ξ:Value × Value × Grp × ByteArray × Nat=>[⟨0,[],pt b⟩,⟨3,[],pt b1⟩,⟨4,[],.string (ByteArray.mk #[123,125])⟩,⟨17,[],.slice al x.list.length cl⟩,⟨18,[],.int .i64 ((x.list.length:Nat):Int)⟩,⟨19,[],.int .i64 ((ξ.2.2.2.2:Nat):Int)⟩])) (HI:=(fun ξ:Value × Value × Grp × ByteArray × Nat=>([(b,.cells #[ξ.1,ξ.2.1] 87 (0,0))]::ξ.2.2.1::[(b1,.cells #[.int .i64 6,.string (bk x.text),.slice an x.names.length cn,.slice al x.list.length cl] 28 (0,0))]::H))) (Φ:=(fun ξ:Value × Value × Grp × ByteArray × Nat=>(Bld b ξ.1)∧(P6 ξ.2.1 ξ.2.2.1 ξ.2.2.2.1)∧(ξ.2.2.2.2≤x.list.length)∧(ξ.2.2.2.1.data.toList=t0.data.toList++(123::prL true true (x.names.take ξ.2.2.2.2) (x.list.take ξ.2.2.2.2))))) (μ:=(fun ξ:Value × Value × Grp × ByteArray × Nat=>x.list.length - ξ.2.2.2.2)) (s0:=(pt b,v2,g3,(t0++⟨#[Nat.toUInt8 123]⟩),0)) [0,3,4,17,18,19] kr rfl ⟨bld1,hB4,(Nat.zero_le _),(by show (t0++_).data.toList=_; rw [G0,List.take_zero,List.take_zero,R2]; rfl)⟩ ?_
 rintro ⟨p,v,g,t,k⟩ ⟨hbp,hB,hk,hT⟩
 dsimp only at hbp hB hk hT
 have hwx:=wt_pr x
 have hts:t.size≤t0.size+1+10 * (wtN (x.names.take k)+wtL (x.list.take k)):=by
  have h1:=congrArg List.length hT
  have h2:=prL_len true true (x.names.take k) (x.list.take k)
  rw [List.length_append,List.length_cons,E0,E0] at h1
  omega
 refine A1 (G_p [0] [0,3,4,17,18,19,20] (k:=?_))
 refine A0 (A1 ?_)
 refine B0 (b:=decide (((k:Nat):Int)<((x.list.length:Nat):Int))) kr (fun hc5=>?_) (fun hc5=>?_)
 ·
  simp only [decide_eq_true_eq] at hc5
  have hlt:k<x.list.length:=by omega
  obtain ⟨y,yan,ycn,yal,ycl,ycs,hyx,hye,hyn,hyl,hyc⟩:=hrc.get hlt
  have hysz:szJ y<szJ x:=by rw [hyx]; exact szJ_lt hlt
  have hyr:rtP m y=true:=by rw [hyx]; exact rtL_get hrt hlt
  have hyw:wtJ y<wtJ x:=by rw [hyx]; exact wt_sub hlt
  have hpl:=pr_len y
  have hwl:=wtL_step hlt
  rw [← hyx] at hwl
  have hwn:=wtN_take x.names k
  have hnl:k<x.names.length:=by have:=hno rfl; omega
  obtain ⟨nm,hnm⟩:∃ nm,nm=x.names[k]'hnl:=⟨_,rfl⟩
  have hnw:nm.length<wtJ x:=by rw [hnm]; exact wt_name hnl
  have hjn:=M0 nm
  have hwn2:=wtN_step hnl
  rw [← hnm] at hwn2
  refine A8 (A0 ?_)
  refine A1 (B9 ?_)
  refine A1 (A2 ?_)
  refine A4 (j:=1) [0] (k:=F2 (ch:=[]) (a:=al) (len:=x.list.length) (cap:=cl) (kd:=.i64) (j:=((k:Nat):Int)) (e:=28) (sz:=4) (S:=S) (cs:=cs) (hrd:=hrl) (hb:=(fun _=>by exact ⟨by omega,by omega,hrc.ne hlt⟩)) (k:=?_))
  refine P4 (ch:=[]) (a:=al) (q:=k * 4) (S:=S) (cs:=cs) (l:=[.int .i64 y.kind,.string (bk y.text),.slice yan y.names.length ycn,.slice yal y.list.length ycl]) (hrd:=hrl) (hS:=(fun y o h=>(At.cons (At.cons (At.cons (hS y o h)))))) (hl:=List.cons_ne_nil _ _) (hv:=(fun _=>(elt4 hye))) (k:=F0 (ch:=[]) (z:=.agg #[.int .i64 0,.string (ByteArray.mk #[]),.slice none 0 0,.slice none 0 0]) (k:=(fun b6=>?_)))
  refine A4 (j:=5) [0] (k:=D2 (ch:=[]) (b:=b6) (off:=0) (v:=.agg #[.int .i64 y.kind,.string (bk y.text),.slice yan y.names.length ycn,.slice yal y.list.length ycl]) (j:=0) ([(b6,.cells #[.int .i64 y.kind,.string (bk y.text),.slice yan y.names.length ycn,.slice yal y.list.length ycl] 28 (0,0))]::[(b,.cells #[p,v] 87 (0,0))]::g::[(b1,.cells #[.int .i64 6,.string (bk x.text),.slice an x.names.length cn,.slice al x.list.length cl] 28 (0,0))]::H) (hoff:=Nat.le_of_ble_eq_true rfl) (hfz:=(fun _ _=>C6)) (k:=?_))
  refine A9 [] [0,3,4,5,6,17,18,19] (k:=A0 ?_)
  refine A1 (A1 ?_)
  refine G_p [0,0] [0,3,4,5,6,17,18,19,25] (k:=A0 ?_)
  refine B0 (b:=decide (((k:Nat):Int) > 0)) kr (fun hc7=>?_) (fun hc7=>?_)
  ·
   simp only [decide_eq_true_eq,gt_iff_lt] at hc7
   have hk0:¬ k=0:=by omega
   refine A2 (A4 (j:=1) [0] (k:=?_))
   refine I1 rfl (H':=([(b,.cells #[p,v] 87 (0,0))]::g::[(b6,.cells #[.int .i64 y.kind,.string (bk y.text),.slice yan y.names.length ycn,.slice yal y.list.length ycl] 28 (0,0))]::[(b1,.cells #[.int .i64 6,.string (bk x.text),.slice an x.names.length cn,.slice al x.list.length cl] 28 (0,0))]::H)) (fun w h=>((h.front (j:=2) rfl).front (j:=2) rfl)) (D5 Tryz.func92 (J8 b (p) (v) g t (Nat.toUInt8 44) hbp hB (by (try simp only [G8,D3,sz1,List.length_cons,List.length_nil]); omega) _ _) ?_)
   rintro _ _ ⟨v8,g9,hB10,rfl⟩
   refine A9 [] [0,3,4,5,6,17,18,19] (k:=A0 ?_)
   refine A1 (A1 ?_)
   refine A2 (A4 (j:=1) [0] (k:=?_))
   refine A6 (ch:=[]) (b:=b1) (off:=0) (v:=.int .i64 6) (hA:=At.grp 3 0 rfl rfl) (k:=A9 [0] [0,3,4,5,6,17,18,19,30] (k:=?_))
   refine A0 (F5 kr ?_)
   refine A2 (A4 (j:=2) [0,0] (k:=?_))
   refine A6 (ch:=[]) (b:=b1) (off:=2) (v:=.slice an x.names.length cn) (hA:=At.grp 3 0 rfl rfl) (k:=A4 (j:=4) [0] (k:=?_))
   refine F2 (ch:=[]) (a:=an) (len:=x.names.length) (cap:=cn) (kd:=.i64) (j:=((k:Nat):Int)) (e:=9) (sz:=1) (S:=S) (cs:=(G4 x.names)) (hrd:=hrn) (hb:=(fun _=>by exact ⟨by omega,by omega,strV_ne hnl⟩)) (k:=M4 (ch:=[]) (a:=an) (q:=k * 1) (S:=S) (cs:=(G4 x.names)) (v:=.string (bk nm)) (hrd:=hrn) (hS:=(fun y o h=>(At.cons (At.cons (At.cons (At.cons (hS y o h))))))) (hv:=(fun _=>(strV_elt hnl hnm))) (k:=?_))
   refine J1 Tryz.func91 (json_ (bk nm) (by rw [D3]; omega) _ _ hW) (I9 (ch:=[]) (s:=(bk (K0 nm))) (u:=(ByteArray.mk #[58])) (hb:=(by intro _; rw [D3]; show _+1≤_; omega)) (k:=?_))
   refine D5 Tryz.func90 (I0 b (pt b) (v8) g9 (t++⟨#[Nat.toUInt8 44]⟩) ((bk (K0 nm))++(ByteArray.mk #[58])) bld1 hB10 (by (try simp only [G8,D3,List.length_cons,List.length_nil]); omega) _ _) ?_
   rintro _ _ ⟨v11,g12,hB13,rfl⟩
   refine B2 (E':=[⟨0,[],pt b⟩,⟨3,[],pt b1⟩,⟨4,[],.string (ByteArray.mk #[123,125])⟩,⟨6,[],pt b6⟩,⟨17,[],.slice al x.list.length cl⟩,⟨18,[],.int .i64 ((x.list.length:Nat):Int)⟩,⟨19,[],.int .i64 ((k:Nat):Int)⟩]) [] [0,3,4,6,17,18,19] (k:=A0 ?_)
   refine A2 (A4 (j:=1) [0] (k:=?_))
   refine E8 (ch:=[]) (b:=b6) (off:=0) (l:=[.int .i64 y.kind,.string (bk y.text),.slice yan y.names.length ycn,.slice yal y.list.length ycl]) (hA:=At.grp 2 0 rfl rfl) (k:=D5 (vs:=[pt b,.agg #[.int .i64 y.kind,.string (bk y.text),.slice yan y.names.length ycn,.slice yal y.list.length ycl]]) Tryz.func52 (hrec y hysz m hyr yan ycn yal ycl ycs hyn hyl hyc b (pt b) (v11) g12 ((t++⟨#[Nat.toUInt8 44]⟩)++((bk (K0 nm))++(ByteArray.mk #[58]))) bld1 hB13 (by (try simp only [G8,D3,List.length_cons,List.length_nil]); omega) _ _ (fun y o h=>At.cons (At.cons (hS y o h))) hW) ?_)
   rintro _ _ ⟨v14,g15,hB16,rfl⟩
   refine A9 [] [0,3,4,17,18,19] (k:=C0 ?_)
   refine A0 ?_
   have hw17:IntKind.wrap .i64 (((k:Nat):Int)+1)=((k:Nat):Int)+1:=w64 (by omega) (by omega)
   refine A2 (B5 (E':=[⟨43,[],.int .i64 (((k:Nat):Int)+1)⟩,⟨0,[],pt b⟩,⟨3,[],pt b1⟩,⟨4,[],.string (ByteArray.mk #[123,125])⟩,⟨17,[],.slice al x.list.length cl⟩,⟨18,[],.int .i64 ((x.list.length:Nat):Int)⟩,⟨19,[],.int .i64 ((k:Nat):Int)⟩]) [0] (Eq.trans (b:=some [⟨43,[],.int .i64 (IntKind.wrap .i64 (((k:Nat):Int)+1))⟩,⟨0,[],pt b⟩,⟨3,[],pt b1⟩,⟨4,[],.string (ByteArray.mk #[123,125])⟩,⟨17,[],.slice al x.list.length cl⟩,⟨18,[],.int .i64 ((x.list.length:Nat):Int)⟩,⟨19,[],.int .i64 ((k:Nat):Int)⟩]) kr (by simp only [hw17])) (j:=1) rfl ?_)
   refine B8 (E':=[⟨43,[],.int .i64 ((k+1:Nat):Int)⟩,⟨0,[],pt b⟩,⟨3,[],pt b1⟩,⟨4,[],.string (ByteArray.mk #[123,125])⟩,⟨17,[],.slice al x.list.length cl⟩,⟨18,[],.int .i64 ((x.list.length:Nat):Int)⟩,⟨19,[],.int .i64 ((k:Nat):Int)⟩]) (by rw [show ((k:Nat):Int)+1=((k+1:Nat):Int) by omega]) (A9 [0] [0,3,4,17,18,19] (k:=?_))
   refine C1 (H':=([(b,.cells #[pt b,v14] 87 (0,0))]::g15::[(b1,.cells #[.int .i64 6,.string (bk x.text),.slice an x.names.length cn,.slice al x.list.length cl] 28 (0,0))]::H)) (fun w h=>(h.erase 2)) (F3 (s':=(pt b,v14,g15,(((t++⟨#[Nat.toUInt8 44]⟩)++((bk (K0 nm))++(ByteArray.mk #[58])))++bk (prP y)),k+1)) [0,3,4,17,18,19] kr rfl ⟨bld1,hB16,(by dsimp only; omega),(by dsimp only; rw [pr_round true hlt hyx hno hT]; (first | rw [if_pos hk0] | rw [if_neg hk0]); rw [name_get hnl,← hnm]; simp only [G0,List.append_assoc,if_true] <;> rfl)⟩ (by dsimp only; omega))
  ·
   simp only [decide_eq_false_iff_not,gt_iff_lt] at hc7
   have hk0:k=0:=by omega
   refine A8 (A0 ?_)
   refine A1 (A1 ?_)
   refine A2 (A4 (j:=1) [0] (k:=?_))
   refine A6 (ch:=[]) (b:=b1) (off:=0) (v:=.int .i64 6) (hA:=At.grp 3 0 rfl rfl) (k:=A9 [0] [0,3,4,5,6,17,18,19,30] (k:=?_))
   refine A0 (F5 kr ?_)
   refine A2 (A4 (j:=2) [0,0] (k:=?_))
   refine A6 (ch:=[]) (b:=b1) (off:=2) (v:=.slice an x.names.length cn) (hA:=At.grp 3 0 rfl rfl) (k:=A4 (j:=4) [0] (k:=?_))
   refine F2 (ch:=[]) (a:=an) (len:=x.names.length) (cap:=cn) (kd:=.i64) (j:=((k:Nat):Int)) (e:=9) (sz:=1) (S:=S) (cs:=(G4 x.names)) (hrd:=hrn) (hb:=(fun _=>by exact ⟨by omega,by omega,strV_ne hnl⟩)) (k:=M4 (ch:=[]) (a:=an) (q:=k * 1) (S:=S) (cs:=(G4 x.names)) (v:=.string (bk nm)) (hrd:=hrn) (hS:=(fun y o h=>(At.cons (At.cons (At.cons (At.cons (hS y o h))))))) (hv:=(fun _=>(strV_elt hnl hnm))) (k:=?_))
   refine J1 Tryz.func91 (json_ (bk nm) (by rw [D3]; omega) _ _ hW) (I9 (ch:=[]) (s:=(bk (K0 nm))) (u:=(ByteArray.mk #[58])) (hb:=(by intro _; rw [D3]; show _+1≤_; omega)) (k:=?_))
   refine I1 rfl (H':=([(b,.cells #[p,v] 87 (0,0))]::g::[(b6,.cells #[.int .i64 y.kind,.string (bk y.text),.slice yan y.names.length ycn,.slice yal y.list.length ycl] 28 (0,0))]::[(b1,.cells #[.int .i64 6,.string (bk x.text),.slice an x.names.length cn,.slice al x.list.length cl] 28 (0,0))]::H)) (fun w h=>((h.front (j:=2) rfl).front (j:=2) rfl)) (D5 Tryz.func90 (I0 b (p) (v) g t ((bk (K0 nm))++(ByteArray.mk #[58])) hbp hB (by (try simp only [G8,D3,List.length_cons,List.length_nil]); omega) _ _) ?_)
   rintro _ _ ⟨v18,g19,hB20,rfl⟩
   refine A9 [] [0,3,4,6,17,18,19] (k:=A0 ?_)
   refine A2 (A4 (j:=1) [0] (k:=?_))
   refine E8 (ch:=[]) (b:=b6) (off:=0) (l:=[.int .i64 y.kind,.string (bk y.text),.slice yan y.names.length ycn,.slice yal y.list.length ycl]) (hA:=At.grp 2 0 rfl rfl) (k:=D5 (vs:=[pt b,.agg #[.int .i64 y.kind,.string (bk y.text),.slice yan y.names.length ycn,.slice yal y.list.length ycl]]) Tryz.func52 (hrec y hysz m hyr yan ycn yal ycl ycs hyn hyl hyc b (pt b) (v18) g19 (t++((bk (K0 nm))++(ByteArray.mk #[58]))) bld1 hB20 (by (try simp only [G8,D3,List.length_cons,List.length_nil]); omega) _ _ (fun y o h=>At.cons (At.cons (hS y o h))) hW) ?_)
   rintro _ _ ⟨v21,g22,hB23,rfl⟩
   refine B2 (E':=[⟨0,[],pt b⟩,⟨3,[],pt b1⟩,⟨4,[],.string (ByteArray.mk #[123,125])⟩,⟨17,[],.slice al x.list.length cl⟩,⟨18,[],.int .i64 ((x.list.length:Nat):Int)⟩,⟨19,[],.int .i64 ((k:Nat):Int)⟩]) [] [0,3,4,17,18,19] (k:=C0 ?_)
   refine A0 ?_
   have hw24:IntKind.wrap .i64 (((k:Nat):Int)+1)=((k:Nat):Int)+1:=w64 (by omega) (by omega)
   refine A2 (B5 (E':=[⟨43,[],.int .i64 (((k:Nat):Int)+1)⟩,⟨0,[],pt b⟩,⟨3,[],pt b1⟩,⟨4,[],.string (ByteArray.mk #[123,125])⟩,⟨17,[],.slice al x.list.length cl⟩,⟨18,[],.int .i64 ((x.list.length:Nat):Int)⟩,⟨19,[],.int .i64 ((k:Nat):Int)⟩]) [0] (Eq.trans (b:=some [⟨43,[],.int .i64 (IntKind.wrap .i64 (((k:Nat):Int)+1))⟩,⟨0,[],pt b⟩,⟨3,[],pt b1⟩,⟨4,[],.string (ByteArray.mk #[123,125])⟩,⟨17,[],.slice al x.list.length cl⟩,⟨18,[],.int .i64 ((x.list.length:Nat):Int)⟩,⟨19,[],.int .i64 ((k:Nat):Int)⟩]) kr (by simp only [hw24])) (j:=1) rfl ?_)
   refine B8 (E':=[⟨43,[],.int .i64 ((k+1:Nat):Int)⟩,⟨0,[],pt b⟩,⟨3,[],pt b1⟩,⟨4,[],.string (ByteArray.mk #[123,125])⟩,⟨17,[],.slice al x.list.length cl⟩,⟨18,[],.int .i64 ((x.list.length:Nat):Int)⟩,⟨19,[],.int .i64 ((k:Nat):Int)⟩]) (by rw [show ((k:Nat):Int)+1=((k+1:Nat):Int) by omega]) (A9 [0] [0,3,4,17,18,19] (k:=?_))
   refine C1 (H':=([(b,.cells #[pt b,v21] 87 (0,0))]::g22::[(b1,.cells #[.int .i64 6,.string (bk x.text),.slice an x.names.length cn,.slice al x.list.length cl] 28 (0,0))]::H)) (fun w h=>(h.erase 2)) (F3 (s':=(pt b,v21,g22,((t++((bk (K0 nm))++(ByteArray.mk #[58])))++bk (prP y)),k+1)) [0,3,4,17,18,19] kr rfl ⟨bld1,hB23,(by dsimp only; omega),(by dsimp only; rw [pr_round true hlt hyx hno hT]; (first | rw [if_pos hk0] | rw [if_neg hk0]); rw [name_get hnl,← hnm]; simp only [G0,List.append_assoc,if_true,List.nil_append] <;> rfl)⟩ (by dsimp only; omega))
 ·
  simp only [decide_eq_false_iff_not] at hc5
  have hwl:=wtL_take x.list k
  have hwn:=wtN_take x.names k
  have ha1:x.list.take k=x.list:=List.take_of_length_le (by omega)
  have ha2:x.names.take k=x.names:=List.take_of_length_le (by have:=hno rfl; omega)
  refine H5 (B1 ?_)
  refine B1 (C7 ?_)
  refine A0 (A2 ?_)
  refine A4 (j:=2) [0,0] (k:=D4 (ch:=[]) (s:=(ByteArray.mk #[123,125])) (kd:=.i64) (j:=1) (hb:=(fun _=>by decide)) (k:=?_))
  refine D5 Tryz.func92 (J8 b (p) (v) g t (Nat.toUInt8 125) hbp hB (by (try simp only [G8,D3,sz1,List.length_cons,List.length_nil]); omega) _ _) ?_
  rintro _ _ ⟨v25,g26,hB27,rfl⟩
  refine B2 (E':=[]) [] [] (k:=C0 ?_)
  refine C1 (H':=([(b,.cells #[pt b,v25] 87 (0,0))]::g26::H)) (fun w h=>(h.erase 2)) (B6 [] [] (k:=?_))
  exact ⟨_,_,(by rw [show t0++bk (prP x)=(t++⟨#[Nat.toUInt8 125]⟩) from (ba_ext (by rw [G0,hT,ha1,ha2,bko,pr_many true hk6]; simp only [List.append_assoc,List.cons_append]; rfl)).symm]; exact hB27),rfl⟩
end Go.Proofs.YtppgfiklmfoaeaaGreatDoor
namespace Go.Proofs.YtppgfiklmfoaeaaGreatDoor
open Go.Sw Go.Sha Go.Esc Go.RowKit Go.Json
theorem R4 {x:JV} {k:Int} (h:x.kind=k) (an:Option Addr) (cn:Nat) (al:Option Addr) (cl:Nat):jvC x an cn al cl=[.int .i64 k,.string (bk x.text),.slice an x.names.length cn,.slice al x.list.length cl]:=by unfold jvC; rw [h]
theorem jwrite_:∀ (n:Nat) (x:JV),szJ x≤n→∀ (m:Nat),rtP m x=true→∀ (an:Option Addr) (cn:Nat) (al:Option Addr) (cl:Nat) (cs:List Value) (S:Nat→Obj→Prop),Rd S an (G4 x.names)→Rd S al cs→JRdL S x.list cs→∀ (b:Nat) (p v:Value) (g:Grp) (t:ByteArray) (_:Bld b p) (_:P6 v g t) (_:t.size+20 * wtJ x≤10000000000) (W0:World) (H:List Grp),(∀ z o,S z o→At W0 H z o)→F6 W0→Tri Tryz.prog 52 #[pt b,.agg (jvC x an cn al cl).toArray] W0 (bldG b p v::g::H) (fun _ H'=>∃ v' g',P6 v' g' (t++bk (prP x))∧H'=bldG b (.pointer (some ⟨b,0,none⟩)) v'::g'::H)
  | 0,x,h,_,_,_,_,_,_,_,_,_,_,_,_,_,_,_,_,_,_,_,_,_,_,_=>absurd (szJ_pos x) (by omega)
  | n+1,x,hz,m,hr,an,cn,al,cl,cs,S,h1,h2,h3,b,p,v,g,t,hp,hv,hs,W0,H,hS,hW=>by
    obtain ⟨hB,hn6,hm⟩:=rt_kind hr
    have hr0:=hB.rng
    have hrec:=fun (y:JV) (hy:szJ y<szJ x) (m:Nat) (hm:rtP m y=true) (an:Option Addr) (cn:Nat) (al:Option Addr) (cl:Nat) (cs:List Value) (h1:Rd S an (G4 y.names)) (h2:Rd S al cs) (h3:JRdL S y.list cs)=>jwrite_ n y (by omega) m hm an cn al cl cs S h1 h2 h3
    rcases (show x.kind=0∨x.kind=1∨x.kind=2∨x.kind=3∨x.kind=4∨x.kind=5∨x.kind=6 by omega) with h | h | h | h | h | h | h
    · rw [R4 h an cn al cl]; exact jwrite0_ x an cn al cl cs S h1 h2 h3 m h b p v g t hp hv hs W0 H hS hW
    · rw [R4 h an cn al cl]; exact jwrite1_ x an cn al cl cs S h1 h2 h3 m h b p v g t hp hv hs W0 H hS hW
    · rw [R4 h an cn al cl]; exact jwrite2_ x an cn al cl cs S h1 h2 h3 m h b p v g t hp hv hs W0 H hS hW
    · rw [R4 h an cn al cl]; exact jwrite3_ x an cn al cl cs S h1 h2 h3 m h b p v g t hp hv hs W0 H hS hW
    · rw [R4 h an cn al cl]; exact jwrite4_ x an cn al cl cs S h1 h2 h3 m h b p v g t hp hv hs W0 H hS hW
    · obtain ⟨k,_,hk⟩:=hm (.inl h)
      rw [R4 h an cn al cl]; exact jwrite5_ x an cn al cl cs S h1 h2 h3 k h hk (fun h=>by cases h) b p v g t hp hv hs hrec W0 H hS hW
    · obtain ⟨k,_,hk⟩:=hm (.inr h)
      rw [R4 h an cn al cl]; exact jwrite6_ x an cn al cl cs S h1 h2 h3 k h hk (fun _=>hn6 h) b p v g t hp hv hs hrec W0 H hS hW
theorem jprint_ (x:JV) (an:Option Addr) (cn:Nat) (al:Option Addr) (cl:Nat) (cs:List Value) (S:Nat→Obj→Prop) (hrn:Rd S an (G4 x.names)) (hrl:Rd S al cs) (hrc:JRdL S x.list cs) (hw:wtJ x≤100000000) (W0:World) (H:List Grp) (hS:∀ y o,S y o→At W0 H y o) (hW:F6 W0):Tri Tryz.prog 22 #[.agg #[.int .i64 x.kind,.string (bk x.text),.slice an x.names.length cn,.slice al x.list.length cl]] W0 H (fun v H'=>v=(if rtP 24 x then .tuple #[.string (bk (prP x)),.int .i64 0] else .tuple #[.string (ByteArray.mk #[]),.int .i64 2])∧H'=H):=by
 have hpl:=pr_len x
 refine C5 (args:=[.agg #[.int .i64 x.kind,.string (bk x.text),.slice an x.names.length cn,.slice al x.list.length cl]]) (n:=11) Tryz.func22 rfl rfl (Nat.le_of_ble_eq_true rfl) ?_
 refine A1 (A2 ?_)
 refine K7 (ch:=[]) (v:=.agg #[.int .i64 x.kind,.string (bk x.text),.slice an x.names.length cn,.slice al x.list.length cl]) (k:=(fun b1=>?_))
 refine B2 (E':=[⟨1,[],pt b1⟩]) [0,0] [1] (k:=A0 ?_)
 refine A1 (A1 ?_)
 refine A2 (E8 (ch:=[]) (b:=b1) (off:=0) (l:=[.int .i64 x.kind,.string (bk x.text),.slice an x.names.length cn,.slice al x.list.length cl]) (hA:=At.grp 0 0 rfl rfl) (k:=?_))
 refine J1 (vs:=[.agg #[.int .i64 x.kind,.string (bk x.text),.slice an x.names.length cn,.slice al x.list.length cl],.int .i64 0]) Tryz.func51 (jright_ (szJ x) x (Nat.le_refl _) (by omega) 24 (Nat.le_refl _) 0 (by decide) an cn al cl cs S hrn hrl hrc _ _ (fun y o h=>At.cons (hS y o h)) hW) (A9 [0] [1,7] (k:=?_))
 refine A0 (B0 (b:=!(rtP 24 x)) kr (fun hc2=>?_) (fun hc2=>?_))
 ·
  have hr:rtP 24 x=false:=by simpa using hc2
  refine A1 (G_p [0,0] [2,3] (k:=?_))
  refine A0 (B4 ?_)
  refine A3 (C1 (H':=H) (fun w h=>(h.erase 0)) ?_)
  refine B6 [.tmp 2,.tmp 3] [.string (ByteArray.mk #[]),.int .i64 2] (k:=?_)
  exact ⟨by rw [hr]; rfl,rfl⟩
 ·
  have hr:rtP 24 x=true:=by simpa using hc2
  refine A8 (A0 ?_)
  refine A1 (A2 ?_)
  refine F0 (ch:=[]) (z:=.agg #[.pointer none,.slice none 0 0]) (k:=(fun b3=>?_))
  refine I1 rfl (H':=([(b3,.cells #[.pointer none,.slice none 0 0] 87 (0,0))]::[]::[(b1,.cells #[.int .i64 x.kind,.string (bk x.text),.slice an x.names.length cn,.slice al x.list.length cl] 28 (0,0))]::H)) (fun w h=>h.flat (List.Perm.refl _)) (B2 (E':=[⟨1,[],pt b1⟩,⟨4,[],pt b3⟩]) [] [1,4] (k:=?_))
  refine A0 (A1 ?_)
  refine A2 (E8 (ch:=[]) (b:=b1) (off:=0) (l:=[.int .i64 x.kind,.string (bk x.text),.slice an x.names.length cn,.slice al x.list.length cl]) (hA:=At.grp 2 0 rfl rfl) (k:=?_))
  refine D5 (vs:=[pt b3,.agg #[.int .i64 x.kind,.string (bk x.text),.slice an x.names.length cn,.slice al x.list.length cl]]) Tryz.func52 (jwrite_ (szJ x) x (Nat.le_refl _) 24 hr an cn al cl cs S hrn hrl hrc b3 (.pointer none) (.slice none 0 0) [] .empty bld0 bown0 (by show 0+_≤_; omega) _ _ (fun y o h=>At.cons (hS y o h)) hW) ?_
  rintro _ _ ⟨v4,g5,hB6,rfl⟩
  refine B2 (E':=[⟨4,[],pt b3⟩]) [] [4] (k:=A0 ?_)
  refine A1 (A2 ?_)
  refine D5 (vs:=[pt b3]) Tryz.func53 (R8 b3 (pt b3) (v4) g5 (.empty++bk (prP x)) hB6 (by (try simp only [G8,D3]); show 0+_≤_; omega) _ _) ?_
  rintro _ _ ⟨rfl,rfl⟩
  refine A9 [0,0] [2,3] (k:=A0 ?_)
  refine B4 (C1 (H':=H) (fun w h=>((h.erase 1).erase 0)) ?_)
  refine B6 [.tmp 2,.tmp 3] [.string (.empty++bk (prP x)),.int .i64 0] (k:=?_)
  exact ⟨by rw [hr]; exact congrArg (fun t=>Value.tuple #[.string t,.int .i64 0]) (ba_ext (G0 _ _)),rfl⟩
end Go.Proofs.YtppgfiklmfoaeaaGreatDoor
namespace Go.Proofs.YtppgfiklmfoaeaaGreatDoor
open Go.Sw Go.Sha Go.Esc Go.RowKit Go.Json
theorem rd_cast {S:Nat→Obj→Prop} {a:Option Addr} {cs cs':List Value} (h:Rd S a cs) (he:cs=cs'):Rd S a cs':=he ▸ h
theorem jparseV (a:Option Addr) (c:Nat) (l:List UInt8) (S:Nat→Obj→Prop) (hrd:Rd S a (u8s l)) (x:JV) (e:Int) (hp:G2 l=(x,e)) (W0:World) (H:List Grp) (hS:∀ y o,S y o→At W0 H y o) (hW:F6 W0):Tri Tryz.prog 16 #[.slice a l.length c] W0 H (fun v H2=>∃ c g,JRep 9 28 x c g∧v=.tuple #[.agg c.toArray,.int .i64 e]∧H2=g::H):=by
  have h:=jparse_ a c l S hrd W0 H hS hW
  rw [hp] at h; exact h
theorem rparseV (a:Option Addr) (c:Nat) (l:List UInt8) (S:Nat→Obj→Prop) (hrd:Rd S a (u8s l)) (x:JV) (e:Int) (hp:G2 l=(x,e)) (W0:World) (H:List Grp) (hS:∀ y o,S y o→At W0 H y o):Tri Tryz.prog 17 #[.slice a l.length c] W0 H (fun v H2=>∃ c g,JRep 9 28 x c g∧v=.tuple #[.agg c.toArray,.int .i64 e]∧H2=g::H):=by
  have h:=rparse_ a c l S hrd W0 H hS
  rw [hp] at h; exact h
theorem jdepthC (x:JV) (c:List Value) (S:Nat→Obj→Prop) (h:JRd S x c) (hd:cnJ x≤1000000000) (n:Nat) (hn:dpP x=n) (W0:World) (H:List Grp) (hS:∀ z o,S z o→At W0 H z o):Tri Tryz.prog 19 #[.agg c.toArray] W0 H (fun v H'=>v=.int .i64 (n:Int)∧H'=H):=by
  obtain ⟨an,al,cn,cl,cs,rfl,a1,a2,a3⟩:=h.shape
  subst hn
  exact jdepth_ (szJ x) x (Nat.le_refl _) hd an cn al cl cs S a1 a2 a3 W0 H hS
theorem rdepthC (x:JV) (c:List Value) (S:Nat→Obj→Prop) (h:JRd S x c) (hd:cnJ x≤1000000000) (W0:World) (H:List Grp) (hS:∀ z o,S z o→At W0 H z o):Tri Tryz.prog 20 #[.agg c.toArray] W0 H (fun v H'=>v=.int .i64 (dpP x:Int)∧H'=H):=by
  obtain ⟨an,al,cn,cl,cs,rfl,a1,a2,a3⟩:=h.shape
  exact rdepth_ (szJ x) x (Nat.le_refl _) hd an cn al cl cs S a1 a2 a3 W0 H hS
theorem jprintC (x:JV) (c:List Value) (S:Nat→Obj→Prop) (h:JRd S x c) (hw:wtJ x≤100000000) (u:Value) (hu:(if rtP 24 x then .tuple #[.string (bk (prP x)),.int .i64 0] else .tuple #[.string (ByteArray.mk #[]),.int .i64 2])=u) (W0:World) (H:List Grp) (hS:∀ z o,S z o→At W0 H z o) (hW:F6 W0):Tri Tryz.prog 22 #[.agg c.toArray] W0 H (fun v H'=>v=u∧H'=H):=by
  obtain ⟨an,al,cn,cl,cs,rfl,a1,a2,a3⟩:=h.shape
  subst hu
  exact jprint_ x an cn al cl cs S a1 a2 a3 hw W0 H hS hW
theorem jgetC (x:JV) (an:Option Addr) (cn:Nat) (al:Option Addr) (cl:Nat) (S:Nat→Obj→Prop) (h:JRd S x (jvC x an cn al cl)) (hcl:x.list.length≤cl) (hcn:cnJ x≤1000000000) (name:ByteArray) (y:Option JV) (hy:getP x name.data.toList=y) (W0:World) (H:List Grp) (hS:∀ y o,S y o→At W0 H y o):Tri Tryz.prog 25 #[.agg (jvC x an cn al cl).toArray,.string name] W0 H (fun v H'=>∃ c0 c1 c2 c3,JRd S (y.getD nul) [c0,c1,c2,c3]∧v=.tuple #[.agg #[c0,c1,c2,c3],.bool y.isSome]∧H'=H):=by
  obtain ⟨an',al',cn',cl',cs,e,a1,a2,a3⟩:=h.shape
  subst hy
  unfold jvC at e
  injection e with _ e; injection e with _ e; injection e with e1 e; injection e with e2 _; injection e1 with e1 _ e1'; injection e2 with e2 _ e2'
  subst e1 e1' e2 e2'
  have:=jget_ x an cn al cl cs S a1 a2 a3 hcl hcn name.data.toList W0 H hS
  rwa [show bk name.data.toList=name from rfl] at this
def V1:JV:=.mk 6 [] [[97],[97]] [.mk 5 [] [] [.mk 3 [49] [] [],.mk 4 [120] [] []],.mk 0 [] [] []]
theorem v1_shape {ts tj:TypeId} {c:List Value} {g:Grp} (h:JRep ts tj V1 c g):∃ an cn al cl,c=[.int .i64 6,.string (ByteArray.mk #[]),.slice an 2 cn,.slice al 2 cl]∧2≤cl:=by
  cases h with
  | mk h1 h2 h3=>exact ⟨_,_,_,_,rfl,own_cap h2⟩
theorem first_  (W0:World) (H:List Grp) (hW:F6 W0):Tri Tryz.prog 15 #[] W0 H (fun v H'=>v=.bool true∧H'=H):=by
 refine C5 (args:=[]) (n:=64) Tryz.func15 rfl rfl (Nat.le_of_ble_eq_true rfl) ?_
 refine A1 (B7 (E':=[]) [0] [] (k:=?_))
 refine A0 (A1 ?_)
 refine A2 (D0 (ch:=[]) (e:=5) (l:=[(0,.int .u8 32),(1,.int .u8 123),(2,.int .u8 34),(3,.int .u8 97),(4,.int .u8 34),(5,.int .u8 58),(6,.int .u8 91),(7,.int .u8 49),(8,.int .u8 44),(9,.int .u8 34),(10,.int .u8 120),(11,.int .u8 34),(12,.int .u8 93),(13,.int .u8 44),(14,.int .u8 34),(15,.int .u8 97),(16,.int .u8 34),(17,.int .u8 58),(18,.int .u8 110),(19,.int .u8 117),(20,.int .u8 108),(21,.int .u8 108),(22,.int .u8 125),(23,.int .u8 32)]) (c:=[.int .u8 32,.int .u8 123,.int .u8 34,.int .u8 97,.int .u8 34,.int .u8 58,.int .u8 91,.int .u8 49,.int .u8 44,.int .u8 34,.int .u8 120,.int .u8 34,.int .u8 93,.int .u8 44,.int .u8 34,.int .u8 97,.int .u8 34,.int .u8 58,.int .u8 110,.int .u8 117,.int .u8 108,.int .u8 108,.int .u8 125,.int .u8 32]) (k:=(fun b1=>?_)))
 refine GL_sameBytes (ch:=[]) (t:=22) (e:=5) (b:=b1) (off:=0) (l:=24) (cap:=24) (j:=0) (m:=0) (hH':=(by rfl)) (k:=D5 Tryz.func16 (jparseV (some ⟨b1,0,none⟩) 24 ([32,123,34,97,34,58,91,49,44,34,120,34,93,44,34,97,34,58,110,117,108,108,125,32]:List UInt8) (inG [(b1,.cells #[.int .u8 32,.int .u8 123,.int .u8 34,.int .u8 97,.int .u8 34,.int .u8 58,.int .u8 91,.int .u8 49,.int .u8 44,.int .u8 34,.int .u8 120,.int .u8 34,.int .u8 93,.int .u8 44,.int .u8 34,.int .u8 97,.int .u8 34,.int .u8 58,.int .u8 110,.int .u8 117,.int .u8 108,.int .u8 108,.int .u8 125,.int .u8 32] 5 (24,24+1))]) (rd_cast (cs:=[.int .u8 32,.int .u8 123,.int .u8 34,.int .u8 97,.int .u8 34,.int .u8 58,.int .u8 91,.int .u8 49,.int .u8 44,.int .u8 34,.int .u8 120,.int .u8 34,.int .u8 93,.int .u8 44,.int .u8 34,.int .u8 97,.int .u8 34,.int .u8 58,.int .u8 110,.int .u8 117,.int .u8 108,.int .u8 108,.int .u8 125,.int .u8 32]) Rd.lit kr) V1 0 kr _ _ (F7 0 rfl) hW) ?_)
 rintro _ _ ⟨c2,gp2,hJ2,rfl,rfl⟩
 obtain ⟨van2,vcn2,val2,vcl2,rfl,hcl2⟩:=v1_shape hJ2
 refine A4 (j:=6) [0,0,0] (k:=F0 (ch:=[]) (z:=.agg #[.int .i64 0,.string (ByteArray.mk #[]),.slice none 0 0,.slice none 0 0]) (k:=(fun b3=>?_)))
 refine D2 (ch:=[]) (b:=b3) (off:=0) (v:=.agg #[.int .i64 6,.string (ByteArray.mk #[]),.slice van2 2 vcn2,.slice val2 2 vcl2]) (j:=0) ([(b3,.cells #[.int .i64 6,.string (ByteArray.mk #[]),.slice van2 2 vcn2,.slice val2 2 vcl2] 28 (0,0))]::gp2::[(b1,.cells #[.int .u8 32,.int .u8 123,.int .u8 34,.int .u8 97,.int .u8 34,.int .u8 58,.int .u8 91,.int .u8 49,.int .u8 44,.int .u8 34,.int .u8 120,.int .u8 34,.int .u8 93,.int .u8 44,.int .u8 34,.int .u8 97,.int .u8 34,.int .u8 58,.int .u8 110,.int .u8 117,.int .u8 108,.int .u8 108,.int .u8 125,.int .u8 32] 5 (24,24+1))]::H) (hoff:=Nat.le_of_ble_eq_true rfl) (hfz:=(fun _ _=>C6)) (k:=B2 (E':=[⟨1,[],pt b3⟩,⟨2,[],.int .i64 0⟩]) [0] [1,2] (k:=?_))
 refine A0 (A1 ?_)
 refine A2 (E8 (ch:=[]) (b:=b3) (off:=0) (l:=[.int .i64 6,.string (ByteArray.mk #[]),.slice van2 2 vcn2,.slice val2 2 vcl2]) (hA:=At.grp 0 0 rfl rfl) (k:=?_))
 refine D5 (vs:=[.agg #[.int .i64 6,.string (ByteArray.mk #[]),.slice van2 2 vcn2,.slice val2 2 vcl2],.string (ByteArray.mk #[97])]) Tryz.func25 (jgetC V1 van2 vcn2 val2 vcl2 (inG gp2) (hJ2.rd (fun _ _ h=>h)) hcl2 (Nat.le_of_ble_eq_true kr) (ByteArray.mk #[97]) (some nul) kr _ _ (F7 1 rfl)) ?_
 rintro _ _ ⟨d04,d14,d24,d34,hG4,rfl,rfl⟩
 obtain ⟨van4,val4,vcn4,vcl4,ds4,he4,_,_,_⟩:=JRd.shape (v:=nul) hG4
 injection he4 with e1 he4; injection he4 with e2 he4; injection he4 with e3 he4; injection he4 with e4 _
 subst e1 e2 e3 e4
 refine A4 (j:=5) [0,0,0] (k:=F0 (ch:=[]) (z:=.agg #[.int .i64 0,.string (ByteArray.mk #[]),.slice none 0 0,.slice none 0 0]) (k:=(fun b5=>?_)))
 refine D2 (ch:=[]) (b:=b5) (off:=0) (v:=.agg #[.int .i64 0,.string (ByteArray.mk #[]),.slice van4 0 vcn4,.slice val4 0 vcl4]) (j:=0) ([(b5,.cells #[.int .i64 0,.string (ByteArray.mk #[]),.slice van4 0 vcn4,.slice val4 0 vcl4] 28 (0,0))]::[(b3,.cells #[.int .i64 6,.string (ByteArray.mk #[]),.slice van2 2 vcn2,.slice val2 2 vcl2] 28 (0,0))]::gp2::[(b1,.cells #[.int .u8 32,.int .u8 123,.int .u8 34,.int .u8 97,.int .u8 34,.int .u8 58,.int .u8 91,.int .u8 49,.int .u8 44,.int .u8 34,.int .u8 120,.int .u8 34,.int .u8 93,.int .u8 44,.int .u8 34,.int .u8 97,.int .u8 34,.int .u8 58,.int .u8 110,.int .u8 117,.int .u8 108,.int .u8 108,.int .u8 125,.int .u8 32] 5 (24,24+1))]::H) (hoff:=Nat.le_of_ble_eq_true rfl) (hfz:=(fun _ _=>C6)) (k:=A9 [0] [1,2,3,4] (k:=?_))
 refine A0 (A1 ?_)
 refine A2 (D0 (ch:=[]) (e:=5) (l:=[(0,.int .u8 91),(1,.int .u8 49),(2,.int .u8 44),(3,.int .u8 93)]) (c:=[.int .u8 91,.int .u8 49,.int .u8 44,.int .u8 93]) (k:=(fun b6=>?_)))
 refine GL_sameBytes (ch:=[]) (t:=22) (e:=5) (b:=b6) (off:=0) (l:=4) (cap:=4) (j:=0) (m:=0) (hH':=(by rfl)) (k:=D5 Tryz.func16 (jparseV (some ⟨b6,0,none⟩) 4 ([91,49,44,93]:List UInt8) (inG [(b6,.cells #[.int .u8 91,.int .u8 49,.int .u8 44,.int .u8 93] 5 (4,4+1))]) (rd_cast (cs:=[.int .u8 91,.int .u8 49,.int .u8 44,.int .u8 93]) Rd.lit kr) ((G2 [91,49,44,93]).1) 70 kr _ _ (F7 0 rfl) hW) ?_)
 rintro _ _ ⟨c7,gp7,hJ7,rfl,rfl⟩
 obtain ⟨vk7,vt7,van7,vn7,vcn7,val7,vm7,vcl7,rfl⟩:=hJ7.shape
 refine A4 (j:=6) [0,0,0] (k:=F0 (ch:=[]) (z:=.agg #[.int .i64 0,.string (ByteArray.mk #[]),.slice none 0 0,.slice none 0 0]) (k:=(fun b8=>?_)))
 refine D2 (ch:=[]) (b:=b8) (off:=0) (v:=.agg #[.int .i64 vk7,.string vt7,.slice van7 vn7 vcn7,.slice val7 vm7 vcl7]) (j:=0) ([(b8,.cells #[.int .i64 vk7,.string vt7,.slice van7 vn7 vcn7,.slice val7 vm7 vcl7] 28 (0,0))]::gp7::[(b6,.cells #[.int .u8 91,.int .u8 49,.int .u8 44,.int .u8 93] 5 (4,4+1))]::[(b5,.cells #[.int .i64 0,.string (ByteArray.mk #[]),.slice van4 0 vcn4,.slice val4 0 vcl4] 28 (0,0))]::[(b3,.cells #[.int .i64 6,.string (ByteArray.mk #[]),.slice van2 2 vcn2,.slice val2 2 vcl2] 28 (0,0))]::gp2::[(b1,.cells #[.int .u8 32,.int .u8 123,.int .u8 34,.int .u8 97,.int .u8 34,.int .u8 58,.int .u8 91,.int .u8 49,.int .u8 44,.int .u8 34,.int .u8 120,.int .u8 34,.int .u8 93,.int .u8 44,.int .u8 34,.int .u8 97,.int .u8 34,.int .u8 58,.int .u8 110,.int .u8 117,.int .u8 108,.int .u8 108,.int .u8 125,.int .u8 32] 5 (24,24+1))]::H) (hoff:=Nat.le_of_ble_eq_true rfl) (hfz:=(fun _ _=>C6)) (k:=A9 [0] [1,2,3,4,6] (k:=?_))
 refine A0 (A1 ?_)
 refine A2 (E8 (ch:=[]) (b:=b3) (off:=0) (l:=[.int .i64 6,.string (ByteArray.mk #[]),.slice van2 2 vcn2,.slice val2 2 vcl2]) (hA:=At.grp 4 0 rfl rfl) (k:=?_))
 refine J1 (vs:=[.agg #[.int .i64 6,.string (ByteArray.mk #[]),.slice van2 2 vcn2,.slice val2 2 vcl2]]) Tryz.func22 (jprintC V1 [.int .i64 6,.string (ByteArray.mk #[]),.slice van2 2 vcn2,.slice val2 2 vcl2] (inG gp2) (hJ2.rd (fun _ _ h=>h)) (Nat.le_of_ble_eq_true kr) (.tuple #[.string (ByteArray.mk #[123,34,97,34,58,91,49,44,34,120,34,93,44,34,97,34,58,110,117,108,108,125]),.int .i64 0]) kr _ _ (F7 5 rfl) hW) (A9 [0,0,0,0,0] [1,2,3,4,6,7,8] (k:=?_))
 refine A0 (A1 ?_)
 refine A2 (A4 (j:=4) [0,0,0,0] (k:=?_))
 refine A6 (ch:=[(33,true)]) (b:=b3) (off:=3) (v:=.slice val2 2 vcl2) (hA:=At.grp 4 0 rfl rfl) (k:=A4 (j:=13) [0,0,2,0,0,2,0,0] (k:=?_))
 refine A6 (ch:=[(42,true)]) (b:=b5) (off:=0) (v:=.int .i64 0) (hA:=At.grp 3 0 rfl rfl) (k:=A4 (j:=29) [0,2,0,0,0,2,0,0,0,2,0,0,0,2,0] (k:=?_))
 refine E8 (ch:=[(59,true)]) (b:=b3) (off:=0) (l:=[.int .i64 6,.string (ByteArray.mk #[]),.slice van2 2 vcn2,.slice val2 2 vcl2]) (hA:=At.grp 4 0 rfl rfl) (k:=I7 (ch:=[(59,true)]) (f:=19) (fst:=#[]) (caps:=#[]) (vs:=[.agg #[.int .i64 6,.string (ByteArray.mk #[]),.slice van2 2 vcn2,.slice val2 2 vcl2]]) (v:=.int .i64 2) (hf:=Tryz.func19) (hc:=(fun hc=>jdepthC V1 [.int .i64 6,.string (ByteArray.mk #[]),.slice van2 2 vcn2,.slice val2 2 vcl2] (inG gp2) (hJ2.rd (fun _ _ h=>h)) (Nat.le_of_ble_eq_true kr) 2 kr _ _ (F7 5 rfl))) (k:=?_))
 refine A9 [0,6,0] [0] (k:=A0 ?_)
 refine B4 (C1 (H':=H) (fun w h=>(((((((h.erase 6).erase 5).erase 4).erase 3).erase 2).erase 1).erase 0)) ?_)
 refine B6 [.tmp 0] [.bool (((ByteArray.mk #[123,34,97,34,58,91,49,44,34,120,34,93,44,34,97,34,58,110,117,108,108,125]).toList==(ByteArray.mk #[123,34,97,34,58,91,49,44,34,120,34,93,44,34,97,34,58,110,117,108,108,125]).toList)&&true)] (k:=?_)
 exact ⟨congrArg Value.bool (by rw [(eqB _ _).2 rfl]; rfl),rfl⟩
end Go.Proofs.YtppgfiklmfoaeaaGreatDoor
namespace Go.Sw
theorem GL_storeO {P:Program} {ops:Array Oper} {i:Nat} {Q:D9} {n:Fr} {E:Env} {W0:World} {H:List Grp} {o:Oper} {ch:List (Nat × Bool)} {t et:TypeId} {x y:Operand} {a:Option Addr} {sz len cap q:Nat} {cs cs':List Value} {v:Value} {g:Grp} {j:Nat}
    (ho:ops[i]? = some o) (hop:o.op=.store t x y) (hx:evO E ch x=some (.pointer (some (eltA a q)))) (hy:evO E ch y=some v)
    (hsz:sizeV P t=some v.cells.size) (h1:(v.cells.toList.all Value.oneCell')=true) (hvc:v.cells.toList=[v])
    (hch:E7 ops E o.guard=some ch) (hd:I4 n ch o.dst=true) (hsure:O1 E ch=true)
    (hj:H[j]? = some g) (hO:Own et sz (.slice a len cap) g len cs) (hq:q<cs.length) (hcs:cs.set q v=cs')
    (k:∀ g',Own et sz (.slice a len cap) g' len cs'→GL false P ops (i+1) Q n (Env.put E o.dst ch undef) W0 (H.set j g')):GL false P ops i Q n E W0 H:=by
  obtain ⟨hl,⟨he,rfl,hn⟩ | ⟨b,cap',junk,he,rfl,hc,hjk⟩⟩:=hO
  · rw [hn] at hl; simp at hl; rw [hl] at hq; simp at hq
  · injection he with e1 e2 e3
    subst e1 e3 hcs
    have hel:eltA (some ⟨b,0,none⟩) q=⟨b,q,none⟩:=by show Addr.add ⟨b,0,none⟩ q=_; rw [J9,Nat.zero_add]
    rw [hel] at hx
    have hv1:v.cells.size=1:=by rw [← Array.length_toList,hvc]; rfl
    refine M3 (b:=b) (off:=q) (v:=v) (c:=(cs++junk).toArray) (c':=((cs.set q v)++junk).toArray) (e:=et) (fz:=(0,0)) (j:=j) (m:=0) ho hop hx hy hsz h1 hch hd hsure hj rfl (by rw [hv1,List.size_toArray,List.length_append]; omega) (fun _ _=>C6) ?_ rfl (k _ ⟨by rw [List.length_set]; exact hl,.inr ⟨b,cap,junk,rfl,rfl,hc,by rw [List.length_append,List.length_set,← List.length_append]; exact hjk⟩⟩)
    rw [hvc]
    have e1:cs++junk=cs.take q++[cs[q]]++(cs.drop (q+1)++junk):=by
      rw [← List.append_assoc]
      congr 1
      rw [List.append_assoc,List.singleton_append,← List.drop_eq_getElem_cons hq,List.take_append_drop]
    have e2:cs.set q v++junk=cs.take q++[v]++(cs.drop (q+1)++junk):=by
      rw [← List.append_assoc,List.set_eq_take_append_cons_drop,if_pos hq]
      simp
    have e3:(cs.take q).length=q:=by rw [List.length_take]; omega
    rw [e1,e2]
    have:=setRow_mid [v] (cs.take q) (cs.drop (q+1)++junk) [cs[q]] rfl
    rw [e3] at this
    exact this
end Go.Sw
namespace Go.Proofs.YtppgfiklmfoaeaaGreatDoor
open Go.Sw Go.Sha Go.Esc Go.RowKit Go.Json
theorem rd_none8 {S:Nat→Obj→Prop} {a:Option Addr} {l:List UInt8} (h:Rd S a (u8s l)) (ha:a=none):l.length=0:=by
  subst ha
  rcases h with h | ⟨b,off,c,e,fz,h1,_⟩
  · have:=congrArg List.length h
    unfold u8s at this; rw [List.length_map] at this; exact this
  · cases h1
theorem u8_xor (x:UInt8):IntKind.wrap .u8 ((BitVec.ofInt (IntKind.bits .u8) (x.toNat:Int) ^^^ BitVec.ofInt (IntKind.bits .u8) 255).toNat)=((x ^^^ 255).toNat:Int):=by
  have h:∀ n:Fin 256,IntKind.wrap .u8 ((BitVec.ofInt (IntKind.bits .u8) ((UInt8.ofNat n.val).toNat:Int) ^^^ BitVec.ofInt (IntKind.bits .u8) 255).toNat)=(((UInt8.ofNat n.val) ^^^ 255).toNat:Int):=by decide +kernel
  have:=h ⟨x.toNat,x.toNat_lt⟩
  simpa using this
theorem u8s_set {l:List UInt8} {i q:Nat} {b:UInt8} (h:q=i):(u8s l).set q (.int .u8 (b.toNat:Int))=u8s (l.set i b):=by subst h; unfold u8s; rw [List.map_set]
theorem u8s_ln (l:List UInt8):(u8s l).length=l.length * 1:=by unfold u8s; rw [List.length_map,Nat.mul_one]
theorem u8s_no {l:List UInt8} {k:Nat} (h:k<l.length):u8s l≠[]:=by intro e; have:=congrArg List.length e; rw [u8s_ln,List.length_nil] at this; omega
theorem jsonParses_ (a:Option Addr) (c:Nat) (l:List UInt8) (S:Nat→Obj→Prop) (hrd:Rd S a (u8s l)) (W0:World) (H:List Grp) (hS:∀ y o,S y o→At W0 H y o) (hW:F6 W0):Tri Tryz.prog 3 #[.slice a l.length c] W0 H (fun v H'=>v=.bool true∧H'=H):=by
 refine C5 (args:=[.slice a l.length c]) (n:=47) Tryz.func3 rfl rfl (Nat.le_of_ble_eq_true rfl) ?_
 refine A1 (B7 (E':=[⟨0,[],.slice a l.length c⟩]) [0] [0] (k:=?_))
 refine A0 (A1 ?_)
 refine A1 (A2 ?_)
 refine J1 Tryz.func15 (first_ _ _ hW) (A9 [0] [0,10] (k:=?_))
 refine A0 (C4 kr ?_)
 refine A8 (A0 ?_)
 refine A1 (A1 ?_)
 refine G_p [0,0,0] [0,13] (k:=A0 ?_)
 refine B0 (b:=decide (((l.length:Nat):Int) > 70000)) kr (fun hc1=>?_) (fun hc1=>?_)
 ·
  simp only [decide_eq_true_eq,gt_iff_lt] at hc1
  refine A1 (B7 (E':=[⟨2,[],.bool true⟩]) [0] [2] (k:=?_))
  refine A0 (B4 ?_)
  refine A3 (B6 [.tmp 2] [.bool true] (k:=?_))
  first | exact ⟨rfl,rfl⟩ | exact ⟨congrArg Value.bool (by rw [beq_self_eq_true]; rfl),rfl⟩
 ·
  simp only [decide_eq_false_iff_not,gt_iff_lt] at hc1
  refine A8 (A0 ?_)
  refine A1 (A2 ?_)
  refine D0 (ch:=[]) (e:=5) (l:=[]) (c:=[]) (k:=(fun b2=>?_))
  refine A4 (j:=2) [0] (k:=F8 (i:=2) (ch:=[]) (t:=22) (tx:=22) (e:=5) (inf:=Tryz.t5) (s:=.slice (some ⟨b2,0,none⟩) 0 0) (x:=.slice a l.length c) (n:=0) (m:=l.length) (j:=0) (cs:=[]) (news:=(u8s l)) (g:=[(b2,.cells #[] 5 (0,0))]) (S:=S) rfl rfl rfl rfl kr kr kr rfl rfl (.inl ⟨5,kr⟩) (fun ⟨_,h⟩=>by cases h) (fun _=>⟨5,kr⟩) kr kr kr rfl (Go.Sw.Own.lit rfl) (SrcOf.slice _ _ _ _ hrd (rd_none8 hrd)) (fun y o h=>(At.cons (hS y o h))) (u8s_ln l) u8_one (by omega) (by show (0+l.length) * 1≤140737488355328; omega) (fun v3 g4 hO5=>?_))
  replace hO5:=own_from0 hO5
  obtain ⟨a6,cap7,rfl,hcap8,hrd9⟩:=hO5.shape
  refine A9 [0] [0,3] (k:=A0 ?_)
  refine A1 (A2 ?_)
  refine A4 (j:=1) [0] (k:=D5 Tryz.func16 (jparseV a6 cap7 l (inG g4) (own_rd hO5) ((G2 l).1) ((G2 l).2) rfl _ _ (F7 0 rfl) hW) ?_)
  rintro _ _ ⟨c10,gp10,hJ10,rfl,rfl⟩
  obtain ⟨vk10,vt10,van10,vn10,vcn10,val10,vm10,vcl10,rfl⟩:=hJ10.shape
  refine A4 (j:=5) [0,0,0] (k:=F0 (ch:=[]) (z:=.agg #[.int .i64 0,.string (ByteArray.mk #[]),.slice none 0 0,.slice none 0 0]) (k:=(fun b11=>?_)))
  refine D2 (ch:=[]) (b:=b11) (off:=0) (v:=.agg #[.int .i64 vk10,.string vt10,.slice van10 vn10 vcn10,.slice val10 vm10 vcl10]) (j:=0) ([(b11,.cells #[.int .i64 vk10,.string vt10,.slice van10 vn10 vcn10,.slice val10 vm10 vcl10] 28 (0,0))]::gp10::g4::H) (hoff:=Nat.le_of_ble_eq_true rfl) (hfz:=(fun _ _=>C6)) (k:=A9 [0] [0,3,4,5] (k:=?_))
  refine A0 (A1 ?_)
  refine A1 (G_p [0,0,0] [0,3,4,5,23,24] (k:=?_))
  refine A0 (B9 ?_)
  refine J5 (EI:=(fun ξ:Nat × Grp × List UInt8=>[⟨0,[],.slice a l.length c⟩,⟨3,[],.slice a6 l.length cap7⟩,⟨4,[],pt b11⟩,⟨5,[],.int .i64 ((G2 l).2)⟩,⟨23,[],.int .i64 ((l.length:Nat):Int)⟩,⟨24,[],.int .i64 ((ξ.1:Nat):Int)⟩])) (HI:=(fun ξ:Nat × Grp × List UInt8=>([(b11,.cells #[.int .i64 vk10,.string vt10,.slice van10 vn10 vcn10,.slice val10 vm10 vcl10] 28 (0,0))]::gp10::ξ.2.1::H))) (Φ:=(fun ξ:Nat × Grp × List UInt8=>(ξ.1≤l.length)∧(ξ.2.2.length=l.length)∧(Go.Sw.Own 5 1 (.slice a6 l.length cap7) ξ.2.1 l.length (u8s ξ.2.2)))) (μ:=(fun ξ:Nat × Grp × List UInt8=>l.length - ξ.1)) (s0:=(0,g4,l)) [0,3,4,5,23,24] kr rfl ⟨(Nat.zero_le _),rfl,hO5⟩ ?_
  rintro ⟨k,go,L2⟩ ⟨hk,hL2,hO⟩
  dsimp only at hk hL2 hO
  refine A1 (G_p [0] [0,3,4,5,23,24,25] (k:=?_))
  refine A0 (A1 ?_)
  refine B0 (b:=decide (((k:Nat):Int)<((l.length:Nat):Int))) kr (fun hc12=>?_) (fun hc12=>?_)
  ·
   simp only [decide_eq_true_eq] at hc12
   refine A8 (A0 ?_)
   refine A1 (B9 ?_)
   refine A1 (G_p [0,0] [0,3,4,5,6,23,24] (k:=?_))
   refine A0 (A2 ?_)
   refine A4 (j:=2) [0,0] (k:=F2 (ch:=[]) (a:=a6) (len:=l.length) (cap:=cap7) (kd:=.i64) (j:=((k:Nat):Int)) (e:=5) (sz:=1) (S:=(inG go)) (cs:=(u8s L2)) (hrd:=own_rd hO) (hb:=(fun _=>by exact ⟨by omega,by omega,u8s_no (l:=L2) (k:=k) (by omega)⟩)) (k:=?_))
   refine M4 (ch:=[]) (a:=a6) (q:=k * 1) (S:=(inG go)) (cs:=(u8s L2)) (v:=.int .u8 ((L2.getD k 0).toNat:Int)) (hrd:=own_rd hO) (hS:=F7 2 rfl) (hv:=(fun _=>(by rw [Nat.mul_one]; exact Go.Sha.u8s_at (by omega)))) (k:=B5 (E':=[⟨31,[],.int .u8 (IntKind.wrap .u8 ((BitVec.ofInt (IntKind.bits .u8) ((L2.getD k 0).toNat:Int) ^^^ BitVec.ofInt (IntKind.bits .u8) 255).toNat))⟩,⟨28,[],.int .i64 ((k:Nat):Int)⟩,⟨27,[],.slice a6 l.length cap7⟩,⟨0,[],.slice a l.length c⟩,⟨3,[],.slice a6 l.length cap7⟩,⟨4,[],pt b11⟩,⟨5,[],.int .i64 ((G2 l).2)⟩,⟨23,[],.int .i64 ((l.length:Nat):Int)⟩,⟨24,[],.int .i64 ((k:Nat):Int)⟩]) [0] kr (j:=5) rfl ?_)
   refine B8 (E':=[⟨31,[],.int .u8 ((L2.getD k 0 ^^^ 255).toNat:Int)⟩,⟨28,[],.int .i64 ((k:Nat):Int)⟩,⟨27,[],.slice a6 l.length cap7⟩,⟨0,[],.slice a l.length c⟩,⟨3,[],.slice a6 l.length cap7⟩,⟨4,[],pt b11⟩,⟨5,[],.int .i64 ((G2 l).2)⟩,⟨23,[],.int .i64 ((l.length:Nat):Int)⟩,⟨24,[],.int .i64 ((k:Nat):Int)⟩]) (by rw [u8_xor]) (F2 (ch:=[]) (a:=a6) (len:=l.length) (cap:=cap7) (kd:=.i64) (j:=((k:Nat):Int)) (e:=5) (sz:=1) (S:=(inG go)) (cs:=(u8s L2)) (hrd:=own_rd hO) (hb:=(fun _=>by exact ⟨by omega,by omega,u8s_no (l:=L2) (k:=k) (by omega)⟩)) (k:=?_))
   refine GL_storeO (i:=6) (ch:=[]) (a:=a6) (q:=k * 1) (len:=l.length) (cap:=cap7) (v:=.int .u8 ((L2.getD k 0 ^^^ 255).toNat:Int)) (g:=go) (j:=2) (cs:=(u8s L2)) (cs':=(u8s (L2.set k ((L2.getD k 0) ^^^ 255)))) rfl rfl kr kr kr kr rfl kr kr kr rfl hO (by rw [u8s_ln]; omega) (u8s_set (Nat.mul_one _)) (fun g13 hO14=>A9 [] [0,3,4,5,23,24] (k:=?_))
   refine C0 (A0 ?_)
   have hw15:IntKind.wrap .i64 (((k:Nat):Int)+1)=((k:Nat):Int)+1:=w64 (by omega) (by omega)
   refine A2 (B5 (E':=[⟨33,[],.int .i64 (((k:Nat):Int)+1)⟩,⟨0,[],.slice a l.length c⟩,⟨3,[],.slice a6 l.length cap7⟩,⟨4,[],pt b11⟩,⟨5,[],.int .i64 ((G2 l).2)⟩,⟨23,[],.int .i64 ((l.length:Nat):Int)⟩,⟨24,[],.int .i64 ((k:Nat):Int)⟩]) [0] (Eq.trans (b:=some [⟨33,[],.int .i64 (IntKind.wrap .i64 (((k:Nat):Int)+1))⟩,⟨0,[],.slice a l.length c⟩,⟨3,[],.slice a6 l.length cap7⟩,⟨4,[],pt b11⟩,⟨5,[],.int .i64 ((G2 l).2)⟩,⟨23,[],.int .i64 ((l.length:Nat):Int)⟩,⟨24,[],.int .i64 ((k:Nat):Int)⟩]) kr (by simp only [hw15])) (j:=1) rfl ?_)
   refine B8 (E':=[⟨33,[],.int .i64 ((k+1:Nat):Int)⟩,⟨0,[],.slice a l.length c⟩,⟨3,[],.slice a6 l.length cap7⟩,⟨4,[],pt b11⟩,⟨5,[],.int .i64 ((G2 l).2)⟩,⟨23,[],.int .i64 ((l.length:Nat):Int)⟩,⟨24,[],.int .i64 ((k:Nat):Int)⟩]) (by rw [show ((k:Nat):Int)+1=((k+1:Nat):Int) by omega]) (A9 [0] [0,3,4,5,23,24] (k:=?_))
   refine F3 (s':=((k+1),g13,(L2.set k ((L2.getD k 0) ^^^ 255)))) [0,3,4,5,23,24] kr rfl ⟨(by dsimp only; omega),(by dsimp only; rw [List.length_set]; exact hL2),hO14⟩ (by dsimp only; omega)
  ·
   simp only [decide_eq_false_iff_not] at hc12
   refine H5 (B1 ?_)
   refine B1 (C7 ?_)
   refine A0 (A1 ?_)
   refine A2 (A4 (j:=1) [0] (k:=?_))
   refine D5 Tryz.func17 (rparseV a c l S hrd ((G2 l).1) ((G2 l).2) rfl _ _ (fun y o h=>(At.cons (At.cons (At.cons (hS y o h)))))) ?_
   rintro _ _ ⟨c16,gp16,hJ16,rfl,rfl⟩
   obtain ⟨vk16,vt16,van16,vn16,vcn16,val16,vm16,vcl16,rfl⟩:=hJ16.shape
   refine A4 (j:=5) [0,0,0] (k:=F0 (ch:=[]) (z:=.agg #[.int .i64 0,.string (ByteArray.mk #[]),.slice none 0 0,.slice none 0 0]) (k:=(fun b17=>?_)))
   refine D2 (ch:=[]) (b:=b17) (off:=0) (v:=.agg #[.int .i64 vk16,.string vt16,.slice van16 vn16 vcn16,.slice val16 vm16 vcl16]) (j:=0) ([(b17,.cells #[.int .i64 vk16,.string vt16,.slice van16 vn16 vcn16,.slice val16 vm16 vcl16] 28 (0,0))]::gp16::[(b11,.cells #[.int .i64 vk10,.string vt10,.slice van10 vn10 vcn10,.slice val10 vm10 vcl10] 28 (0,0))]::gp10::go::H) (hoff:=Nat.le_of_ble_eq_true rfl) (hfz:=(fun _ _=>C6)) (k:=A9 [0] [4,5,7,8] (k:=?_))
   refine A0 (A1 ?_)
   refine A2 (A4 (j:=4) [0,0,0,0] (k:=?_))
   refine E8 (ch:=[(42,true)]) (b:=b11) (off:=0) (l:=[.int .i64 vk10,.string vt10,.slice van10 vn10 vcn10,.slice val10 vm10 vcl10]) (hA:=At.grp 2 0 rfl rfl) (k:=E8 (ch:=[(42,true)]) (b:=b17) (off:=0) (l:=[.int .i64 vk16,.string vt16,.slice van16 vn16 vcn16,.slice val16 vm16 vcl16]) (hA:=At.grp 0 0 rfl rfl) (k:=?_))
   refine I7 (ch:=[(42,true)]) (f:=18) (fst:=#[]) (caps:=#[]) (vs:=[.agg #[.int .i64 vk10,.string vt10,.slice van10 vn10 vcn10,.slice val10 vm10 vcl10],.agg #[.int .i64 vk16,.string vt16,.slice van16 vn16 vcn16,.slice val16 vm16 vcl16]]) (v:=.bool true) (hf:=Tryz.func18) (hc:=(fun hc=>rsameC ((G2 l).1) (Nat.le_trans (parR_cn l) (by decide)) [.int .i64 vk10,.string vt10,.slice van10 vn10 vcn10,.slice val10 vm10 vcl10] [.int .i64 vk16,.string vt16,.slice van16 vn16 vcn16,.slice val16 vm16 vcl16] (inG gp10) (inG gp16) (hJ10.rd (fun _ _ h=>h)) (hJ16.rd (fun _ _ h=>h)) _ _ (F7 3 rfl) (F7 1 rfl))) (k:=A9 [6,0] [2] (k:=?_))
   refine A0 (B4 ?_)
   refine C1 (H':=H) (fun w h=>(((((h.erase 4).erase 3).erase 2).erase 1).erase 0)) (B6 [.tmp 2] [.bool ((((G2 l).2)==((G2 l).2))&&true)] (k:=?_))
   first | exact ⟨rfl,rfl⟩ | exact ⟨congrArg Value.bool (by rw [beq_self_eq_true]; rfl),rfl⟩
end Go.Proofs.YtppgfiklmfoaeaaGreatDoor
namespace Go.Proofs.YtppgfiklmfoaeaaGreatDoor
open Go.Sw Go.Sha Go.Esc Go.RowKit Go.Json
theorem ws_snoc {t:ByteArray} {k:Int} (h:Ws t.data.toList) (h0:0≤k) (h4:k<4):Ws (t++bk [(A5 (ByteArray.mk #[32,9,10,13]) k).toNat.toUInt8]).data.toList:=by
  intro b hb
  rw [G0,List.mem_append] at hb
  rcases hb with hb | hb
  · exact h b hb
  · rcases List.mem_singleton.1 hb with rfl
    rcases (show k=0∨k=1∨k=2∨k=3 by omega) with rfl | rfl | rfl | rfl <;> decide
theorem sz_snoc (t:ByteArray) (b:UInt8):(t++bk [b]).size=t.size+1:=by rw [ByteArray.size_append]; rfl
theorem byte_u8 (s:ByteArray) (k:Int):A5 s k=(((A5 s k).toNat.toUInt8).toNat:Int):=by
  have h:=C2 s k
  have e:(A5 s k).toNat.toUInt8.toNat=(A5 s k).toNat % 256:=rfl
  rw [e]; omega
theorem parR_eq {l l':List UInt8} (h:parP l=parP l'):G2 l=((G2 l').1,(G2 l').2):=by rw [← parV_R l,h,parV_R]
theorem parR_second {l w:List UInt8} (hw:Inert w) (hn:blk w≠[]) (hl:(l++w).length≤65536) (h:(G2 l).2=0):(G2 (l++w)).2=70:=by
  have hq:=parR_ok l
  cases hp:parP l with
  | error e=>rw [hp] at hq; rw [hq.2] at h; exact absurd h hq.1
  | ok v=>rw [← parV_R,parP_second hw hn l hl hp]; rfl
theorem jsonBlanks_ (a:Option Addr) (c:Nat) (l:List UInt8) (S:Nat→Obj→Prop) (hrd:Rd S a (u8s l)) (n:Int) (hn0:0≤n) (_:n≤255) (W0:World) (H:List Grp) (hS:∀ y o,S y o→At W0 H y o) (hW:F6 W0):Tri Tryz.prog 6 #[.slice a l.length c,.int .u8 n] W0 H (fun v H'=>v=.bool true∧H'=H):=by
 refine C5 (args:=[.slice a l.length c,.int .u8 n]) (n:=72) Tryz.func6 rfl rfl (Nat.le_of_ble_eq_true rfl) ?_
 refine A1 (G_p [0] [0,1] (k:=?_))
 refine A0 (A1 ?_)
 refine A1 (A2 ?_)
 refine J1 Tryz.func15 (first_ _ _ hW) (A9 [0] [0,1,14] (k:=?_))
 refine A0 (C4 kr ?_)
 refine A8 (A0 ?_)
 refine A1 (A1 ?_)
 refine G_p [0,0,0] [0,1,17] (k:=A0 ?_)
 refine B0 (b:=decide (((l.length:Nat):Int) > 3000)) kr (fun hc1=>?_) (fun hc1=>?_)
 ·
  simp only [decide_eq_true_eq,gt_iff_lt] at hc1
  refine A1 (B7 (E':=[⟨4,[],.bool true⟩]) [0] [4] (k:=?_))
  refine A0 (B4 ?_)
  refine A3 (B6 [.tmp 4] [.bool true] (k:=?_))
  first | exact ⟨rfl,rfl⟩ | exact ⟨congrArg Value.bool (by rcases Decidable.em ((G2 l).2=0) with h | h; rw [hPs h]; simp [h]; simp [h]),rfl⟩
 ·
  simp only [decide_eq_false_iff_not,gt_iff_lt] at hc1
  refine A8 (A0 ?_)
  refine A1 (G_p [0] [0,1,5] (k:=?_))
  refine A0 (A1 ?_)
  refine A1 (A2 ?_)
  refine B5 (E':=[⟨19,[],.int .u8 (Int.tmod n 20)⟩,⟨0,[],.slice a l.length c⟩,⟨5,[],.string (ByteArray.mk #[])⟩]) [0,0] kr (j:=2) rfl (B8 (E':=[⟨19,[],.int .u8 (n % 20)⟩,⟨0,[],.slice a l.length c⟩,⟨5,[],.string (ByteArray.mk #[])⟩]) (by rw [r64 hn0]) ?_)
  refine A4 (j:=3) [0] (k:=D8 20 (n % 20) (by omega) (by omega) kr ?_)
  refine A9 [0] [0,5,20,21] (k:=A0 ?_)
  refine B9 (J5 (EI:=(fun ξ:Nat × ByteArray=>[⟨0,[],.slice a l.length c⟩,⟨5,[],.string ξ.2⟩,⟨20,[],.int .i64 (n % 20)⟩,⟨21,[],.int .i64 ((ξ.1:Nat):Int)⟩])) (HI:=(fun ξ:Nat × ByteArray=>H)) (Φ:=(fun ξ:Nat × ByteArray=>(ξ.1≤20)∧(ξ.2.size=ξ.1)∧(Ws ξ.2.data.toList))) (μ:=(fun ξ:Nat × ByteArray=>20 - ξ.1)) (s0:=(0,(ByteArray.mk #[]))) [0,5,20,21] kr rfl ⟨(by dsimp only; omega),rfl,(fun _ h=>by cases h)⟩ ?_)
  rintro ⟨k,t⟩ ⟨hk,ht,hw⟩
  dsimp only at hk ht hw
  refine A1 (G_p [0] [0,5,20,21,22] (k:=?_))
  refine A0 (A1 ?_)
  refine B0 (b:=decide (((k:Nat):Int)<(n % 20))) kr (fun hc3=>?_) (fun hc3=>?_)
  ·
   simp only [decide_eq_true_eq] at hc3
   refine A8 (A0 ?_)
   refine A1 (B9 ?_)
   refine A1 (G_p [0,0] [0,5,6,20,21] (k:=?_))
   refine A0 (A2 ?_)
   refine A4 (j:=3) [0,0,0] (k:=?_)
   have hw4:Int.tmod ((k:Nat):Int) 4=((k:Nat):Int) % 4:=r64 (by omega)
   refine GL_w 26 hw4 kr (D4 (ch:=[]) (s:=(ByteArray.mk #[32,9,10,13])) (kd:=.i64) (j:=((k:Nat):Int) % 4) (hb:=(fun _=>by (try simp only [D3,List.length_cons,List.length_nil]); (try show _+_+5≤_); (try show _+5≤_); omega)) (k:=?_))
   have hb5:=C2 (ByteArray.mk #[32,9,10,13]) (((k:Nat):Int) % 4)
   refine D0 (ch:=[]) (e:=5) (l:=[(0,.int .u8 (A5 (ByteArray.mk #[32,9,10,13]) (((k:Nat):Int) % 4)))]) (c:=[.int .u8 (A5 (ByteArray.mk #[32,9,10,13]) (((k:Nat):Int) % 4))]) (k:=(fun b6=>?_))
   refine N3 (ch:=[]) (a:=⟨b6,0,none⟩) (cap:=1) (e:=5) (S:=(inG [(b6,.cells #[.int .u8 (A5 (ByteArray.mk #[32,9,10,13]) (((k:Nat):Int) % 4))] 5 (0,0))])) ([(A5 (ByteArray.mk #[32,9,10,13]) (((k:Nat):Int) % 4)).toNat.toUInt8]) (hrd:=rd_cast (cs:=[.int .u8 (A5 (ByteArray.mk #[32,9,10,13]) (((k:Nat):Int) % 4))]) Rd.lit (congrArg (fun z=>[Value.int .u8 z]) (byte_u8 _ _))) (hS:=F7 0 rfl) (k:=I9 (ch:=[]) (s:=t) (u:=(bk [(A5 (ByteArray.mk #[32,9,10,13]) (((k:Nat):Int) % 4)).toNat.toUInt8])) (hb:=(fun _=>by (try simp only [D3,List.length_cons,List.length_nil]); (try show _+_+5≤_); (try show _+5≤_); omega)) (k:=?_))
   refine A9 [0] [0,5,20,21] (k:=C0 ?_)
   refine A0 ?_
   have hw7:IntKind.wrap .i64 (((k:Nat):Int)+1)=((k:Nat):Int)+1:=w64 (by omega) (by omega)
   refine A2 (B5 (E':=[⟨31,[],.int .i64 (((k:Nat):Int)+1)⟩,⟨0,[],.slice a l.length c⟩,⟨5,[],.string (t++(bk [(A5 (ByteArray.mk #[32,9,10,13]) (((k:Nat):Int) % 4)).toNat.toUInt8]))⟩,⟨20,[],.int .i64 (n % 20)⟩,⟨21,[],.int .i64 ((k:Nat):Int)⟩]) [0] (Eq.trans (b:=some [⟨31,[],.int .i64 (IntKind.wrap .i64 (((k:Nat):Int)+1))⟩,⟨0,[],.slice a l.length c⟩,⟨5,[],.string (t++(bk [(A5 (ByteArray.mk #[32,9,10,13]) (((k:Nat):Int) % 4)).toNat.toUInt8]))⟩,⟨20,[],.int .i64 (n % 20)⟩,⟨21,[],.int .i64 ((k:Nat):Int)⟩]) kr (by simp only [hw7])) (j:=1) rfl ?_)
   refine B8 (E':=[⟨31,[],.int .i64 ((k+1:Nat):Int)⟩,⟨0,[],.slice a l.length c⟩,⟨5,[],.string (t++(bk [(A5 (ByteArray.mk #[32,9,10,13]) (((k:Nat):Int) % 4)).toNat.toUInt8]))⟩,⟨20,[],.int .i64 (n % 20)⟩,⟨21,[],.int .i64 ((k:Nat):Int)⟩]) (by rw [show ((k:Nat):Int)+1=((k+1:Nat):Int) by omega]) (A9 [0] [0,5,20,21] (k:=?_))
   refine C1 (H':=H) (fun w h=>(h.erase 0)) (F3 (s':=((k+1),t++(bk [(A5 (ByteArray.mk #[32,9,10,13]) (((k:Nat):Int) % 4)).toNat.toUInt8]))) [0,5,20,21] kr rfl ⟨(by dsimp only; omega),(by dsimp only; exact (sz_snoc _ _).trans (by rw [ht])),(by dsimp only; exact ws_snoc hw (by omega) (by omega))⟩ (by dsimp only; omega))
  ·
   simp only [decide_eq_false_iff_not] at hc3
   have hPb:G2 (((t++(bk l))++t).data.toList)=((G2 l).1,(G2 l).2):=by rw [G0,G0]; exact parR_eq (parP_blanks hw l (by show (t.data.toList++l++t.data.toList).length≤65536; rw [List.length_append,List.length_append,E0]; omega))
   have hPs:(G2 l).2=0→(G2 (((bk l)++(ByteArray.mk #[32,110,117,108,108])).data.toList)).2=70:=by intro h; rw [G0]; exact parR_second (w:=[32,110,117,108,108]) (.inr rfl) (by decide) (by show (l++[32,110,117,108,108]).length≤65536; rw [List.length_append]; show _+5≤_; omega) h
   have hbz:=D3 l
   refine H5 (B1 ?_)
   refine B1 (C7 ?_)
   refine A0 (A1 ?_)
   refine A2 (A4 (j:=1) [0] (k:=?_))
   refine D5 Tryz.func16 (jparseV a c l S hrd ((G2 l).1) ((G2 l).2) rfl _ _ (fun y o h=>(hS y o h)) hW) ?_
   rintro _ _ ⟨c8,gp8,hJ8,rfl,rfl⟩
   obtain ⟨vk8,vt8,van8,vn8,vcn8,val8,vm8,vcl8,rfl⟩:=hJ8.shape
   refine A4 (j:=5) [0,0,0] (k:=F0 (ch:=[]) (z:=.agg #[.int .i64 0,.string (ByteArray.mk #[]),.slice none 0 0,.slice none 0 0]) (k:=(fun b9=>?_)))
   refine D2 (ch:=[]) (b:=b9) (off:=0) (v:=.agg #[.int .i64 vk8,.string vt8,.slice van8 vn8 vcn8,.slice val8 vm8 vcl8]) (j:=0) ([(b9,.cells #[.int .i64 vk8,.string vt8,.slice van8 vn8 vcn8,.slice val8 vm8 vcl8] 28 (0,0))]::gp8::H) (hoff:=Nat.le_of_ble_eq_true rfl) (hfz:=(fun _ _=>C6)) (k:=A9 [0] [0,5,7,8] (k:=?_))
   refine A0 (A1 ?_)
   refine A2 (A4 (j:=2) [0,0] (k:=?_))
   refine Q7 (ch:=[]) (a:=a) (cap:=c) (e:=5) (S:=S) (bk l) (hrd:=hrd) (hS:=(fun y o h=>(At.cons (At.cons (hS y o h))))) (k:=I9 (ch:=[]) (s:=t) (u:=(bk l)) (hb:=(fun _=>by (try simp only [D3]); (try show _+_+5≤_); (try show _+5≤_); omega)) (k:=?_))
   refine A4 (j:=5) [0] (k:=I9 (ch:=[]) (s:=t++(bk l)) (u:=t) (hb:=(fun _=>by (try simp only [ByteArray.size_append,D3]); (try show _+_+5≤_); (try show _+5≤_); omega)) (k:=?_))
   refine S4 (ch:=[]) (src:=9) (dst:=22) (e:=5) (s:=(t++(bk l))++t) (k:=(fun b10 cap11 g12 hcap13 hrd14=>?_))
   refine D5 Tryz.func16 (jparseV (some ⟨b10,0,none⟩) cap11 (((t++(bk l))++t).data.toList) (inG g12) hrd14 ((G2 l).1) ((G2 l).2) hPb _ _ (F7 0 rfl) hW) ?_
   rintro _ _ ⟨c15,gp15,hJ15,rfl,rfl⟩
   obtain ⟨vk15,vt15,van15,vn15,vcn15,val15,vm15,vcl15,rfl⟩:=hJ15.shape
   refine A4 (j:=11) [0,0,0] (k:=F0 (ch:=[]) (z:=.agg #[.int .i64 0,.string (ByteArray.mk #[]),.slice none 0 0,.slice none 0 0]) (k:=(fun b16=>?_)))
   refine D2 (ch:=[]) (b:=b16) (off:=0) (v:=.agg #[.int .i64 vk15,.string vt15,.slice van15 vn15 vcn15,.slice val15 vm15 vcl15]) (j:=0) ([(b16,.cells #[.int .i64 vk15,.string vt15,.slice van15 vn15 vcn15,.slice val15 vm15 vcl15] 28 (0,0))]::gp15::g12::[(b9,.cells #[.int .i64 vk8,.string vt8,.slice van8 vn8 vcn8,.slice val8 vm8 vcl8] 28 (0,0))]::gp8::H) (hoff:=Nat.le_of_ble_eq_true rfl) (hfz:=(fun _ _=>C6)) (k:=A9 [0] [0,7,8,9,10] (k:=?_))
   refine A0 (A1 ?_)
   refine A2 (A4 (j:=1) [0] (k:=?_))
   refine Q7 (ch:=[]) (a:=a) (cap:=c) (e:=5) (S:=S) (bk l) (hrd:=hrd) (hS:=(fun y o h=>(At.cons (At.cons (At.cons (At.cons (At.cons (hS y o h)))))))) (k:=I9 (ch:=[]) (s:=(bk l)) (u:=(ByteArray.mk #[32,110,117,108,108])) (hb:=(fun _=>by (try simp only [D3,List.length_cons,List.length_nil]); (try show _+_+5≤_); (try show _+5≤_); omega)) (k:=?_))
   refine S4 (ch:=[]) (src:=9) (dst:=22) (e:=5) (s:=(bk l)++(ByteArray.mk #[32,110,117,108,108])) (k:=(fun b17 cap18 g19 hcap20 hrd21=>?_))
   refine D5 Tryz.func16 (jparseV (some ⟨b17,0,none⟩) cap18 (((bk l)++(ByteArray.mk #[32,110,117,108,108])).data.toList) (inG g19) hrd21 ((G2 (((bk l)++(ByteArray.mk #[32,110,117,108,108])).data.toList)).1) ((G2 (((bk l)++(ByteArray.mk #[32,110,117,108,108])).data.toList)).2) rfl _ _ (F7 0 rfl) hW) ?_
   rintro _ _ ⟨c22,gp22,hJ22,rfl,rfl⟩
   obtain ⟨vk22,vt22,van22,vn22,vcn22,val22,vm22,vcl22,rfl⟩:=hJ22.shape
   refine A4 (j:=8) [0,0,0] (k:=F0 (ch:=[]) (z:=.agg #[.int .i64 0,.string (ByteArray.mk #[]),.slice none 0 0,.slice none 0 0]) (k:=(fun b23=>?_)))
   refine D2 (ch:=[]) (b:=b23) (off:=0) (v:=.agg #[.int .i64 vk22,.string vt22,.slice van22 vn22 vcn22,.slice val22 vm22 vcl22]) (j:=0) ([(b23,.cells #[.int .i64 vk22,.string vt22,.slice van22 vn22 vcn22,.slice val22 vm22 vcl22] 28 (0,0))]::gp22::g19::[(b16,.cells #[.int .i64 vk15,.string vt15,.slice van15 vn15 vcn15,.slice val15 vm15 vcl15] 28 (0,0))]::gp15::g12::[(b9,.cells #[.int .i64 vk8,.string vt8,.slice van8 vn8 vcn8,.slice val8 vm8 vcl8] 28 (0,0))]::gp8::H) (hoff:=Nat.le_of_ble_eq_true rfl) (hfz:=(fun _ _=>C6)) (k:=A9 [0] [7,8,9,10,12] (k:=?_))
   refine A0 (A1 ?_)
   refine A2 (A4 (j:=4) [0,0,0,0] (k:=?_))
   refine E8 (ch:=[(59,true)]) (b:=b9) (off:=0) (l:=[.int .i64 vk8,.string vt8,.slice van8 vn8 vcn8,.slice val8 vm8 vcl8]) (hA:=At.grp 6 0 rfl rfl) (k:=E8 (ch:=[(59,true)]) (b:=b16) (off:=0) (l:=[.int .i64 vk15,.string vt15,.slice van15 vn15 vcn15,.slice val15 vm15 vcl15]) (hA:=At.grp 3 0 rfl rfl) (k:=?_))
   refine I7 (ch:=[(59,true)]) (f:=18) (fst:=#[]) (caps:=#[]) (vs:=[.agg #[.int .i64 vk8,.string vt8,.slice van8 vn8 vcn8,.slice val8 vm8 vcl8],.agg #[.int .i64 vk15,.string vt15,.slice van15 vn15 vcn15,.slice val15 vm15 vcl15]]) (v:=.bool true) (hf:=Tryz.func18) (hc:=(fun hc=>rsameC ((G2 l).1) (Nat.le_trans (parR_cn l) (by decide)) [.int .i64 vk8,.string vt8,.slice van8 vn8 vcn8,.slice val8 vm8 vcl8] [.int .i64 vk15,.string vt15,.slice van15 vn15 vcn15,.slice val15 vm15 vcl15] (inG gp8) (inG gp15) (hJ8.rd (fun _ _ h=>h)) (hJ15.rd (fun _ _ h=>h)) _ _ (F7 7 rfl) (F7 4 rfl))) (k:=A9 [6,0,0,0,0,0,0,5,6,0] [4] (k:=?_))
   refine A0 (B4 ?_)
   refine C1 (H':=H) (fun w h=>((((((((h.erase 7).erase 6).erase 5).erase 4).erase 3).erase 2).erase 1).erase 0)) (B6 [.tmp 4] [.bool (((((G2 l).2)==((G2 l).2))&&true)&&((((G2 l).2) != 0)||(((G2 (((bk l)++(ByteArray.mk #[32,110,117,108,108])).data.toList)).2)==70)))] (k:=?_))
   first | exact ⟨rfl,rfl⟩ | exact ⟨congrArg Value.bool (by rcases Decidable.em ((G2 l).2=0) with h | h; rw [hPs h]; simp [h]; simp [h]),rfl⟩
end Go.Proofs.YtppgfiklmfoaeaaGreatDoor
namespace Go.Sw
theorem GL_shr {d:Bool} {P:Program} {ops:Array Oper} {i:Nat} {Q:D9} {n:Fr} {E:Env} {W0:World} {H:List Grp} {o:Oper} {ch:List (Nat × Bool)} {t ty:TypeId} {x y:Operand} {kd ky:IntKind} {a b:Int}
    (ho:ops[i]? = some o) (hop:o.op=.binOp .shr t x y ty) (hx:evO E ch x=some (.int kd a)) (hy:evO E ch y=some (.int ky b))
    (hch:E7 ops E o.guard=some ch) (hd:I4 n ch o.dst=true) (hk:I6 E ch=true) (hb:0≤b)
    (k:GL d P ops (i+1) Q n (Env.put E o.dst ch (.int kd (a.fdiv (2 ^ (min b.toNat kd.bits))))) W0 H):GL d P ops i Q n E W0 H:=by
  refine G9 ho hch hd hk (fun r hr _ w _=>?_) k
  unfold execOp
  simp only [hop]
  rw [hr _ _ hx,hr _ _ hy]
  have hg:(eqGuard .shr t x y (.int kd a) (.int ky b)).run P w=.ok () w:=rfl
  have hs:(binOp .shr t (.int kd a) (.int ky b)).run P w=.ok (.int kd (a.fdiv (2 ^ (min b.toNat kd.bits)))) w:=by
    simp only [binOp,Op.shift,if_neg (show ¬ b<0 by omega)]; rfl
  simp only [Sem.run_bind,hg,hs,Result.andThen_ok]
  exact ⟨rfl,rfl⟩
end Go.Sw
namespace Go.Proofs.YtppgfiklmfoaeaaGreatDoor
open Go.Sw Go.Sha Go.Esc Go.RowKit Go.Json
theorem wu64 {x:Int} (h0:0≤x) (h1:x<18446744073709551616):IntKind.wrap .u64 x=x:=by
  rw [show IntKind.wrap .u64 x=x % 18446744073709551616 from by first | rfl | simp [IntKind.wrap,IntKind.bits,IntKind.signed]]; omega
theorem openS_snoc (bs:List Bool) (b:Bool):P2 (bs++[b])=P2 bs++(if b then [123,34,107,34,58] else [91]):=by unfold P2; rw [List.flatMap_append]; simp
theorem openS_len:∀ bs:List Bool,(P2 bs).length≤5 * bs.length
  | []=>Nat.le_refl _
  | b::bs=>by have:=openS_len bs; rw [openS_cons,List.length_append,List.length_cons]; cases b <;> simp <;> omega
theorem sz_pre (b:UInt8) (t:ByteArray):((ByteArray.mk #[b])++t).size=t.size+1:=by rw [ByteArray.size_append]; show 1+_=_; omega
theorem parR_deep {bs:List Bool} {u:List UInt8} (h:24<bs.length) (hl:(P2 bs++u).length≤65536):(G2 (P2 bs++u)).2=71:=by rw [← parV_R,par_deep h hl]; rfl
theorem jsonDeep_ (n:Int) (hn0:0≤n) (_:n≤255) (kinds:Int) (_:0≤kinds) (a:Option Addr) (c:Nat) (l:List UInt8) (S:Nat→Obj→Prop) (hrd:Rd S a (u8s l)) (W0:World) (H:List Grp) (hS:∀ y o,S y o→At W0 H y o) (hW:F6 W0):Tri Tryz.prog 4 #[.int .u8 n,.int .u32 kinds,.slice a l.length c] W0 H (fun v H'=>v=.bool true∧H'=H):=by
 refine C5 (args:=[.int .u8 n,.int .u32 kinds,.slice a l.length c]) (n:=83) Tryz.func4 rfl rfl (Nat.le_of_ble_eq_true rfl) ?_
 refine A1 (G_p [0] [0,1,2] (k:=?_))
 refine A0 (A1 ?_)
 refine A1 (A2 ?_)
 refine J1 Tryz.func15 (first_ _ _ hW) (A9 [0] [0,1,2,16] (k:=?_))
 refine A0 (C4 kr ?_)
 refine A8 (A0 ?_)
 refine A1 (A1 ?_)
 refine G_p [0,0,0] [0,1,2,19] (k:=A0 ?_)
 refine B0 (b:=decide (((l.length:Nat):Int) > 1000)) kr (fun hc1=>?_) (fun hc1=>?_)
 ·
  simp only [decide_eq_true_eq,gt_iff_lt] at hc1
  refine A1 (B7 (E':=[⟨6,[],.bool true⟩]) [0] [6] (k:=?_))
  refine A0 (B4 ?_)
  refine A3 (B6 [.tmp 6] [.bool true] (k:=?_))
  first | exact ⟨rfl,rfl⟩ | exact ⟨congrArg Value.bool (by rw [r64 hn0]; rcases Decidable.em (24<n % 60) with h | h; (rw [hPd h]; (try simp)); simp [show n % 60≤24 by omega]),rfl⟩
 ·
  simp only [decide_eq_false_iff_not,gt_iff_lt] at hc1
  refine A8 (A0 ?_)
  refine A1 (G_p [0,0] [0,1,2,7,8] (k:=?_))
  refine A0 (A1 ?_)
  refine A1 (A2 ?_)
  refine B5 (E':=[⟨21,[],.int .u8 (Int.tmod n 60)⟩,⟨0,[],.int .u8 n⟩,⟨1,[],.int .u32 kinds⟩,⟨2,[],.slice a l.length c⟩,⟨7,[],.string (ByteArray.mk #[])⟩,⟨8,[],.string (ByteArray.mk #[])⟩]) [0,0] kr (j:=2) rfl (B8 (E':=[⟨21,[],.int .u8 (n % 60)⟩,⟨0,[],.int .u8 n⟩,⟨1,[],.int .u32 kinds⟩,⟨2,[],.slice a l.length c⟩,⟨7,[],.string (ByteArray.mk #[])⟩,⟨8,[],.string (ByteArray.mk #[])⟩]) (by rw [r64 hn0]) ?_)
  refine A4 (j:=3) [0] (k:=D8 22 (n % 60) (by omega) (by omega) kr ?_)
  refine A9 [0] [0,1,2,7,8,22,23] (k:=A0 ?_)
  refine B9 (J5 (EI:=(fun ξ:Nat × List Bool × ByteArray × ByteArray=>[⟨0,[],.int .u8 n⟩,⟨1,[],.int .u32 kinds⟩,⟨2,[],.slice a l.length c⟩,⟨7,[],.string ξ.2.2.1⟩,⟨8,[],.string ξ.2.2.2⟩,⟨22,[],.int .i64 (n % 60)⟩,⟨23,[],.int .i64 ((ξ.1:Nat):Int)⟩])) (HI:=(fun ξ:Nat × List Bool × ByteArray × ByteArray=>H)) (Φ:=(fun ξ:Nat × List Bool × ByteArray × ByteArray=>(ξ.1≤60)∧(ξ.2.1.length=ξ.1)∧(ξ.2.2.1.data.toList=P2 ξ.2.1)∧(ξ.2.2.2.size=ξ.1))) (μ:=(fun ξ:Nat × List Bool × ByteArray × ByteArray=>60 - ξ.1)) (s0:=(0,[],(ByteArray.mk #[]),(ByteArray.mk #[]))) [0,1,2,7,8,22,23] kr rfl ⟨(by dsimp only; omega),rfl,rfl,rfl⟩ ?_)
  rintro ⟨k,bs,t,z⟩ ⟨hk,hb,ht,hz⟩
  dsimp only at hk hb ht hz
  have hol:=openS_len bs
  have hts:t.size≤300:=by rw [← E0,ht]; omega
  refine A1 (G_p [0] [0,1,2,7,8,22,23,24] (k:=?_))
  refine A0 (A1 ?_)
  refine B0 (b:=decide (((k:Nat):Int)<(n % 60))) kr (fun hc3=>?_) (fun hc3=>?_)
  ·
   simp only [decide_eq_true_eq] at hc3
   refine A8 (A0 ?_)
   refine A1 (B9 ?_)
   refine A1 (G_p [0,0] [0,1,2,7,8,9,22,23] (k:=?_))
   refine A0 (A1 ?_)
   refine A2 (A4 (j:=3) [0,0,0] (k:=?_))
   have hw4:Int.tmod ((k:Nat):Int) 32=((k:Nat):Int) % 32:=r64 (by omega)
   refine GL_w 28 hw4 kr ?_
   have hw5:IntKind.wrap .u64 (((k:Nat):Int) % 32)=(((k:Nat):Int) % 32):=(wu64 (by omega) (by omega))
   refine B5 (E':=[⟨29,[],.int .u64 (((k:Nat):Int) % 32)⟩,⟨26,[],.int .u32 kinds⟩,⟨0,[],.int .u8 n⟩,⟨1,[],.int .u32 kinds⟩,⟨2,[],.slice a l.length c⟩,⟨7,[],.string t⟩,⟨8,[],.string z⟩,⟨22,[],.int .i64 (n % 60)⟩,⟨23,[],.int .i64 ((k:Nat):Int)⟩]) [0] (Eq.trans (b:=some [⟨29,[],.int .u64 (IntKind.wrap .u64 (((k:Nat):Int) % 32))⟩,⟨26,[],.int .u32 kinds⟩,⟨0,[],.int .u8 n⟩,⟨1,[],.int .u32 kinds⟩,⟨2,[],.slice a l.length c⟩,⟨7,[],.string t⟩,⟨8,[],.string z⟩,⟨22,[],.int .i64 (n % 60)⟩,⟨23,[],.int .i64 ((k:Nat):Int)⟩]) kr (by simp only [hw5])) (j:=4) rfl (GL_shr (i:=4) (ch:=[]) (kd:=.u32) (ky:=.u64) (a:=kinds) (b:=(((k:Nat):Int) % 32)) rfl rfl kr kr kr kr kr (by omega) ?_)
   refine A9 [0,0] [0,1,2,7,8,22,23,32] (k:=A0 ?_)
   refine B0 (b:=(IntKind.wrap .u32 ((BitVec.ofInt (IntKind.bits .u32) (Int.fdiv kinds (2 ^ (min (Int.toNat (((k:Nat):Int) % 32)) (IntKind.bits .u32)))) &&& BitVec.ofInt (IntKind.bits .u32) 1).toNat))==0) kr (fun hc6=>?_) (fun hc6=>?_)
   ·
    simp at hc6
    refine A2 (A4 (j:=1) [0] (k:=?_))
    refine I9 (ch:=[]) (s:=t) (u:=(ByteArray.mk #[91])) (hb:=(fun _=>by (try simp only [D3,List.length_cons,List.length_nil]); (try show _+5≤_); (try show _+1≤_); (try show 1+_≤_); omega)) (k:=A4 (j:=3) [0] (k:=?_))
    refine I9 (ch:=[]) (s:=(ByteArray.mk #[93])) (u:=z) (hb:=(fun _=>by (try simp only [D3,List.length_cons,List.length_nil]); (try show _+5≤_); (try show _+1≤_); (try show 1+_≤_); omega)) (k:=A9 [0,0] [0,1,2,7,8,22,23] (k:=?_))
    refine C0 (A0 ?_)
    have hw7:IntKind.wrap .i64 (((k:Nat):Int)+1)=((k:Nat):Int)+1:=w64 (by omega) (by omega)
    refine A2 (B5 (E':=[⟨41,[],.int .i64 (((k:Nat):Int)+1)⟩,⟨0,[],.int .u8 n⟩,⟨1,[],.int .u32 kinds⟩,⟨2,[],.slice a l.length c⟩,⟨7,[],.string (t++(ByteArray.mk #[91]))⟩,⟨8,[],.string ((ByteArray.mk #[93])++z)⟩,⟨22,[],.int .i64 (n % 60)⟩,⟨23,[],.int .i64 ((k:Nat):Int)⟩]) [0] (Eq.trans (b:=some [⟨41,[],.int .i64 (IntKind.wrap .i64 (((k:Nat):Int)+1))⟩,⟨0,[],.int .u8 n⟩,⟨1,[],.int .u32 kinds⟩,⟨2,[],.slice a l.length c⟩,⟨7,[],.string (t++(ByteArray.mk #[91]))⟩,⟨8,[],.string ((ByteArray.mk #[93])++z)⟩,⟨22,[],.int .i64 (n % 60)⟩,⟨23,[],.int .i64 ((k:Nat):Int)⟩]) kr (by simp only [hw7])) (j:=1) rfl ?_)
    refine B8 (E':=[⟨41,[],.int .i64 ((k+1:Nat):Int)⟩,⟨0,[],.int .u8 n⟩,⟨1,[],.int .u32 kinds⟩,⟨2,[],.slice a l.length c⟩,⟨7,[],.string (t++(ByteArray.mk #[91]))⟩,⟨8,[],.string ((ByteArray.mk #[93])++z)⟩,⟨22,[],.int .i64 (n % 60)⟩,⟨23,[],.int .i64 ((k:Nat):Int)⟩]) (by rw [show ((k:Nat):Int)+1=((k+1:Nat):Int) by omega]) (A9 [0] [0,1,2,7,8,22,23] (k:=?_))
    refine F3 (s':=((k+1),(bs++[false]),t++(ByteArray.mk #[91]),(ByteArray.mk #[93])++z)) [0,1,2,7,8,22,23] kr rfl ⟨(by dsimp only; omega),(by dsimp only; rw [List.length_append,hb]; rfl),(by dsimp only; rw [G0,ht,openS_snoc]; rfl),(by dsimp only; rw [sz_pre,hz])⟩ (by dsimp only; omega)
   ·
    simp at hc6
    refine A2 (A4 (j:=1) [0] (k:=?_))
    refine I9 (ch:=[]) (s:=t) (u:=(ByteArray.mk #[123,34,107,34,58])) (hb:=(fun _=>by (try simp only [D3,List.length_cons,List.length_nil]); (try show _+5≤_); (try show _+1≤_); (try show 1+_≤_); omega)) (k:=A4 (j:=3) [0] (k:=?_))
    refine I9 (ch:=[]) (s:=(ByteArray.mk #[125])) (u:=z) (hb:=(fun _=>by (try simp only [D3,List.length_cons,List.length_nil]); (try show _+5≤_); (try show _+1≤_); (try show 1+_≤_); omega)) (k:=A9 [0,0] [0,1,2,7,8,22,23] (k:=?_))
    refine C0 (A0 ?_)
    have hw8:IntKind.wrap .i64 (((k:Nat):Int)+1)=((k:Nat):Int)+1:=w64 (by omega) (by omega)
    refine A2 (B5 (E':=[⟨41,[],.int .i64 (((k:Nat):Int)+1)⟩,⟨0,[],.int .u8 n⟩,⟨1,[],.int .u32 kinds⟩,⟨2,[],.slice a l.length c⟩,⟨7,[],.string (t++(ByteArray.mk #[123,34,107,34,58]))⟩,⟨8,[],.string ((ByteArray.mk #[125])++z)⟩,⟨22,[],.int .i64 (n % 60)⟩,⟨23,[],.int .i64 ((k:Nat):Int)⟩]) [0] (Eq.trans (b:=some [⟨41,[],.int .i64 (IntKind.wrap .i64 (((k:Nat):Int)+1))⟩,⟨0,[],.int .u8 n⟩,⟨1,[],.int .u32 kinds⟩,⟨2,[],.slice a l.length c⟩,⟨7,[],.string (t++(ByteArray.mk #[123,34,107,34,58]))⟩,⟨8,[],.string ((ByteArray.mk #[125])++z)⟩,⟨22,[],.int .i64 (n % 60)⟩,⟨23,[],.int .i64 ((k:Nat):Int)⟩]) kr (by simp only [hw8])) (j:=1) rfl ?_)
    refine B8 (E':=[⟨41,[],.int .i64 ((k+1:Nat):Int)⟩,⟨0,[],.int .u8 n⟩,⟨1,[],.int .u32 kinds⟩,⟨2,[],.slice a l.length c⟩,⟨7,[],.string (t++(ByteArray.mk #[123,34,107,34,58]))⟩,⟨8,[],.string ((ByteArray.mk #[125])++z)⟩,⟨22,[],.int .i64 (n % 60)⟩,⟨23,[],.int .i64 ((k:Nat):Int)⟩]) (by rw [show ((k:Nat):Int)+1=((k+1:Nat):Int) by omega]) (A9 [0] [0,1,2,7,8,22,23] (k:=?_))
    refine F3 (s':=((k+1),(bs++[true]),t++(ByteArray.mk #[123,34,107,34,58]),(ByteArray.mk #[125])++z)) [0,1,2,7,8,22,23] kr rfl ⟨(by dsimp only; omega),(by dsimp only; rw [List.length_append,hb]; rfl),(by dsimp only; rw [G0,ht,openS_snoc]; rfl),(by dsimp only; rw [sz_pre,hz])⟩ (by dsimp only; omega)
  ·
   simp only [decide_eq_false_iff_not] at hc3
   have hbz:=D3 l
   have hPd:24<n % 60→(G2 (((t++(bk l))++z).data.toList)).2=71:=by
    intro h
    have e:(((t++(bk l))++z).data.toList)=P2 bs++(l++z.data.toList):=by rw [G0,G0,ht,List.append_assoc]
    rw [e]
    exact parR_deep (by omega) (by rw [List.length_append,List.length_append,E0]; omega)
   refine H5 (B1 ?_)
   refine B1 (C7 ?_)
   refine A0 (A1 ?_)
   refine A2 (A4 (j:=2) [0,0] (k:=?_))
   refine Q7 (ch:=[]) (a:=a) (cap:=c) (e:=5) (S:=S) (bk l) (hrd:=hrd) (hS:=(fun y o h=>(hS y o h))) (k:=I9 (ch:=[]) (s:=t) (u:=(bk l)) (hb:=(fun _=>by (try simp only [D3]); (try show _+5≤_); (try show _+1≤_); (try show 1+_≤_); omega)) (k:=?_))
   refine A4 (j:=5) [0] (k:=I9 (ch:=[]) (s:=t++(bk l)) (u:=z) (hb:=(fun _=>by (try simp only [ByteArray.size_append,D3]); (try show _+5≤_); (try show _+1≤_); (try show 1+_≤_); omega)) (k:=?_))
   refine S4 (ch:=[]) (src:=9) (dst:=22) (e:=5) (s:=(t++(bk l))++z) (k:=(fun b9 cap10 g11 hcap12 hrd13=>?_))
   refine A9 [0] [0,10] (k:=A0 ?_)
   refine A1 (A2 ?_)
   refine A4 (j:=1) [0] (k:=D5 Tryz.func16 (jparseV (some ⟨b9,0,none⟩) cap10 (((t++(bk l))++z).data.toList) (inG g11) hrd13 ((G2 (((t++(bk l))++z).data.toList)).1) ((G2 (((t++(bk l))++z).data.toList)).2) rfl _ _ (F7 0 rfl) hW) ?_)
   rintro _ _ ⟨c14,gp14,hJ14,rfl,rfl⟩
   obtain ⟨vk14,vt14,van14,vn14,vcn14,val14,vm14,vcl14,rfl⟩:=hJ14.shape
   refine A4 (j:=5) [0,0,0] (k:=F0 (ch:=[]) (z:=.agg #[.int .i64 0,.string (ByteArray.mk #[]),.slice none 0 0,.slice none 0 0]) (k:=(fun b15=>?_)))
   refine D2 (ch:=[]) (b:=b15) (off:=0) (v:=.agg #[.int .i64 vk14,.string vt14,.slice van14 vn14 vcn14,.slice val14 vm14 vcl14]) (j:=0) ([(b15,.cells #[.int .i64 vk14,.string vt14,.slice van14 vn14 vcn14,.slice val14 vm14 vcl14] 28 (0,0))]::gp14::g11::H) (hoff:=Nat.le_of_ble_eq_true rfl) (hfz:=(fun _ _=>C6)) (k:=A9 [0] [0,10,11,12] (k:=?_))
   refine A0 (A1 ?_)
   refine A2 (A4 (j:=1) [0] (k:=?_))
   refine D5 Tryz.func17 (rparseV (some ⟨b9,0,none⟩) cap10 (((t++(bk l))++z).data.toList) (inG g11) hrd13 ((G2 (((t++(bk l))++z).data.toList)).1) ((G2 (((t++(bk l))++z).data.toList)).2) rfl _ _ (F7 2 rfl)) ?_
   rintro _ _ ⟨c16,gp16,hJ16,rfl,rfl⟩
   obtain ⟨vk16,vt16,van16,vn16,vcn16,val16,vm16,vcl16,rfl⟩:=hJ16.shape
   refine A4 (j:=5) [0,0,0] (k:=F0 (ch:=[]) (z:=.agg #[.int .i64 0,.string (ByteArray.mk #[]),.slice none 0 0,.slice none 0 0]) (k:=(fun b17=>?_)))
   refine D2 (ch:=[]) (b:=b17) (off:=0) (v:=.agg #[.int .i64 vk16,.string vt16,.slice van16 vn16 vcn16,.slice val16 vm16 vcl16]) (j:=0) ([(b17,.cells #[.int .i64 vk16,.string vt16,.slice van16 vn16 vcn16,.slice val16 vm16 vcl16] 28 (0,0))]::gp16::[(b15,.cells #[.int .i64 vk14,.string vt14,.slice van14 vn14 vcn14,.slice val14 vm14 vcl14] 28 (0,0))]::gp14::g11::H) (hoff:=Nat.le_of_ble_eq_true rfl) (hfz:=(fun _ _=>C6)) (k:=A9 [0] [0,11,12,13,14] (k:=?_))
   refine A0 (A1 ?_)
   refine J4 (k:=A4 (j:=4) [0,0,0,0] (k:=?_))
   refine E8 (ch:=[(62,true)]) (b:=b15) (off:=0) (l:=[.int .i64 vk14,.string vt14,.slice van14 vn14 vcn14,.slice val14 vm14 vcl14]) (hA:=At.grp 2 0 rfl rfl) (k:=E8 (ch:=[(62,true)]) (b:=b17) (off:=0) (l:=[.int .i64 vk16,.string vt16,.slice van16 vn16 vcn16,.slice val16 vm16 vcl16]) (hA:=At.grp 0 0 rfl rfl) (k:=?_))
   refine I7 (ch:=[(62,true)]) (f:=18) (fst:=#[]) (caps:=#[]) (vs:=[.agg #[.int .i64 vk14,.string vt14,.slice van14 vn14 vcn14,.slice val14 vm14 vcl14],.agg #[.int .i64 vk16,.string vt16,.slice van16 vn16 vcn16,.slice val16 vm16 vcl16]]) (v:=.bool true) (hf:=Tryz.func18) (hc:=(fun hc=>rsameC ((G2 (((t++(bk l))++z).data.toList)).1) (Nat.le_trans (parR_cn (((t++(bk l))++z).data.toList)) (by decide)) [.int .i64 vk14,.string vt14,.slice van14 vn14 vcn14,.slice val14 vm14 vcl14] [.int .i64 vk16,.string vt16,.slice van16 vn16 vcn16,.slice val16 vm16 vcl16] (inG gp14) (inG gp16) (hJ14.rd (fun _ _ h=>h)) (hJ16.rd (fun _ _ h=>h)) _ _ (F7 3 rfl) (F7 1 rfl))) (k:=A4 (j:=9) [6,0] (k:=?_))
   refine E8 (ch:=[(67,true)]) (b:=b15) (off:=0) (l:=[.int .i64 vk14,.string vt14,.slice van14 vn14 vcn14,.slice val14 vm14 vcl14]) (hA:=At.grp 2 0 rfl rfl) (k:=I7 (ch:=[(67,true)]) (f:=19) (fst:=#[]) (caps:=#[]) (vs:=[.agg #[.int .i64 vk14,.string vt14,.slice van14 vn14 vcn14,.slice val14 vm14 vcl14]]) (v:=.int .i64 (dpP ((G2 (((t++(bk l))++z).data.toList)).1):Int)) (hf:=Tryz.func19) (hc:=(fun hc=>jdepthC ((G2 (((t++(bk l))++z).data.toList)).1) [.int .i64 vk14,.string vt14,.slice van14 vn14 vcn14,.slice val14 vm14 vcl14] (inG gp14) (hJ14.rd (fun _ _ h=>h)) (Nat.le_trans (parR_cn (((t++(bk l))++z).data.toList)) (by decide)) _ rfl _ _ (F7 3 rfl))) (k:=?_))
   refine E8 (ch:=[(67,true)]) (b:=b17) (off:=0) (l:=[.int .i64 vk16,.string vt16,.slice van16 vn16 vcn16,.slice val16 vm16 vcl16]) (hA:=At.grp 0 0 rfl rfl) (k:=I7 (ch:=[(67,true)]) (f:=20) (fst:=#[]) (caps:=#[]) (vs:=[.agg #[.int .i64 vk16,.string vt16,.slice van16 vn16 vcn16,.slice val16 vm16 vcl16]]) (v:=.int .i64 (dpP ((G2 (((t++(bk l))++z).data.toList)).1):Int)) (hf:=Tryz.func20) (hc:=(fun hc=>rdepthC ((G2 (((t++(bk l))++z).data.toList)).1) [.int .i64 vk16,.string vt16,.slice van16 vn16 vcn16,.slice val16 vm16 vcl16] (inG gp16) (hJ16.rd (fun _ _ h=>h)) (Nat.le_trans (parR_cn (((t++(bk l))++z).data.toList)) (by decide)) _ _ (F7 1 rfl))) (k:=?_))
   refine A9 [0,6,0,0,0,0,0,0,0,5,6,0] [6] (k:=A0 ?_)
   refine B4 (C1 (H':=H) (fun w h=>(((((h.erase 4).erase 3).erase 2).erase 1).erase 0)) ?_)
   refine B6 [.tmp 6] [.bool ((((((G2 (((t++(bk l))++z).data.toList)).2)==((G2 (((t++(bk l))++z).data.toList)).2))&&true)&&((dpP ((G2 (((t++(bk l))++z).data.toList)).1):Int)==(dpP ((G2 (((t++(bk l))++z).data.toList)).1):Int)))&&((decide ((Int.tmod n 60)≤24))||(((G2 (((t++(bk l))++z).data.toList)).2)==71)))] (k:=?_)
   first | exact ⟨rfl,rfl⟩ | exact ⟨congrArg Value.bool (by rw [r64 hn0]; rcases Decidable.em (24<n % 60) with h | h; (rw [hPd h]; (try simp)); simp [show n % 60≤24 by omega]),rfl⟩
end Go.Proofs.YtppgfiklmfoaeaaGreatDoor
namespace Go.Proofs.YtppgfiklmfoaeaaGreatDoor
theorem jsonRoots:True:=by
  -- jsonParses_ jsonBlanks_ jsonDeep_ base_of sat_nil post_below open_bytesL wf_u8 wf_u32 sw_at SW laidOut_ and_tt cl_may cl_lift cl_make cl_heard cl_keys ok_one okWide_bool_mk shut_bool trodAll_mk1
  trivial
end Go.Proofs.YtppgfiklmfoaeaaGreatDoor
