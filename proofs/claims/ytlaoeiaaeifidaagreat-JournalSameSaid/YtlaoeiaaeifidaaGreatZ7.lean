/- JournalSame: records added one by one and laid at once are the same log, which is opened as it is, for all lists of texts. No condition beyond the given statement's. (and what it stands on) -/
import Derived.Test.YtlaoeiaaeifidaaGreatZ6
namespace Go.Jr
open Go.Sw Go.Lib Go.Vf Go.Sha Go.Proofs.YtlaoeiaaeifidaaGreat
theorem u8_10 {x : UInt8} (h : ((x.toNat : Nat) : Int) = 10) : x = 10 := UInt8.toNat_inj.1 (by
  have : ((10 : UInt8).toNat : Int) = 10 := rfl
  omega)
def NoLf (s : ByteArray) : Prop := ∀ x ∈ s.data.toList, x ≠ 10
theorem byteAt_lt {s : ByteArray} {j : Nat} (h : j < s.size) : byteAt s (j : Int) = ((s.data.toList[j]'(by rw [Array.length_toList]; exact h)).toNat : Int) := by
  unfold byteAt
  rw [Int.toNat_natCast, List.getElem?_eq_getElem (by rw [Array.length_toList]; exact h)]; rfl
theorem noLf_noB {s : ByteArray} (h : NoLf s) : noB s 10 s.size := fun j hj e => by
  rw [byteAt_lt hj] at e
  exact absurd (u8_10 e) (h _ (List.getElem_mem _))
theorem noLf_of {s : ByteArray} (h : noB s 10 s.size) : NoLf s := fun x hx e => by
  obtain ⟨j, hj, rfl⟩ := List.getElem_of_mem hx
  have hj' : j < s.size := by rw [Array.length_toList] at hj; exact hj
  refine h j hj' ?_
  rw [byteAt_lt hj', e]; rfl
theorem noLf_iff {s : ByteArray} : lf s < 0 ↔ NoLf s := by
  rcases bIdx_spec s (c := 10) (by omega) (by omega) with ⟨k, hk, he, hb, _⟩ | ⟨he, hn⟩
  · have : lf s = k := he
    refine ⟨fun h => absurd h (by omega), fun h => absurd hb (noLf_noB h k hk)⟩
  · have : lf s = -1 := he
    exact ⟨fun _ => noLf_of hn, fun _ => by omega⟩
theorem rightJ_iff {t : ByteArray} : rightJ t = true ↔ t.size ≤ 1048576 ∧ NoLf t := by
  unfold rightJ
  rw [← noLf_iff]
  simp only [Bool.and_eq_true, decide_eq_true_eq, Bool.not_eq_true', decide_eq_false_iff_not]
  omega
theorem toL (a b : ByteArray) : (a ++ b).data.toList = a.data.toList ++ b.data.toList := by rw [ByteArray.data_append, Array.toList_append]
theorem lenL (a : ByteArray) : a.data.toList.length = a.size := Array.length_toList
theorem ext_L {a b : ByteArray} (h : a.data.toList = b.data.toList) : a = b := ByteArray.ext (Array.toList_inj.1 h)
theorem exL (a : ByteArray) (i j : Nat) : (a.extract i j).data.toList = (a.data.toList.take j).drop i := by
  rw [ByteArray.data_extract, Array.toList_extract, List.extract_eq_take_drop, List.drop_take]
def lfB : ByteArray := ByteArray.mk #[10]
theorem lf_at {a b : ByteArray} (h : NoLf a) : lf ((a ++ lfB) ++ b) = a.size := by
  have hz : a.size < ((a ++ lfB) ++ b).size := by simp only [ByteArray.size_append]; show a.size < a.size + 1 + b.size; omega
  refine bIdx_eq (by omega) (by omega) hz ?_ ?_
  · rw [byteAt_lt hz]
    simp only [toL]
    rw [List.getElem_append_left (by rw [List.length_append, lenL]; show a.size < a.size + 1; omega), List.getElem_append_right (by rw [lenL]; omega)]
    simp only [lenL, Nat.sub_self]; rfl
  · intro j hj e
    rw [byteAt_lt (show j < ((a ++ lfB) ++ b).size by omega)] at e
    simp only [toL] at e
    rw [List.getElem_append_left (by rw [List.length_append, lenL]; omega), List.getElem_append_left (by rw [lenL]; omega)] at e
    exact absurd (u8_10 e) (h _ (List.getElem_mem _))
theorem ex_head {a b : ByteArray} : ((a ++ lfB) ++ b).extract 0 a.size = a := ext_L (by
  rw [exL, toL, toL, List.drop_zero, List.append_assoc, ← lenL, List.take_left])
theorem ex_tail {a b : ByteArray} : ((a ++ lfB) ++ b).extract (a.size + 1) ((a ++ lfB) ++ b).size = b := ext_L (by
  rw [exL, ← lenL ((a ++ lfB) ++ b), List.take_length, toL, toL]
  rw [show a.size + 1 = (a.data.toList ++ lfB.data.toList).length by rw [List.length_append, lenL]; rfl, List.drop_left])
theorem hex2_no : (List.range 256).all (fun n => (hex2 ((n : Nat) : Int)).all fun b => b != 10) = true := by decide +kernel
theorem hexK_no (l : List UInt8) (j : Nat) : ∀ x ∈ hexK l j, x ≠ 10 := fun x hx => by
  unfold hexK at hx
  obtain ⟨b, _, hb⟩ := List.mem_flatMap.1 hx
  have := List.all_eq_true.1 hex2_no b.toNat (List.mem_range.2 b.toNat_lt)
  have := List.all_eq_true.1 this x hb
  simpa using this
theorem hx_no (t : ByteArray) : NoLf (hx t) := fun x hx' => by
  unfold hx at hx'
  rw [exL] at hx'
  exact hexK_no (sumB t.data.toList) 32 x (List.mem_of_mem_take (List.mem_of_mem_drop hx'))
theorem noLf_app {a b : ByteArray} (ha : NoLf a) (hb : NoLf b) : NoLf (a ++ b) := fun x hx => by
  rw [toL] at hx
  rcases List.mem_append.1 hx with h | h
  · exact ha x h
  · exact hb x h
def bodyL (t : ByteArray) : ByteArray := (hx t ++ ByteArray.mk #[32]) ++ t
theorem lineB_eq (t : ByteArray) : lineB t = bodyL t ++ lfB := rfl
theorem bodyL_size (t : ByteArray) : (bodyL t).size = t.size + 17 := by
  simp only [bodyL, ByteArray.size_append, hx_size]; show 16 + 1 + t.size = _; omega
theorem bodyL_no {t : ByteArray} (h : rightJ t = true) : NoLf (bodyL t) :=
  noLf_app (noLf_app (hx_no t) (fun x hx => by
    have : x = 32 := by simpa using hx
    rw [this]; decide)) (rightJ_iff.1 h).2
theorem bodyL_text (t : ByteArray) : (bodyL t).extract 17 (bodyL t).size = t := ext_L (by
  rw [exL, ← lenL (bodyL t), List.take_length, bodyL, toL]
  rw [show 17 = (hx t ++ ByteArray.mk #[32]).data.toList.length by rw [lenL, ByteArray.size_append, hx_size]; rfl, List.drop_left])
theorem bodyL_ok {t : ByteArray} (h : rightJ t = true) : okB (bodyL t) = true ∧ textB (bodyL t) = t := by
  have h1 : ¬ ((bodyL t).size : Int) ≤ 16 := by rw [bodyL_size]; omega
  unfold okB textB
  rw [if_neg h1, if_neg h1, bodyL_text, h]
  exact ⟨by rw [show lineB t = bodyL t ++ ByteArray.mk #[10] from rfl, beq_self_eq_true]; rfl, rfl⟩
theorem cut_line {t r : ByteArray} (h : rightJ t = true) : cutL (lineB t ++ r) = some (t, r) := by
  have e : lf (lineB t ++ r) = (bodyL t).size := by rw [lineB_eq]; exact lf_at (bodyL_no h)
  have e1 : (lineB t ++ r).extract 0 (lf (lineB t ++ r)).toNat = bodyL t := by rw [e, Int.toNat_natCast, lineB_eq]; exact ex_head
  have e2 : (lineB t ++ r).extract ((lf (lineB t ++ r)).toNat + 1) (lineB t ++ r).size = r := by rw [e, Int.toNat_natCast, lineB_eq]; exact ex_tail
  rw [cut_some (by rw [e]; omega) (by rw [e1]; exact (bodyL_ok h).1), e1, e2, (bodyL_ok h).2]
theorem parse_app : ∀ {ts : List ByteArray} {x : ByteArray}, (∀ t ∈ ts, rightJ t = true) → parseB (linesB ts ++ x) = (ts ++ (parseB x).1, (parseB x).2)
  | [], x, _ => by show parseB (ByteArray.empty ++ x) = _; rw [ByteArray.empty_append]; simp
  | t :: ts, x, h => by
    show parseB ((lineB t ++ linesB ts) ++ x) = _
    rw [ByteArray.append_assoc, parseB_some (cut_line (h t List.mem_cons_self)), parse_app fun u hu => h u (List.mem_cons_of_mem _ hu)]
    rfl
theorem parse_noLf {x : ByteArray} (h : NoLf x) : parseB x = ([], x) := parseB_none (cut_none1 (noLf_iff.2 h))
theorem noLf_empty : NoLf ByteArray.empty := fun x hx => by simp at hx
theorem parse_lines {ts : List ByteArray} (h : ∀ t ∈ ts, rightJ t = true) : parseB (linesB ts) = (ts, .empty) := by
  have := parse_app (x := .empty) h
  rw [ByteArray.append_empty, parse_noLf noLf_empty] at this
  simpa using this
end Go.Jr
namespace Go.Proofs.YtlaoeiaaeifidaaGreat
open Go.Sw Go.Lib Go.Vf Go.Sha Go.Jr Go.RowKit
theorem open_ {s : DS} {M : DM} (hs : s.ok M) (z wn i : Nat) (hsc : ScrI z wn i M) (hzb : z ≤ 5000000) (hwb : wn ≤ 5000 ∧ i ≤ 5000) (K : List Grp) (d : Nat) (dir : ByteArray) (hdir : dir.size ≤ 1000000) (W0 : World) (H : List Grp) : Tri Tryz.prog 10 #[pt d, .string dir] W0 (K ++ (s.G d M ++ H)) (OpenR (openM M dir) d K H) := by
 have hsz : ∀ B ∈ M.bodies, B.now.size ≤ 10000000 := fun B hB => by have := (hsc.size B hB).1; omega
 have hfull : (readM M (pathJ dir logB)).1.size ≤ z := read_le hsc _
 refine Tri_of (args := [pt d, .string dir]) (n := 96) Tryz.func10 rfl rfl (Nat.le_of_ble_eq_true rfl) ?_
 refine G_seq ?_
 refine G_pure (E':=[⟨0,[],pt d⟩,⟨1,[],.string dir⟩]) [0,0] [0,1] rfl kr ?_
 refine N_then ?_
 refine G_seq ?_
 refine G_block ?_
 refine G_seq ?_
 refine G_pure (E':=[⟨0,[],pt d⟩,⟨1,[],.string dir⟩,⟨16,[],.bool false⟩]) [0,0,0] [0,1,16] rfl kr ?_
 refine N_then ?_
 refine G_condf kr ?_
 refine G_seq ?_
 refine G_region ?_
 refine GL_pure (E':=[⟨20,[],.string dir⟩,⟨0,[],pt d⟩,⟨1,[],.string dir⟩]) [0] kr (j:=1) rfl ?_
 refine GL_callQ (i:=1) (ch:=[]) (f:=34) (fst:=#[]) (caps:=#[]) (vs:=[.string dir]) (v:=.bool (rightB dir)) rfl rfl rfl kr kr Tryz.func34 rfl rfl kr kr kr (fun _=>vfsRight _ (by omega) _ _) ?_
 refine GL_pure (E':=[⟨24,[(23,false)],.string dir⟩,⟨23,[],.bool (!(rightB dir))⟩,⟨0,[],pt d⟩,⟨1,[],.string dir⟩]) [0,0,0] kr (j:=5) rfl ?_
 refine GL_callQ (i:=5) (ch:=[(23,false)]) (f:=39) (fst:=#[]) (caps:=#[]) (vs:=[.string dir,.string (ByteArray.mk #[47])]) (v:=.bool (decide (slash dir ≥ 0))) rfl rfl rfl kr kr Tryz.func39 rfl rfl kr kr kr (fun hc=>strContainsS _ _ _) ?_
 refine GL_fin (E':=[⟨0,[],pt d⟩,⟨1,[],.string dir⟩,⟨19,[],.bool ((!(rightB dir))||(decide (slash dir ≥ 0)))⟩]) [5,0] [0,1,19] rfl kr ?_
 refine N_then ?_
 refine G_cond (b:=(!(rightB dir))||(decide (slash dir ≥ 0))) kr (fun hc1=>?_) (fun hc1=>?_)
 ·
  have hbad := hc1
  refine G_seq ?_
  refine G_pure (E':=[⟨4,[],.pointer none⟩,⟨5,[],.int .i64 2⟩]) [0,0] [4,5] rfl kr ?_
  refine N_then ?_
  refine G_ret ?_
  refine N_block_ret ?_
  refine N_then_ret ?_
  refine N_ret [.tmp 4,.tmp 5] [.pointer none,.int .i64 2] rfl kr rfl ?_
  rw [open_bad hbad]; exact ⟨rfl, s, hs, rfl⟩
 ·
  have hgood := hc1
  refine G_skip ?_
  refine N_block ?_
  refine N_then ?_
  refine G_seq ?_
  refine G_region ?_
  refine GL_pure (E':=[⟨29,[],.agg #[pt d,.string dir,.slice none 0 0,.int .i64 0,.bool false,.bool false]⟩,⟨0,[],pt d⟩]) [0,0,0] kr (j:=3) rfl ?_
  refine GL_box (i:=3) (ch:=[]) (v:=.agg #[pt d,.string dir,.slice none 0 0,.int .i64 0,.bool false,.bool false]) rfl rfl kr kr kr kr (fun b2=>?_)
  refine GL_fin (E':=[⟨0,[],pt d⟩,⟨6,[],pt b2⟩]) [0] [0,6] rfl kr ?_
  refine N_then ?_
  refine G_seq ?_
  refine G_region ?_
  refine GL_pure (E':=[⟨33,[],pt b2⟩,⟨32,[],pt d⟩,⟨6,[],pt b2⟩]) [0,0] kr (j:=2) rfl ?_
  refine GL_callQ (i:=2) (ch:=[]) (f:=40) (fst:=#[]) (caps:=#[]) (vs:=[pt b2,.string (ByteArray.mk #[108,111,103])]) (v:=.string (pathJ dir (ByteArray.mk #[108,111,103]))) rfl rfl rfl kr kr Tryz.func40 rfl rfl kr kr kr (fun _=>path_ _ _ _ _ _ _ _ _ (show dir.size+3 ≤ 1000000000 by omega) _ _ (At.grp 0 0 rfl rfl)) ?_
  refine GL_call (i:=3) (ch:=[]) (f:=13) (fst:=#[]) (caps:=#[]) (vs:=[pt d,.string (pathJ dir (ByteArray.mk #[108,111,103]))]) rfl rfl rfl kr kr Tryz.func13 rfl rfl kr kr (chSure_of kr) (dRead (b:=(readM M (pathJ dir logB)).1) (e:=(readM M (pathJ dir logB)).2) hs hsz d (pathJ dir logB) (([[(b2,.cells #[pt d,.string dir,.slice none 0 0,.int .i64 0,.bool false,.bool false] 83 (0,0))]] : List Grp)++K) _ H rfl) ?_
  rintro v H' ⟨ra3, rc4, g5, rfl, hrc6, hrd7, rfl⟩
  refine GL_fin (E':=[⟨6,[],pt b2⟩,⟨7,[],.slice ra3 ((readM M (pathJ dir logB)).1.size) rc4⟩,⟨8,[],.int .i64 ((readM M (pathJ dir logB)).2)⟩]) [0,0,0,0,0] [6,7,8] rfl kr ?_
  refine N_then ?_
  refine G_seq ?_
  refine G_seq ?_
  refine G_pure (E':=[⟨6,[],pt b2⟩,⟨7,[],.slice ra3 ((readM M (pathJ dir logB)).1.size) rc4⟩,⟨39,[],.bool (((readM M (pathJ dir logB)).2) != 0)⟩]) [0,0] [6,7,39] rfl kr ?_
  refine N_then ?_
  refine G_cond (b:=((readM M (pathJ dir logB)).2) != 0) kr (fun hc8=>?_) (fun hc8=>?_)
  ·
   have hne := hc8
   refine G_seq ?_
   refine G_pure (E':=[⟨4,[],pt b2⟩,⟨5,[],.int .i64 0⟩]) [0,0,0] [4,5] rfl kr ?_
   refine N_then ?_
   refine G_ret ?_
   refine N_then_ret ?_
   refine N_heap (H':=([(b2,.cells #[pt d,.string dir,.slice none 0 0,.int .i64 0,.bool false,.bool false] 83 (0,0))]::[]::(K++(s.G d M++H)))) (fun w h=>Sat.flat (h.erase 0) (List.Perm.refl _)) ?_
   refine N_ret [.tmp 4,.tmp 5] [pt b2,.int .i64 0] rfl kr rfl ?_
   rw [open_no hgood hne]; exact ⟨_, _, _, _, rfl, Go.Sw.Own.nil, hs, rfl⟩
  ·
   have hok := hc8
   refine G_skip ?_
   refine N_then ?_
   refine G_seq ?_
   refine G_region ?_
   refine GL_pure (E':=[⟨43,[],.pointer (some ⟨b2,5,none⟩)⟩,⟨6,[],pt b2⟩,⟨7,[],.slice ra3 ((readM M (pathJ dir logB)).1.size) rc4⟩]) [0,0,0] kr (j:=3) rfl ?_
   refine GL_store (i:=3) (ch:=[]) (b:=b2) (off:=5) (v:=.bool true) (c:=#[pt d,.string dir,.slice none 0 0,.int .i64 0,.bool false,.bool false]) (c':=#[pt d,.string dir,.slice none 0 0,.int .i64 0,.bool false,.bool true]) (j:=1) (m:=0) (H':=(g5::[(b2,.cells #[pt d,.string dir,.slice none 0 0,.int .i64 0,.bool false,.bool true] 83 (0,0))]::(K++(s.G d M++H)))) rfl rfl kr kr kr kr kr kr kr rfl rfl (Nat.le_of_ble_eq_true rfl) (fun _ _=>thaw0) kr kr ?_
   refine GL_fin (E':=[⟨6,[],pt b2⟩,⟨7,[],.slice ra3 ((readM M (pathJ dir logB)).1.size) rc4⟩]) [] [6,7] rfl kr ?_
   refine N_then ?_
   refine G_seq ?_
   refine G_region ?_
   refine GL_pure (E':=[⟨44,[],.slice ra3 ((readM M (pathJ dir logB)).1.size) rc4⟩,⟨6,[],pt b2⟩]) [0] kr (j:=1) rfl ?_
   refine GL_bytesB (i:=1) (ch:=[]) (a:=ra3) (cap:=rc4) (e:=5) (S:=(inG g5)) ((readM M (pathJ dir logB)).1) rfl rfl kr kr kr kr kr kr kr hrd7 (at_inG 0 rfl) ?_
   refine GL_fin (E':=[⟨6,[],pt b2⟩,⟨9,[],.string ((readM M (pathJ dir logB)).1)⟩]) [0] [6,9] rfl kr ?_
   refine N_then ?_
   refine G_seq ?_
   refine G_block ?_
   refine G_heap (H':=([(b2,.cells #[pt d,.string dir,.slice none 0 0,.int .i64 0,.bool false,.bool true] 83 (0,0))]::[]::g5::(K++(s.G d M++H)))) (fun w h=>Sat.flat (h.front (j:=1) rfl) (List.Perm.refl _)) ?_
   refine G_loop (EI:=(fun ξ : ByteArray × List ByteArray × Option Addr × Nat × Grp=>[⟨6,[],pt b2⟩,⟨9,[],.string ξ.1⟩])) (HI:=(fun ξ : ByteArray × List ByteArray × Option Addr × Nat × Grp=>([(b2,.cells #[pt d,.string dir,.slice ξ.2.2.1 ξ.2.1.length ξ.2.2.2.1,.int .i64 ((linesB ξ.2.1).size : Int),.bool false,.bool true] 83 (0,0))]::ξ.2.2.2.2::g5::(K++(s.G d M++H))))) (Φ:=(fun ξ : ByteArray × List ByteArray × Option Addr × Nat × Grp=>(Parsed (readM M (pathJ dir logB)).1 ξ.2.1 ξ.1)∧(Go.Sw.Own 9 1 (.slice ξ.2.2.1 ξ.2.1.length ξ.2.2.2.1) ξ.2.2.2.2 ξ.2.1.length (strs ξ.2.1)))) (μ:=(fun ξ : ByteArray × List ByteArray × Option Addr × Nat × Grp=>ξ.1.size)) (s0:=((readM M (pathJ dir logB)).1,[],none,0,[])) [6,9] kr rfl ⟨(parsed0 _),Go.Sw.Own.nil⟩ ?_
   rintro ⟨all, ts, ra, rc, rg⟩ ⟨hpz, ho⟩
   dsimp only at hpz ho
   have hpl := hpz.len
   have hps := hpz.sz
   have hfz := hfull
   refine G_block ?_
   refine G_seq ?_
   refine G_region ?_
   refine GL_pure (E':=[⟨47,[],.string all⟩,⟨6,[],pt b2⟩,⟨9,[],.string all⟩]) [0] kr (j:=1) rfl ?_
   refine GL_call (i:=1) (ch:=[]) (f:=41) (fst:=#[]) (caps:=#[]) (vs:=[.string all,.string (ByteArray.mk #[10])]) rfl rfl rfl kr kr Tryz.func41 rfl rfl kr kr (chSure_of kr) (stringsCutL _ (by first | omega | (simp only [ByteArray.size_extract]; omega)) _ _) ?_
   rintro v H' ⟨rfl, rfl⟩
   by_cases hs9 : lf all < 0
   ·
    rw [if_pos hs9]
    refine GL_fin (E':=[⟨6,[],pt b2⟩,⟨9,[],.string all⟩,⟨10,[],.string all⟩,⟨11,[],.string (ByteArray.mk #[])⟩,⟨12,[],.bool false⟩]) [0,0,0,0,0,0,0] [6,9,10,11,12] rfl kr ?_
    refine N_then ?_
    refine G_seq ?_
    refine G_region ?_
    refine GL_pure (E':=[⟨53,[],.string all⟩,⟨6,[],pt b2⟩,⟨9,[],.string all⟩,⟨10,[],.string all⟩,⟨11,[],.string (ByteArray.mk #[])⟩,⟨12,[],.bool false⟩]) [0] kr (j:=1) rfl ?_
    refine GL_callQ (i:=1) (ch:=[]) (f:=42) (fst:=#[]) (caps:=#[]) (vs:=[.string all]) (v:=.tuple #[.string (textB all),.bool (okB all)]) rfl rfl rfl kr kr Tryz.func42 rfl rfl kr kr kr (fun _=>text_ _ (by first | omega | (rw [ByteArray.size_extract]; omega)) _ _) ?_
    refine GL_fin (E':=[⟨6,[],pt b2⟩,⟨9,[],.string all⟩,⟨10,[],.string all⟩,⟨11,[],.string (ByteArray.mk #[])⟩,⟨12,[],.bool false⟩,⟨13,[],.string (textB all)⟩,⟨14,[],.bool (okB all)⟩]) [0,0,0,0,0] [6,9,10,11,12,13,14] rfl kr ?_
    refine N_then ?_
    refine G_seq ?_
    refine G_seq ?_
    refine G_pure (E':=[⟨6,[],pt b2⟩,⟨9,[],.string all⟩,⟨10,[],.string all⟩,⟨11,[],.string (ByteArray.mk #[])⟩,⟨13,[],.string (textB all)⟩,⟨62,[],.bool true⟩]) [0,0,0,1,1,2] [6,9,10,11,13,62] rfl kr ?_
    refine N_then ?_
    refine G_condt kr ?_
    refine G_exit ?_
    refine N_then_exit ?_
    refine N_block_other rfl ?_
    refine N_then_exit ?_
    refine N_block_exit ?_
    refine N_then ?_
    refine G_seq ?_
    refine G_seq ?_
    refine G_pure (E':=[⟨6,[],pt b2⟩,⟨85,[],.bool (!(all.toList == (ByteArray.mk #[]).toList))⟩]) [0,0] [6,85] rfl kr ?_
    refine N_then ?_
    refine G_cond (b:=!(all.toList == (ByteArray.mk #[]).toList)) kr (fun hc10=>?_) (fun hc10=>?_)
    ·
     have hall := hc10
     refine G_seq ?_
     refine G_region ?_
     refine GL_pure (E':=[⟨89,[],.pointer (some ⟨b2,2,none⟩)⟩,⟨86,[],pt b2⟩,⟨6,[],pt b2⟩]) [0,0,0,0] kr (j:=4) rfl ?_
     refine GL_load (i:=4) (ch:=[]) (b:=b2) (off:=2) (v:=.slice ra ts.length rc) rfl rfl kr kr kr kr kr (At.grp 0 0 rfl rfl) rfl ?_
     refine GL_call (i:=5) (ch:=[]) (f:=18) (fst:=#[]) (caps:=#[]) (vs:=[pt b2,.slice ra ts.length rc]) rfl rfl rfl kr kr Tryz.func18 rfl rfl kr kr (chSure_of kr) (repOpen hs hsc hzb hwb ([g5]++K) b2 d dir ra rc rg ts ho hdir (by omega) W0 H) ?_
     rintro v H' ⟨rv11, g12, s13, rfl, hO14, hs15, rfl⟩
     refine GL_fin (E':=[⟨6,[],pt b2⟩,⟨15,[],.int .i64 ((replaceM ⟨dir,ts,((linesB ts).size : Int),false,true⟩ M ts).1)⟩]) [0] [6,15] rfl kr ?_
     refine N_then ?_
     refine G_seq ?_
     refine G_pure (E':=[⟨6,[],pt b2⟩,⟨15,[],.int .i64 ((replaceM ⟨dir,ts,((linesB ts).size : Int),false,true⟩ M ts).1)⟩,⟨93,[],.bool (((replaceM ⟨dir,ts,((linesB ts).size : Int),false,true⟩ M ts).1) != 0)⟩]) [0,0] [6,15,93] rfl kr ?_
     refine N_then ?_
     refine G_cond (b:=((replaceM ⟨dir,ts,((linesB ts).size : Int),false,true⟩ M ts).1) != 0) kr (fun hc16=>?_) (fun hc16=>?_)
     ·
      have herr := hc16
      refine G_seq ?_
      refine G_pure (E':=[⟨4,[],.pointer none⟩,⟨5,[],.int .i64 ((replaceM ⟨dir,ts,((linesB ts).size : Int),false,true⟩ M ts).1)⟩]) [0,0,0] [4,5] rfl kr ?_
      refine N_then ?_
      refine G_ret ?_
      refine N_then_ret ?_
      refine N_heap (H':=(K++(s13.G d (replaceM ⟨dir,ts,((linesB ts).size : Int),false,true⟩ M ts).2.2++H))) (fun w h=>(((h.erase 2).erase 1).erase 0)) ?_
      refine N_ret [.tmp 4,.tmp 5] [.pointer none,.int .i64 ((replaceM ⟨dir,ts,((linesB ts).size : Int),false,true⟩ M ts).1)] rfl kr rfl ?_
      rw [open_err hgood hok (parsed_end hpz (cut_none1 hs9)) hall herr]; exact ⟨rfl, _, hs15, rfl⟩
     ·
      have herr := hc16
      refine G_skip ?_
      refine N_then ?_
      refine G_seq ?_
      refine G_pure (E':=[⟨4,[],pt b2⟩,⟨5,[],.int .i64 0⟩]) [0,0,0] [4,5] rfl kr ?_
      refine N_then ?_
      refine G_ret ?_
      refine N_heap (H':=([(b2,.cells #[pt d,.string ((replaceM ⟨dir,ts,((linesB ts).size : Int),false,true⟩ M ts).2.1.dir),rv11,.int .i64 ((replaceM ⟨dir,ts,((linesB ts).size : Int),false,true⟩ M ts).2.1.size),.bool ((replaceM ⟨dir,ts,((linesB ts).size : Int),false,true⟩ M ts).2.1.down),.bool ((replaceM ⟨dir,ts,((linesB ts).size : Int),false,true⟩ M ts).2.1.there)] 83 (0,0))]::g12::(K++(s13.G d (replaceM ⟨dir,ts,((linesB ts).size : Int),false,true⟩ M ts).2.2++H)))) (fun w h=>(h.erase 2)) ?_
      refine N_ret [.tmp 4,.tmp 5] [pt b2,.int .i64 0] rfl kr rfl ?_
      rw [open_ok hgood hok (parsed_end hpz (cut_none1 hs9)) hall herr]; exact ⟨_, _, _, _, rfl, hO14, hs15, rfl⟩
    ·
     have hall := hc10
     refine G_skip ?_
     refine N_then ?_
     refine G_seq ?_
     refine G_pure (E':=[⟨4,[],pt b2⟩,⟨5,[],.int .i64 0⟩]) [0,0,0] [4,5] rfl kr ?_
     refine N_then ?_
     refine G_ret ?_
     refine N_heap (H':=([(b2,.cells #[pt d,.string dir,.slice ra ts.length rc,.int .i64 ((linesB ts).size : Int),.bool false,.bool true] 83 (0,0))]::rg::(K++(s.G d M++H)))) (fun w h=>(h.erase 2)) ?_
     refine N_ret [.tmp 4,.tmp 5] [pt b2,.int .i64 0] rfl kr rfl ?_
     rw [open_whole hgood hok (parsed_end hpz (cut_none1 hs9)) hall]; exact ⟨_, _, _, _, rfl, ho, hs, rfl⟩
   ·
    rw [if_neg hs9]
    obtain ⟨hs9a, hs9b, hs9c⟩ := lf_facts hs9
    refine GL_fin (E':=[⟨6,[],pt b2⟩,⟨9,[],.string all⟩,⟨10,[],.string (all.extract 0 (lf all).toNat)⟩,⟨11,[],.string (all.extract ((lf all).toNat+1) all.size)⟩,⟨12,[],.bool true⟩]) [0,0,0,0,0,0,0] [6,9,10,11,12] rfl kr ?_
    refine N_then ?_
    refine G_seq ?_
    refine G_region ?_
    refine GL_pure (E':=[⟨53,[],.string (all.extract 0 (lf all).toNat)⟩,⟨6,[],pt b2⟩,⟨9,[],.string all⟩,⟨10,[],.string (all.extract 0 (lf all).toNat)⟩,⟨11,[],.string (all.extract ((lf all).toNat+1) all.size)⟩,⟨12,[],.bool true⟩]) [0] kr (j:=1) rfl ?_
    refine GL_callQ (i:=1) (ch:=[]) (f:=42) (fst:=#[]) (caps:=#[]) (vs:=[.string (all.extract 0 (lf all).toNat)]) (v:=.tuple #[.string (textB (all.extract 0 (lf all).toNat)),.bool (okB (all.extract 0 (lf all).toNat))]) rfl rfl rfl kr kr Tryz.func42 rfl rfl kr kr kr (fun _=>text_ _ (by first | omega | (rw [ByteArray.size_extract]; omega)) _ _) ?_
    refine GL_fin (E':=[⟨6,[],pt b2⟩,⟨9,[],.string all⟩,⟨10,[],.string (all.extract 0 (lf all).toNat)⟩,⟨11,[],.string (all.extract ((lf all).toNat+1) all.size)⟩,⟨12,[],.bool true⟩,⟨13,[],.string (textB (all.extract 0 (lf all).toNat))⟩,⟨14,[],.bool (okB (all.extract 0 (lf all).toNat))⟩]) [0,0,0,0,0] [6,9,10,11,12,13,14] rfl kr ?_
    refine N_then ?_
    refine G_seq ?_
    refine G_seq ?_
    refine G_pure (E':=[⟨6,[],pt b2⟩,⟨9,[],.string all⟩,⟨10,[],.string (all.extract 0 (lf all).toNat)⟩,⟨11,[],.string (all.extract ((lf all).toNat+1) all.size)⟩,⟨13,[],.string (textB (all.extract 0 (lf all).toNat))⟩,⟨62,[],.bool (!(okB (all.extract 0 (lf all).toNat)))⟩]) [0,0,0,0,0,3] [6,9,10,11,13,62] rfl kr ?_
    refine N_then ?_
    refine G_cond (b:=!(okB (all.extract 0 (lf all).toNat))) kr (fun hc17=>?_) (fun hc17=>?_)
    ·
     have hkn : okB (all.extract 0 (lf all).toNat) = false := by simpa using hc17
     refine G_exit ?_
     refine N_then_exit ?_
     refine N_block_other rfl ?_
     refine N_then_exit ?_
     refine N_block_exit ?_
     refine N_then ?_
     refine G_seq ?_
     refine G_seq ?_
     refine G_pure (E':=[⟨6,[],pt b2⟩,⟨85,[],.bool (!(all.toList == (ByteArray.mk #[]).toList))⟩]) [0,0] [6,85] rfl kr ?_
     refine N_then ?_
     refine G_cond (b:=!(all.toList == (ByteArray.mk #[]).toList)) kr (fun hc18=>?_) (fun hc18=>?_)
     ·
      have hall := hc18
      refine G_seq ?_
      refine G_region ?_
      refine GL_pure (E':=[⟨89,[],.pointer (some ⟨b2,2,none⟩)⟩,⟨86,[],pt b2⟩,⟨6,[],pt b2⟩]) [0,0,0,0] kr (j:=4) rfl ?_
      refine GL_load (i:=4) (ch:=[]) (b:=b2) (off:=2) (v:=.slice ra ts.length rc) rfl rfl kr kr kr kr kr (At.grp 0 0 rfl rfl) rfl ?_
      refine GL_call (i:=5) (ch:=[]) (f:=18) (fst:=#[]) (caps:=#[]) (vs:=[pt b2,.slice ra ts.length rc]) rfl rfl rfl kr kr Tryz.func18 rfl rfl kr kr (chSure_of kr) (repOpen hs hsc hzb hwb ([g5]++K) b2 d dir ra rc rg ts ho hdir (by omega) W0 H) ?_
      rintro v H' ⟨rv19, g20, s21, rfl, hO22, hs23, rfl⟩
      refine GL_fin (E':=[⟨6,[],pt b2⟩,⟨15,[],.int .i64 ((replaceM ⟨dir,ts,((linesB ts).size : Int),false,true⟩ M ts).1)⟩]) [0] [6,15] rfl kr ?_
      refine N_then ?_
      refine G_seq ?_
      refine G_pure (E':=[⟨6,[],pt b2⟩,⟨15,[],.int .i64 ((replaceM ⟨dir,ts,((linesB ts).size : Int),false,true⟩ M ts).1)⟩,⟨93,[],.bool (((replaceM ⟨dir,ts,((linesB ts).size : Int),false,true⟩ M ts).1) != 0)⟩]) [0,0] [6,15,93] rfl kr ?_
      refine N_then ?_
      refine G_cond (b:=((replaceM ⟨dir,ts,((linesB ts).size : Int),false,true⟩ M ts).1) != 0) kr (fun hc24=>?_) (fun hc24=>?_)
      ·
       have herr := hc24
       refine G_seq ?_
       refine G_pure (E':=[⟨4,[],.pointer none⟩,⟨5,[],.int .i64 ((replaceM ⟨dir,ts,((linesB ts).size : Int),false,true⟩ M ts).1)⟩]) [0,0,0] [4,5] rfl kr ?_
       refine N_then ?_
       refine G_ret ?_
       refine N_then_ret ?_
       refine N_heap (H':=(K++(s21.G d (replaceM ⟨dir,ts,((linesB ts).size : Int),false,true⟩ M ts).2.2++H))) (fun w h=>(((h.erase 2).erase 1).erase 0)) ?_
       refine N_ret [.tmp 4,.tmp 5] [.pointer none,.int .i64 ((replaceM ⟨dir,ts,((linesB ts).size : Int),false,true⟩ M ts).1)] rfl kr rfl ?_
       rw [open_err hgood hok (parsed_end hpz (cut_none2 hs9 hkn)) hall herr]; exact ⟨rfl, _, hs23, rfl⟩
      ·
       have herr := hc24
       refine G_skip ?_
       refine N_then ?_
       refine G_seq ?_
       refine G_pure (E':=[⟨4,[],pt b2⟩,⟨5,[],.int .i64 0⟩]) [0,0,0] [4,5] rfl kr ?_
       refine N_then ?_
       refine G_ret ?_
       refine N_heap (H':=([(b2,.cells #[pt d,.string ((replaceM ⟨dir,ts,((linesB ts).size : Int),false,true⟩ M ts).2.1.dir),rv19,.int .i64 ((replaceM ⟨dir,ts,((linesB ts).size : Int),false,true⟩ M ts).2.1.size),.bool ((replaceM ⟨dir,ts,((linesB ts).size : Int),false,true⟩ M ts).2.1.down),.bool ((replaceM ⟨dir,ts,((linesB ts).size : Int),false,true⟩ M ts).2.1.there)] 83 (0,0))]::g20::(K++(s21.G d (replaceM ⟨dir,ts,((linesB ts).size : Int),false,true⟩ M ts).2.2++H)))) (fun w h=>(h.erase 2)) ?_
       refine N_ret [.tmp 4,.tmp 5] [pt b2,.int .i64 0] rfl kr rfl ?_
       rw [open_ok hgood hok (parsed_end hpz (cut_none2 hs9 hkn)) hall herr]; exact ⟨_, _, _, _, rfl, hO22, hs23, rfl⟩
     ·
      have hall := hc18
      refine G_skip ?_
      refine N_then ?_
      refine G_seq ?_
      refine G_pure (E':=[⟨4,[],pt b2⟩,⟨5,[],.int .i64 0⟩]) [0,0,0] [4,5] rfl kr ?_
      refine N_then ?_
      refine G_ret ?_
      refine N_heap (H':=([(b2,.cells #[pt d,.string dir,.slice ra ts.length rc,.int .i64 ((linesB ts).size : Int),.bool false,.bool true] 83 (0,0))]::rg::(K++(s.G d M++H)))) (fun w h=>(h.erase 2)) ?_
      refine N_ret [.tmp 4,.tmp 5] [pt b2,.int .i64 0] rfl kr rfl ?_
      rw [open_whole hgood hok (parsed_end hpz (cut_none2 hs9 hkn)) hall]; exact ⟨_, _, _, _, rfl, ho, hs, rfl⟩
    ·
     have hky : okB (all.extract 0 (lf all).toNat) = true := by simpa using hc17
     refine G_skip ?_
     refine N_then ?_
     refine G_seq ?_
     refine G_region ?_
     refine GL_pure (E':=[⟨66,[],.pointer (some ⟨b2,2,none⟩)⟩,⟨63,[],pt b2⟩,⟨6,[],pt b2⟩,⟨10,[],.string (all.extract 0 (lf all).toNat)⟩,⟨11,[],.string (all.extract ((lf all).toNat+1) all.size)⟩,⟨13,[],.string (textB (all.extract 0 (lf all).toNat))⟩]) [0,0,0,0] kr (j:=4) rfl ?_
     refine GL_load (i:=4) (ch:=[]) (b:=b2) (off:=2) (v:=.slice ra ts.length rc) rfl rfl kr kr kr kr kr (At.grp 0 0 rfl rfl) rfl ?_
     refine GL_pure (E':=[⟨68,[],.string (textB (all.extract 0 (lf all).toNat))⟩,⟨67,[],.slice ra ts.length rc⟩,⟨63,[],pt b2⟩,⟨6,[],pt b2⟩,⟨10,[],.string (all.extract 0 (lf all).toNat)⟩,⟨11,[],.string (all.extract ((lf all).toNat+1) all.size)⟩]) [0] kr (j:=6) rfl ?_
     refine GL_buildSlice (i:=6) (ch:=[]) (e:=9) (l:=[(0,.string (textB (all.extract 0 (lf all).toNat)))]) (c:=[.string (textB (all.extract 0 (lf all).toNat))]) rfl rfl kr kr kr kr kr (fun b25=>?_)
     refine GL_append (i:=7) (ch:=[]) (t:=32) (tx:=32) (e:=9) (inf:=Tryz.t9) (s:=.slice ra ts.length rc) (x:=.slice (some ⟨b25,0,none⟩) 1 1) (n:=ts.length) (m:=1) (j:=2) (cs:=(strs ts)) (news:=[.string (textB (all.extract 0 (lf all).toNat))]) (g:=rg) (S:=(inG [(b25,.cells #[.string (textB (all.extract 0 (lf all).toNat))] 9 (0,0))])) rfl rfl rfl rfl kr kr kr rfl rfl (.inl ⟨9,kr⟩) (fun ⟨_,h⟩=>by cases h) (fun _=>⟨9,kr⟩) kr kr kr rfl ho (SrcOf.slice _ _ _ _ Rd.lit (fun h=>by cases h)) (at_inG 0 rfl) rfl (strs_one (ts:=[textB (all.extract 0 (lf all).toNat)])) (by omega) (by show (ts.length+1) * 16 ≤ 140737488355328; omega) (fun v26 g27 hO28=>?_)
     obtain ⟨a29, cap30, rfl, hcap31, hrd32⟩ := hO28.shape
     refine GL_pure (E':=[⟨72,[],.pointer (some ⟨b2,2,none⟩)⟩,⟨70,[],.slice a29 (ts.length+1) cap30⟩,⟨6,[],pt b2⟩,⟨10,[],.string (all.extract 0 (lf all).toNat)⟩,⟨11,[],.string (all.extract ((lf all).toNat+1) all.size)⟩]) [0,0] kr (j:=10) rfl ?_
     refine GL_store (i:=10) (ch:=[]) (b:=b2) (off:=2) (v:=.slice a29 (ts.length+1) cap30) (c:=#[pt d,.string dir,.slice ra ts.length rc,.int .i64 ((linesB ts).size : Int),.bool false,.bool true]) (c':=#[pt d,.string dir,.slice a29 (ts.length+1) cap30,.int .i64 ((linesB ts).size : Int),.bool false,.bool true]) (j:=1) (m:=0) (H':=([(b25,.cells #[.string (textB (all.extract 0 (lf all).toNat))] 9 (0,0))]::[(b2,.cells #[pt d,.string dir,.slice a29 (ts.length+1) cap30,.int .i64 ((linesB ts).size : Int),.bool false,.bool true] 83 (0,0))]::g27::g5::(K++(s.G d M++H)))) rfl rfl kr kr kr kr kr kr kr rfl rfl (Nat.le_of_ble_eq_true rfl) (fun _ _=>thaw0) kr kr ?_
     refine GL_fin (E':=[⟨6,[],pt b2⟩,⟨10,[],.string (all.extract 0 (lf all).toNat)⟩,⟨11,[],.string (all.extract ((lf all).toNat+1) all.size)⟩]) [] [6,10,11] rfl kr ?_
     refine N_then ?_
     refine G_seq ?_
     refine G_region ?_
     refine GL_pure (E':=[⟨75,[],.pointer (some ⟨b2,3,none⟩)⟩,⟨73,[],pt b2⟩,⟨6,[],pt b2⟩,⟨10,[],.string (all.extract 0 (lf all).toNat)⟩,⟨11,[],.string (all.extract ((lf all).toNat+1) all.size)⟩]) [0,0,0] kr (j:=3) rfl ?_
     refine GL_load (i:=3) (ch:=[]) (b:=b2) (off:=3) (v:=.int .i64 ((linesB ts).size : Int)) rfl rfl kr kr kr kr kr (At.grp 1 0 rfl rfl) rfl ?_
     have hw33 : IntKind.wrap .i64 (((all.extract 0 (lf all).toNat).size : Int) + 1) = ((all.extract 0 (lf all).toNat).size : Int) + 1 := w64 (by omega) (by omega)
     have hw34 : IntKind.wrap .i64 (((linesB ts).size : Int) + (((all.extract 0 (lf all).toNat).size : Int) + 1)) = ((linesB ts).size : Int) + (((all.extract 0 (lf all).toNat).size : Int) + 1) := w64 (by omega) (by omega)
     refine GL_pure (E':=[⟨82,[],.pointer (some ⟨b2,3,none⟩)⟩,⟨80,[],.int .i64 (((linesB ts).size : Int)+(((all.extract 0 (lf all).toNat).size : Int)+1))⟩,⟨6,[],pt b2⟩,⟨11,[],.string (all.extract ((lf all).toNat+1) all.size)⟩]) [0,0,0,0,0,0] (Eq.trans (b:=some [⟨82,[],.pointer (some ⟨b2,3,none⟩)⟩,⟨80,[],.int .i64 (IntKind.wrap .i64 (((linesB ts).size : Int)+(IntKind.wrap .i64 (((all.extract 0 (lf all).toNat).size : Int)+1))))⟩,⟨6,[],pt b2⟩,⟨11,[],.string (all.extract ((lf all).toNat+1) all.size)⟩]) kr (by simp only [hw33,hw34])) (j:=10) rfl ?_
     refine GL_store (i:=10) (ch:=[]) (b:=b2) (off:=3) (v:=.int .i64 (((linesB ts).size : Int)+(((all.extract 0 (lf all).toNat).size : Int)+1))) (c:=#[pt d,.string dir,.slice a29 (ts.length+1) cap30,.int .i64 ((linesB ts).size : Int),.bool false,.bool true]) (c':=#[pt d,.string dir,.slice a29 (ts.length+1) cap30,.int .i64 (((linesB ts).size : Int)+(((all.extract 0 (lf all).toNat).size : Int)+1)),.bool false,.bool true]) (j:=1) (m:=0) (H':=([(b25,.cells #[.string (textB (all.extract 0 (lf all).toNat))] 9 (0,0))]::[(b2,.cells #[pt d,.string dir,.slice a29 (ts.length+1) cap30,.int .i64 (((linesB ts).size : Int)+(((all.extract 0 (lf all).toNat).size : Int)+1)),.bool false,.bool true] 83 (0,0))]::g27::g5::(K++(s.G d M++H)))) rfl rfl kr kr kr kr kr kr kr rfl rfl (Nat.le_of_ble_eq_true rfl) (fun _ _=>thaw0) kr kr ?_
     refine GL_fin (E':=[⟨6,[],pt b2⟩,⟨11,[],.string (all.extract ((lf all).toNat+1) all.size)⟩]) [] [6,11] rfl kr ?_
     refine N_then ?_
     refine G_pure (E':=[⟨6,[],pt b2⟩,⟨9,[],.string (all.extract ((lf all).toNat+1) all.size)⟩]) [0,0] [6,9] rfl kr ?_
     refine N_block ?_
     refine N_heap (H':=([(b2,.cells #[pt d,.string dir,.slice a29 (ts.length+1) cap30,.int .i64 (((linesB ts).size : Int)+(((all.extract 0 (lf all).toNat).size : Int)+1)),.bool false,.bool true] 83 (0,0))]::g27::g5::(K++(s.G d M++H)))) (fun w h=>(h.erase 0)) ?_
     refine N_heq (H':=([(b2,.cells #[pt d,.string dir,.slice a29 ((ts++[textB (all.extract 0 (lf all).toNat)]).length) cap30,.int .i64 ((linesB (ts++[textB (all.extract 0 (lf all).toNat)])).size : Int),.bool false,.bool true] 83 (0,0))]::g27::g5::(K++(s.G d M++H)))) (by rw [← size_step (ts:=ts) hky,List.length_append]; rfl) ?_
     refine N_round (s':=((all.extract ((lf all).toNat+1) all.size),(ts++[textB (all.extract 0 (lf all).toNat)]),a29,cap30,g27)) [6,9] kr rfl ⟨(parsed1 hpz hs9 hky),(own_addS hO28)⟩ (by have h9:=(lf_facts hs9).2.2; dsimp only; omega)
theorem records_ (jb d : Nat) (dir : ByteArray) (a : Option Addr) (c : Nat) (rg : Grp) (L : List ByteArray) (size : Int) (down there : Bool) (ho : Go.Sw.Own 9 1 (.slice a L.length c) rg L.length (strs L)) (hL : L.length ≤ 1000000) (W0 : World) (H : List Grp) : Tri Tryz.prog 15 #[pt jb] W0 ([(jb, .cells #[pt d, .string dir, .slice a L.length c, .int .i64 size, .bool down, .bool there] 83 (0, 0))] :: rg :: H) (fun v H' => ∃ g, Go.Sw.Own 9 1 v g L.length (strs L) ∧ H' = g :: jG jb d dir (.slice a L.length c) size down there :: rg :: H) := by
 refine Tri_of (args := [pt jb]) (n := 10) Tryz.func15 rfl rfl (Nat.le_of_ble_eq_true rfl) ?_
 refine G_seq ?_
 refine G_pure (E':=[⟨0,[],pt jb⟩]) [0] [0] rfl kr ?_
 refine N_then ?_
 refine G_seq ?_
 refine G_seq ?_
 refine G_pure (E':=[⟨0,[],pt jb⟩,⟨4,[],.bool false⟩]) [0,0] [0,4] rfl kr ?_
 refine N_then ?_
 refine G_condf kr ?_
 refine G_skip ?_
 refine N_then ?_
 refine G_seq ?_
 refine G_region ?_
 refine GL_pure (E':=[⟨7,[],.pointer (some ⟨jb,2,none⟩)⟩]) [0,0,0] kr (j:=3) rfl ?_
 refine GL_load (i:=3) (ch:=[]) (b:=jb) (off:=2) (v:=.slice a L.length c) rfl rfl kr kr kr kr kr (At.grp 0 0 rfl rfl) rfl ?_
 refine GL_call (i:=4) (ch:=[]) (f:=44) (fst:=#[]) (caps:=#[]) (vs:=[.slice a L.length c]) rfl rfl rfl kr kr Tryz.func44 rfl rfl kr kr (chSure_of kr) (clone_ a c L (inG rg) (own_rd ho) hL (own_none ho) _ _ (at_inG 1 rfl)) ?_
 rintro v H' ⟨g1, hO2, rfl⟩
 refine GL_fin (E':=[⟨2,[],v⟩]) [0] [2] rfl kr ?_
 refine N_then ?_
 refine G_ret ?_
 refine N_ret [.tmp 2] [v] rfl kr rfl ?_
 exact ⟨_, hO2, rfl⟩
theorem size_ (jb d : Nat) (dir : ByteArray) (a : Option Addr) (c : Nat)  (L : List ByteArray) (size : Int) (down there : Bool) (W0 : World) (H : List Grp) : Tri Tryz.prog 16 #[pt jb] W0 ([(jb, .cells #[pt d, .string dir, .slice a L.length c, .int .i64 size, .bool down, .bool there] 83 (0, 0))] :: H) (fun v H' => v = .int .i64 size ∧ H' = ([(jb, .cells #[pt d, .string dir, .slice a L.length c, .int .i64 size, .bool down, .bool there] 83 (0, 0))] :: H)) := by
 refine Tri_of (args := [pt jb]) (n := 9) Tryz.func16 rfl rfl (Nat.le_of_ble_eq_true rfl) ?_
 refine G_seq ?_
 refine G_pure (E':=[⟨0,[],pt jb⟩]) [0] [0] rfl kr ?_
 refine N_then ?_
 refine G_seq ?_
 refine G_seq ?_
 refine G_pure (E':=[⟨0,[],pt jb⟩,⟨4,[],.bool false⟩]) [0,0] [0,4] rfl kr ?_
 refine N_then ?_
 refine G_condf kr ?_
 refine G_skip ?_
 refine N_then ?_
 refine G_seq ?_
 refine G_region ?_
 refine GL_pure (E':=[⟨7,[],.pointer (some ⟨jb,3,none⟩)⟩]) [0,0,0] kr (j:=3) rfl ?_
 refine GL_load (i:=3) (ch:=[]) (b:=jb) (off:=3) (v:=.int .i64 size) rfl rfl kr kr kr kr kr (At.grp 0 0 rfl rfl) rfl ?_
 refine GL_fin (E':=[⟨2,[],.int .i64 size⟩]) [0] [2] rfl kr ?_
 refine N_then ?_
 refine G_ret ?_
 refine N_ret [.tmp 2] [.int .i64 size] rfl kr rfl ?_
 exact ⟨rfl, rfl⟩
theorem openNil_ (dir : ByteArray) (W0 : World) (H : List Grp) : Tri Tryz.prog 10 #[.pointer none, .string dir] W0 H (fun v H' => v = .tuple #[.pointer none, .int .i64 1] ∧ H' = H) := by
 refine Tri_of (args := [.pointer none, .string dir]) (n := 96) Tryz.func10 rfl rfl (Nat.le_of_ble_eq_true rfl) ?_
 refine G_seq ?_
 refine G_pure (E':=[⟨0,[],.pointer none⟩,⟨1,[],.string dir⟩]) [0,0] [0,1] rfl kr ?_
 refine N_then ?_
 refine G_seq ?_
 refine G_block ?_
 refine G_seq ?_
 refine G_pure (E':=[⟨0,[],.pointer none⟩,⟨1,[],.string dir⟩,⟨16,[],.bool true⟩]) [0,0,0] [0,1,16] rfl kr ?_
 refine N_then ?_
 refine G_condt kr ?_
 refine G_seq ?_
 refine G_pure (E':=[⟨4,[],.pointer none⟩,⟨5,[],.int .i64 1⟩]) [0,0] [4,5] rfl kr ?_
 refine N_then ?_
 refine G_ret ?_
 refine N_block_ret ?_
 refine N_then_ret ?_
 refine N_ret [.tmp 4,.tmp 5] [.pointer none,.int .i64 1] rfl kr rfl ?_
 exact ⟨rfl, rfl⟩
end Go.Proofs.YtlaoeiaaeifidaaGreat
namespace Go.Proofs.YtlaoeiaaeifidaaGreat
open Go.Sw Go.Lib Go.Vf Go.Sha Go.Jr Go.RowKit
def jAt (jb d : Nat) (j : JM) (a : Option Addr) (c : Nat) : Grp := jG jb d j.dir (.slice a j.L.length c) j.size j.down j.there
def JOwn (j : JM) (a : Option Addr) (c : Nat) (rg : Grp) : Prop := Go.Sw.Own 9 1 (.slice a j.L.length c) rg j.L.length (strs j.L)
structure JSmall (j : JM) : Prop where
  dir : j.dir.size ≤ 1000000
  len : j.L.length ≤ 1000000
  size : 0 ≤ j.size ∧ j.size ≤ 1000000000000
structure RoomM (M : DM) : Prop where
  ex : ∃ z w i, ScrI z w i M ∧ z ≤ 5000000 ∧ w ≤ 5000 ∧ i ≤ 5000
theorem RoomM.of {z w i : Nat} {M : DM} (h : ScrI z w i M) (hz : z ≤ 5000000) (hw : w ≤ 5000) (hi : i ≤ 5000) : RoomM M := ⟨z, w, i, h, hz, hw, hi⟩
theorem RoomM.small {M : DM} (h : RoomM M) : Small M := by
  obtain ⟨z, w, i, h, h1, h2, h3⟩ := h.ex
  exact small_of h (by omega) (by omega) (by omega)
theorem RoomM.sizes {M : DM} (h : RoomM M) : ∀ B ∈ M.bodies, B.now.size ≤ 10000000 := fun B hB => (h.small.size B hB).1
theorem jOpen {s : DS} {M M' : DM} {dir : ByteArray} {j : JM} (hs : s.ok M) (hM : RoomM M) (hdir : dir.size ≤ 1000000) (he : openM M dir = (0, some j, M')) (K : List Grp) (d : Nat) (W0 : World) (H : List Grp) :
    Tri Tryz.prog 10 #[pt d, .string dir] W0 (K ++ (s.G d M ++ H)) (fun v H' => ∃ (jb : Nat) (a : Option Addr) (c : Nat) (rg : Grp) (s' : DS), v = .tuple #[pt jb, .int .i64 0] ∧ JOwn j a c rg ∧ s'.ok M' ∧ H' = jAt jb d j a c :: rg :: (K ++ (s'.G d M' ++ H))) := by
  obtain ⟨z, w, i, h, h1, h2, h3⟩ := hM.ex
  refine Tri.mono (open_ hs z w i h h1 ⟨h2, h3⟩ K d dir hdir W0 H) fun v H' hr => ?_
  unfold OpenR at hr
  rw [he] at hr
  obtain ⟨jb, rv, rg, s', hv, ho, hs', hH⟩ := hr
  obtain ⟨a, c, rfl, _, _⟩ := Go.Sw.Own.shape ho
  exact ⟨jb, a, c, rg, s', hv, ho, hs', hH⟩
theorem callR_to {r : Int × JM × DM} {e : Int} {j' : JM} {M' : DM} {jb d : Nat} {K H : List Grp} {v : Value} {H' : List Grp} (h : CallR r jb d K H v H') (he : r = (e, j', M')) :
    ∃ (a : Option Addr) (c : Nat) (rg : Grp) (s' : DS), v = .int .i64 e ∧ JOwn j' a c rg ∧ s'.ok M' ∧ H' = jAt jb d j' a c :: rg :: (K ++ (s'.G d M' ++ H)) := by
  subst he
  obtain ⟨rv, rg, s', hv, ho, hs', hH⟩ := h
  obtain ⟨a, c, rfl, _, _⟩ := Go.Sw.Own.shape ho
  exact ⟨a, c, rg, s', hv, ho, hs', hH⟩
theorem jAdd {s : DS} {M M' : DM} {j j' : JM} {t : ByteArray} {e : Int} (hs : s.ok M) (hM : RoomM M) (hj : JSmall j) (ht : t.size ≤ 4000000) (he : addM j M t = (e, j', M')) (K : List Grp) (jb d : Nat) {a : Option Addr} {c : Nat} {rg : Grp} (ho : JOwn j a c rg) (W0 : World) (H : List Grp) :
    Tri Tryz.prog 17 #[pt jb, .string t] W0 (jAt jb d j a c :: rg :: (K ++ (s.G d M ++ H))) (fun v H' => ∃ (a' : Option Addr) (c' : Nat) (rg' : Grp) (s' : DS), v = .int .i64 e ∧ JOwn j' a' c' rg' ∧ s'.ok M' ∧ H' = jAt jb d j' a' c' :: rg' :: (K ++ (s'.G d M' ++ H))) := by
  obtain ⟨z, w, i, h, h1, h2, h3⟩ := hM.ex
  obtain ⟨dir, L, size, down, there⟩ := j
  have hls := lineB_size t
  cases there with
  | true =>
    have hm1 := small_of (sI_append h (pathJ dir logB) (lineB t)) (by omega) (by omega) (by omega)
    exact Tri.mono (addTrue_ hs hM.small K jb d dir _ rg L size down ho hj.dir hj.len hj.size t (by omega) hm1 W0 H) fun v H' hr => callR_to hr he
  | false =>
    have hw := sI_write (ScrI.up h (show z ≤ z + (lineB t).size by omega) (Nat.le_refl _) (Nat.le_refl _)) (pathJ dir logB) (b := lineB t) (by omega)
    have hm1 := small_of hw (by omega) (by omega) (by omega)
    have hm2 := small_of (sI_sync hw (pathJ dir logB)) (by omega) (by omega) (by omega)
    exact Tri.mono (addFalse_ hs hM.small K jb d dir _ rg L size down ho hj.dir hj.len hj.size t (by omega) hm1 hm2 W0 H) fun v H' hr => callR_to hr he
theorem jRep {s : DS} {M M' : DM} {j j' : JM} {ts : List ByteArray} {e : Int} (hs : s.ok M) (hM : RoomM M) (hj : JSmall j) (hb : (linesB ts).size ≤ 4000000) (he : replaceM j M ts = (e, j', M')) (K : List Grp) (jb d : Nat) {a : Option Addr} {c : Nat} {rg : Grp} (ho : JOwn j a c rg)
    (ta : Option Addr) (tc : Nat) (S : Nat → Obj → Prop) (hrd : Rd S ta (strs ts)) (hn : ta = none → ts.length = 0) (W0 : World) (H : List Grp) (hS : ∀ y o, S y o → At W0 (rg :: K) y o) :
    Tri Tryz.prog 18 #[pt jb, .slice ta ts.length tc] W0 (jAt jb d j a c :: rg :: (K ++ (s.G d M ++ H))) (fun v H' => ∃ (a' : Option Addr) (c' : Nat) (rg' : Grp) (s' : DS), v = .int .i64 e ∧ JOwn j' a' c' rg' ∧ s'.ok M' ∧ H' = jAt jb d j' a' c' :: rg' :: (K ++ (s'.G d M' ++ H))) := by
  obtain ⟨z, w, i, h, h1, h2, h3⟩ := hM.ex
  obtain ⟨dir, L, size, down, there⟩ := j
  have hl := lines_len ts
  have r3 := rep3 (ScrI.up h (show z ≤ z + (linesB ts).size by omega) (Nat.le_refl _) (Nat.le_refl _)) (by omega) (by omega) dir (b := linesB ts) (by omega)
  cases there with
  | true => exact Tri.mono (repTrue_ hs hM.small K jb d dir _ rg L size down ho hj.dir hj.len hj.size ta tc ts S hrd (by omega) hn (by omega) r3.m1 r3.m2 r3.m3 W0 H hS) fun v H' hr => callR_to hr he
  | false => exact Tri.mono (repFalse_ hs hM.small K jb d dir _ rg L size down ho hj.dir hj.len hj.size ta tc ts S hrd (by omega) hn (by omega) r3.m1 r3.m2 r3.m3 W0 H hS) fun v H' hr => callR_to hr he
theorem jRecords {j : JM} (hj : JSmall j) (jb d : Nat) {a : Option Addr} {c : Nat} {rg : Grp} (ho : JOwn j a c rg) (W0 : World) (H : List Grp) :
    Tri Tryz.prog 15 #[pt jb] W0 (jAt jb d j a c :: rg :: H) (fun v H' => ∃ (a' : Option Addr) (c' : Nat) (g : Grp), v = .slice a' j.L.length c' ∧ Rd (inG g) a' (strs j.L) ∧ H' = g :: jAt jb d j a c :: rg :: H) := by
  obtain ⟨dir, L, size, down, there⟩ := j
  refine Tri.mono (records_ jb d dir a c rg L size down there ho hj.len W0 H) fun v H' ⟨g, hg, hH⟩ => ?_
  obtain ⟨a', c', rfl, _, hr⟩ := Go.Sw.Own.shape hg
  exact ⟨a', c', g, rfl, hr, hH⟩
theorem jSize {j : JM} (jb d : Nat) {a : Option Addr} {c : Nat} (W0 : World) (H : List Grp) :
    Tri Tryz.prog 16 #[pt jb] W0 (jAt jb d j a c :: H) (fun v H' => v = .int .i64 j.size ∧ H' = jAt jb d j a c :: H) := by
  obtain ⟨dir, L, size, down, there⟩ := j
  exact size_ jb d dir a c L size down there W0 H
end Go.Proofs.YtlaoeiaaeifidaaGreat
namespace Go.Jr
open Go.Sw Go.Lib Go.Vf Go.Sha Go.Proofs.YtlaoeiaaeifidaaGreat
def Good (dir : ByteArray) : Prop := (!rightB dir || decide (slash dir ≥ 0)) = false
theorem open_fresh {M : DM} {dir : ByteArray} (hd : Good dir) (hl : lookN M.names (pathJ dir logB) = none) : openM M dir = (0, some ⟨dir, [], 0, false, false⟩, M) :=
  open_no hd (by unfold readM; rw [hl]; rfl)
theorem open_log {M : DM} {dir : ByteArray} {k : Int} {L : List ByteArray} (hd : Good dir) (hl : lookN M.names (pathJ dir logB) = some k) (hb : (bodyAt M k).now = linesB L) (hL : ∀ t ∈ L, rightJ t = true) :
    openM M dir = (0, some ⟨dir, L, ((linesB L).size : Int), false, true⟩, M) := by
  have hr : readM M (pathJ dir logB) = (linesB L, 0) := by rw [readM_ok hl, hb]
  exact open_whole hd (by rw [hr]; rfl) (by rw [hr]; exact parse_lines hL) (by rw [show (ByteArray.empty.toList == (ByteArray.mk #[]).toList) = true from beq_self_eq_true _]; rfl)
def oneM (room : Int) (p c : ByteArray) : DM := ⟨room, [⟨c, c⟩], [(p, 0)], [(p, 0)], [], false, false, 0⟩
def twoM (room : Int) (p c b : ByteArray) : DM := ⟨room, [⟨c, c⟩, ⟨b, b⟩], [(p, 1)], [(p, 1)], [], false, false, 0⟩
theorem new0 {room : Int} (h : 0 ≤ room) : newM room = ⟨room, [], [], [], [], false, false, 0⟩ := by unfold newM; rw [if_neg (by omega)]
theorem wri_one {room : Int} {dir l : ByteArray} (h : 0 ≤ room) : wriD (newM room) dir l = oneM room (pathJ dir logB) l := by
  rw [new0 h]
  unfold wriD oneM chOf withN applyN
  simp [withN]
theorem app_one {room : Int} {p c l : ByteArray} : appD (oneM room p c) 0 l = oneM room p (c ++ l) := by unfold appD setBody bodyAt oneM; simp
theorem used_one {room : Int} {p c : ByteArray} : usedM (oneM room p c) = c.size := by show c.size + 0 = _; omega
theorem look_one {room : Int} {p c : ByteArray} : lookN (oneM room p c).names p = some 0 := by show (if p == p then some (0 : Int) else none) = _; rw [if_pos (beq_self_eq_true p)]
theorem rep_two {room : Int} {dir c b : ByteArray} (h : Pth dir) : repD (oneM room (pathJ dir logB) c) dir b = twoM room (pathJ dir logB) c b := by
  unfold repD repN repC twoM oneM chOf
  have e1 := h.ne
  have e2 := h.ne'
  simp [applyN, withN, e1, e2]
theorem crash_one {room : Int} {p c : ByteArray} {ks : List Int} : crashM (oneM room p c) ks = oneM room p c := by
  unfold crashM oneM
  simp [crashB, dirsOf, onceL, sortB, crashD]
theorem roomy_new {room : Int} (h : 0 ≤ room) : RoomM (newM room) := RoomM.of (scr_new 0 room) (by omega) (by omega) (by omega)
theorem roomy_one {room : Int} {p c : ByteArray} (hp : rightB p = true) (hc : c.size ≤ 5000000) : RoomM (oneM room p c) :=
  RoomM.of (z := 5000000) (w := 10) (i := 10) ⟨by show 1 ≤ 10; omega, fun B hB => by rw [List.mem_singleton.1 hB]; exact ⟨hc, Nat.le_refl _⟩, by show 1 ≤ 10; omega, by show 1 + 0 ≤ 10; omega, by show 0 ≤ 10; omega, by show (-9223372036854775808 : Int) ≤ 0 ∧ (0 : Int) ≤ 9223372036854775807; omega,
    fun x hx => by rw [List.mem_singleton.1 hx]; exact hp, fun x hx => by rw [List.mem_singleton.1 hx]; exact hp, fun c hc => absurd hc List.not_mem_nil⟩ (by omega) (by omega) (by omega)
def dJ : ByteArray := ByteArray.mk #[106]
def tA : ByteArray := ByteArray.mk #[97]
def tB : ByteArray := ByteArray.mk #[98]
def tBn : ByteArray := ByteArray.mk #[98, 10]
def tC : ByteArray := ByteArray.mk #[99]
theorem pthJ : Pth dJ := ⟨by decide +kernel, by decide +kernel, by decide +kernel, by decide +kernel, by decide +kernel, by decide +kernel⟩
theorem goodJ : Good dJ := by unfold Good; decide +kernel
theorem rA : rightJ tA = true := by decide +kernel
theorem rB_ : rightJ tB = true := by decide +kernel
theorem rBn : rightJ tBn = false := by decide +kernel
theorem rC : rightJ tC = true := by decide +kernel
def pJl : ByteArray := pathJ dJ logB
def fJ0 : JM := ⟨dJ, [], 0, false, false⟩
def fJ1 : JM := ⟨dJ, [tA], 19, false, true⟩
def fJ2 : JM := ⟨dJ, [tA, tB], 38, false, true⟩
def fJ3 : JM := ⟨dJ, [tC], 19, false, true⟩
def gM0 : DM := newM 10000
def gM1 : DM := oneM 10000 pJl (lineB tA)
def gM2 : DM := oneM 10000 pJl (linesB [tA, tB])
def gM3 : DM := twoM 10000 pJl (linesB [tA, tB]) (linesB [tC])
theorem l1 (t : ByteArray) : linesB [t] = lineB t := linesB_one t
theorem zA : (lineB tA).size = 19 := lineB_size tA
theorem zAB : (linesB [tA, tB]).size = 38 := by show (lineB tA ++ linesB [tB]).size = 38; rw [l1, ByteArray.size_append, lineB_size, lineB_size]; rfl
theorem zC : (linesB [tC]).size = 19 := by rw [l1]; exact lineB_size tC
theorem f_open0 : openM gM0 dJ = (0, some fJ0, gM0) := open_fresh goodJ (by rw [show gM0 = _ from new0 (by decide)]; rfl)
theorem f_add1 : addM fJ0 gM0 tA = (0, fJ1, gM1) := by
  have := add_first (M := gM0) (t := tA) pthJ (by rw [show gM0 = _ from new0 (by decide)]) rA (by rw [show gM0 = _ from new0 (by decide), zA]; show ((0 : Nat) : Int) - ((0 : Nat) : Int) + ((19 : Nat) : Int) ≤ 10000; omega)
  rw [show wriD gM0 dJ (lineB tA) = gM1 from wri_one (by decide), zA] at this
  exact this
theorem f_add2 : addM fJ1 gM1 tBn = (2, fJ1, gM1) := add_bad rBn
theorem f_add3 : addM fJ1 gM1 tB = (0, fJ2, gM2) := by
  have := add_next (M := gM1) (t := tB) (L := [tA]) (z := 19) (k := 0) pthJ rfl rB_ look_one (by show 0 < 1; omega) (by rw [show gM1 = oneM 10000 pJl (lineB tA) from rfl, used_one, zA, lineB_size]; show ((19 : Nat) : Int) + ((1 + 18 : Nat) : Int) ≤ 10000; omega)
  rw [show appD gM1 0 (lineB tB) = oneM 10000 pJl (lineB tA ++ lineB tB) from app_one, lineB_size] at this
  rw [show gM2 = oneM 10000 pJl (lineB tA ++ linesB [tB]) from rfl, l1]
  exact this
theorem f_crash : crashM gM2 [] = gM2 := crash_one
theorem f_right2 : ∀ t ∈ [tA, tB], rightJ t = true := fun t h => by
  rcases List.mem_cons.1 h with rfl | h
  · exact rA
  · rw [List.mem_singleton.1 h]; exact rB_
theorem f_open2 : openM gM2 dJ = (0, some fJ2, gM2) := by
  have := open_log (M := gM2) (k := 0) (L := [tA, tB]) goodJ look_one rfl f_right2
  rw [zAB] at this; exact this
theorem f_rep : replaceM fJ2 gM2 [tC] = (0, fJ3, gM3) := by
  have := rep_good (M := gM2) (dir := dJ) (L := [tA, tB]) (ts := [tC]) (z := 38) (th := true) pthJ rfl (fun t h => by rw [List.mem_singleton.1 h]; exact rC) (by rw [show gM2 = oneM 10000 pJl (linesB [tA, tB]) from rfl, used_one, zAB, zC]; show ((38 : Nat) : Int) - ((0 : Nat) : Int) + ((19 : Nat) : Int) ≤ 10000; omega)
  rw [show repD gM2 dJ (linesB [tC]) = gM3 from rep_two pthJ, zC] at this
  exact this
theorem g_r0 : RoomM gM0 := roomy_new (by decide)
theorem g_r1 : RoomM gM1 := roomy_one pthJ.rp (by rw [zA]; omega)
theorem g_r2 : RoomM gM2 := roomy_one pthJ.rp (by rw [zAB]; omega)
theorem g_s0 : JSmall fJ0 := ⟨by decide, by decide, by decide⟩
theorem g_s1 : JSmall fJ1 := ⟨by decide, by decide, by decide⟩
theorem g_s2 : JSmall fJ2 := ⟨by decide, by decide, by decide⟩
theorem g_s3 : JSmall fJ3 := ⟨by decide, by decide, by decide⟩
end Go.Jr
namespace Go.Proofs.YtlaoeiaaeifidaaGreat
open Go.Sw Go.Lib Go.Vf Go.Sha Go.Jr Go.RowKit
theorem same_no {A B : List ByteArray} {k : Nat} (hk : k < A.length) (h : (!((A.getD k default).toList == (B.getD k default).toList)) = true) : A ≠ B := fun e => by
  subst e; simp at h
theorem same_yes {A B : List ByteArray} {k : Nat} (hl : A.length = B.length) (hk : A.length ≤ k) (h : ∀ j, j < k → A.getD j default = B.getD j default) : A = B := by
  apply List.ext_getElem hl
  intro j h1 h2
  have := h j (by omega)
  simpa [List.getD, h1, h2] using this
theorem same_succ {A B : List ByteArray} {k : Nat} (h : ∀ j, j < k → A.getD j default = B.getD j default) (hk : (!((A.getD k default).toList == (B.getD k default).toList)) = false) : ∀ j, j < k + 1 → A.getD j default = B.getD j default := fun j hj => by
  rcases Nat.lt_or_ge j k with h' | h'
  · exact h j h'
  · have : j = k := by omega
    subst this
    have h1 : (A.getD j default).toList = (B.getD j default).toList := by simpa using hk
    rw [toList_data, toList_data] at h1
    exact ByteArray.ext (Array.toList_inj.1 h1)
theorem same_ (a1 : Option Addr) (c1 : Nat) (L1 : List ByteArray) (S1 : Nat → Obj → Prop) (hrd1 : Rd S1 a1 (strs L1)) (hl1 : L1.length ≤ 1000000000) (a2 : Option Addr) (c2 : Nat) (L2 : List ByteArray) (S2 : Nat → Obj → Prop) (hrd2 : Rd S2 a2 (strs L2)) (hl2 : L2.length ≤ 1000000000) (W0 : World) (H : List Grp) (hS1 : ∀ y o, S1 y o → At W0 H y o) (hS2 : ∀ y o, S2 y o → At W0 H y o) : Tri Tryz.prog 14 #[.slice a1 L1.length c1, .slice a2 L2.length c2] W0 H (fun v H' => v = .bool (decide (L1 = L2)) ∧ H' = H) := by
 refine Tri_of (args := [.slice a1 L1.length c1, .slice a2 L2.length c2]) (n := 26) Tryz.func14 rfl rfl (Nat.le_of_ble_eq_true rfl) ?_
 refine G_seq ?_
 refine G_pure (E':=[⟨0,[],.slice a1 L1.length c1⟩,⟨1,[],.slice a2 L2.length c2⟩]) [0] [0,1] rfl kr ?_
 refine N_then ?_
 refine G_seq ?_
 refine G_seq ?_
 refine G_pure (E':=[⟨0,[],.slice a1 L1.length c1⟩,⟨1,[],.slice a2 L2.length c2⟩,⟨10,[],.bool (((L1.length : Nat) : Int) != ((L2.length : Nat) : Int))⟩]) [0,0,0,0,0] [0,1,10] rfl kr ?_
 refine N_then ?_
 refine G_cond (b:=((L1.length : Nat) : Int) != ((L2.length : Nat) : Int)) kr (fun hc1=>?_) (fun hc1=>?_)
 ·
  have hne : ¬ L1.length = L2.length := fun e9 => by simp [e9] at hc1
  refine G_seq ?_
  refine G_pure (E':=[⟨4,[],.bool false⟩]) [0] [4] rfl kr ?_
  refine N_then ?_
  refine G_ret ?_
  refine N_then_ret ?_
  refine N_ret [.tmp 4] [.bool false] rfl kr rfl ?_
  exact ⟨by rw [decide_eq_false (fun e => hne (by rw [e]))]; rfl, rfl⟩
 ·
  have heq : L1.length = L2.length := by (have h9 : (L1.length : Int) = L2.length := by simpa using hc1); omega
  refine G_skip ?_
  refine N_then ?_
  refine G_seq ?_
  refine G_seq ?_
  refine G_pure (E':=[⟨0,[],.slice a1 L1.length c1⟩,⟨1,[],.slice a2 L2.length c2⟩,⟨12,[],.int .i64 ((L1.length : Nat) : Int)⟩,⟨13,[],.int .i64 0⟩]) [0,0,0] [0,1,12,13] rfl kr ?_
  refine N_then ?_
  refine G_block ?_
  refine G_loop (EI:=(fun ξ : Nat=>[⟨0,[],.slice a1 L1.length c1⟩,⟨1,[],.slice a2 L2.length c2⟩,⟨12,[],.int .i64 ((L1.length : Nat) : Int)⟩,⟨13,[],.int .i64 ((ξ : Nat) : Int)⟩])) (HI:=(fun ξ : Nat=>H)) (Φ:=(fun ξ : Nat=>(ξ ≤ L1.length)∧(∀ j,j < ξ → L1.getD j default = L2.getD j default))) (μ:=(fun ξ : Nat=>L1.length - ξ)) (s0:=(0)) [0,1,12,13] kr rfl ⟨(by omega),(fun j h=>absurd h (Nat.not_lt_zero j))⟩ ?_
  rintro k ⟨hk, hA⟩
  refine G_seq ?_
  refine G_pure (E':=[⟨0,[],.slice a1 L1.length c1⟩,⟨1,[],.slice a2 L2.length c2⟩,⟨12,[],.int .i64 ((L1.length : Nat) : Int)⟩,⟨13,[],.int .i64 ((k : Nat) : Int)⟩,⟨14,[],.bool (decide (((k : Nat) : Int) < ((L1.length : Nat) : Int)))⟩]) [0] [0,1,12,13,14] rfl kr ?_
  refine N_then ?_
  refine G_seq ?_
  refine G_cond (b:=decide (((k : Nat) : Int) < ((L1.length : Nat) : Int))) kr (fun hc2=>?_) (fun hc2=>?_)
  ·
   simp at hc2
   refine G_skip ?_
   refine N_then ?_
   refine G_seq ?_
   refine G_block ?_
   refine G_seq ?_
   refine G_pure (E':=[⟨0,[],.slice a1 L1.length c1⟩,⟨1,[],.slice a2 L2.length c2⟩,⟨5,[],.int .i64 ((k : Nat) : Int)⟩,⟨12,[],.int .i64 ((L1.length : Nat) : Int)⟩,⟨13,[],.int .i64 ((k : Nat) : Int)⟩]) [0,0] [0,1,5,12,13] rfl kr ?_
   refine N_then ?_
   refine G_seq ?_
   refine G_regionD kr kr ?_
   refine GL_pure (E':=[⟨17,[],.int .i64 ((k : Nat) : Int)⟩,⟨16,[],.slice a1 L1.length c1⟩,⟨0,[],.slice a1 L1.length c1⟩,⟨1,[],.slice a2 L2.length c2⟩,⟨5,[],.int .i64 ((k : Nat) : Int)⟩,⟨12,[],.int .i64 ((L1.length : Nat) : Int)⟩,⟨13,[],.int .i64 ((k : Nat) : Int)⟩]) [0,0] kr (j:=2) rfl ?_
   refine GL_indexAddr (i:=2) (ch:=[]) (a:=a1) (len:=L1.length) (cap:=c1) (kd:=.i64) (j:=((k : Nat) : Int)) (e:=9) (sz:=1) (S:=S1) (cs:=(strs L1)) rfl rfl kr kr kr kr kr kr kr hrd1 (fun _=>by exact ⟨by omega,by omega,strs_ne (by omega)⟩) ?_
   refine GL_loadS (i:=3) (ch:=[]) (a:=a1) (q:=k * 1) (S:=S1) (cs:=(strs L1)) (v:=.string (L1.getD k default)) rfl rfl kr kr kr kr kr hrd1 hS1 (fun _=>(by rw [Nat.mul_one]; exact strs_at (by omega))) ?_
   refine GL_pure (E':=[⟨21,[],.int .i64 ((k : Nat) : Int)⟩,⟨20,[],.slice a2 L2.length c2⟩,⟨19,[],.string (L1.getD k default)⟩,⟨0,[],.slice a1 L1.length c1⟩,⟨1,[],.slice a2 L2.length c2⟩,⟨12,[],.int .i64 ((L1.length : Nat) : Int)⟩,⟨13,[],.int .i64 ((k : Nat) : Int)⟩]) [0,0] kr (j:=6) rfl ?_
   refine GL_indexAddr (i:=6) (ch:=[]) (a:=a2) (len:=L2.length) (cap:=c2) (kd:=.i64) (j:=((k : Nat) : Int)) (e:=9) (sz:=1) (S:=S2) (cs:=(strs L2)) rfl rfl kr kr kr kr kr kr kr hrd2 (fun _=>by exact ⟨by omega,by omega,strs_ne (by omega)⟩) ?_
   refine GL_loadS (i:=7) (ch:=[]) (a:=a2) (q:=k * 1) (S:=S2) (cs:=(strs L2)) (v:=.string (L2.getD k default)) rfl rfl kr kr kr kr kr hrd2 hS2 (fun _=>(by rw [Nat.mul_one]; exact strs_at (by omega))) ?_
   refine GL_fin (E':=[⟨0,[],.slice a1 L1.length c1⟩,⟨1,[],.slice a2 L2.length c2⟩,⟨12,[],.int .i64 ((L1.length : Nat) : Int)⟩,⟨13,[],.int .i64 ((k : Nat) : Int)⟩,⟨24,[],.bool (!((L1.getD k default).toList == (L2.getD k default).toList))⟩]) [0] [0,1,12,13,24] rfl kr ?_
   refine N_then ?_
   refine G_cond (b:=!((L1.getD k default).toList == (L2.getD k default).toList)) kr (fun hc3=>?_) (fun hc3=>?_)
   ·
    skip
    refine G_seq ?_
    refine G_pure (E':=[⟨4,[],.bool false⟩]) [0] [4] rfl kr ?_
    refine N_then ?_
    refine G_ret ?_
    refine N_block_ret ?_
    refine N_then_ret ?_
    refine N_then_ret ?_
    refine N_block_ret ?_
    refine N_then_ret ?_
    refine N_ret [.tmp 4] [.bool false] rfl kr rfl ?_
    exact ⟨by rw [decide_eq_false (same_no (by omega) hc3)]; rfl, rfl⟩
   ·
    skip
    refine G_skip ?_
    refine N_block ?_
    refine N_then ?_
    have hw4 : IntKind.wrap .i64 (((k : Nat) : Int) + 1) = ((k : Nat) : Int) + 1 := w64 (by omega) (by omega)
    refine G_pure (E':=[⟨0,[],.slice a1 L1.length c1⟩,⟨1,[],.slice a2 L2.length c2⟩,⟨12,[],.int .i64 ((L1.length : Nat) : Int)⟩,⟨13,[],.int .i64 (((k : Nat) : Int)+1)⟩]) [0,0] [0,1,12,13] rfl (Eq.trans (b:=some [⟨0,[],.slice a1 L1.length c1⟩,⟨1,[],.slice a2 L2.length c2⟩,⟨12,[],.int .i64 ((L1.length : Nat) : Int)⟩,⟨13,[],.int .i64 (IntKind.wrap .i64 (((k : Nat) : Int)+1))⟩]) kr (by simp only [hw4])) ?_
    refine N_round (s':=(k+1)) [0,1,12,13] kr rfl ⟨(by omega),(same_succ hA hc3)⟩ (by omega)
  ·
   simp at hc2
   refine G_exit ?_
   refine N_then_exit ?_
   refine N_then_exit ?_
   refine N_block_exit ?_
   refine N_then ?_
   refine G_seq ?_
   refine G_pure (E':=[⟨4,[],.bool true⟩]) [0] [4] rfl kr ?_
   refine N_then ?_
   refine G_ret ?_
   refine N_ret [.tmp 4] [.bool true] rfl kr rfl ?_
   exact ⟨by rw [decide_eq_true (same_yes heq (by omega) hA)]; rfl, rfl⟩
set_option maxRecDepth 4000 in
set_option maxHeartbeats 1000000 in
theorem jFirst  (W0 : World) (H : List Grp) : Tri Tryz.prog 7 #[] W0 H (fun v H' => v = .bool true ∧ ∃ G, H' = G ++ H) := by
 refine Tri_of (args := []) (n := 75) Tryz.func7 rfl rfl (Nat.le_of_ble_eq_true rfl) ?_
 refine G_seq ?_
 refine G_pure (E':=[]) [0] [] rfl kr ?_
 refine N_then ?_
 refine G_seq ?_
 refine G_region ?_
 refine GL_call (i:=0) (ch:=[]) (f:=8) (fst:=#[]) (caps:=#[]) (vs:=[.int .i64 10000]) rfl rfl rfl kr kr Tryz.func8 rfl rfl kr kr (chSure_of kr) (dNew 10000 (M:=gM0) _ _ rfl) ?_
 rintro v H' ⟨d1, rfl, s1, hs1, rfl⟩
 refine GL_fin (E':=[⟨1,[],pt d1⟩]) [0] [1] rfl kr ?_
 refine N_then ?_
 refine G_seq ?_
 refine G_region ?_
 refine GL_pure (E':=[⟨10,[],pt d1⟩,⟨1,[],pt d1⟩]) [0] kr (j:=1) rfl ?_
 refine GL_call (i:=1) (ch:=[]) (f:=10) (fst:=#[]) (caps:=#[]) (vs:=[pt d1,.string (ByteArray.mk #[106])]) rfl rfl rfl kr kr Tryz.func10 rfl rfl kr kr (chSure_of kr) (jOpen hs1 g_r0 (by decide) f_open0 ([] : List Grp) d1 _ H) ?_
 rintro v H' ⟨jb2, ja3, jc4, jr5, s2, rfl, ho6, hs2, rfl⟩
 refine GL_fin (E':=[⟨1,[],pt d1⟩,⟨2,[],pt jb2⟩,⟨3,[],.int .i64 0⟩]) [0,0,0,0,0] [1,2,3] rfl kr ?_
 refine N_then ?_
 refine G_seq ?_
 refine G_seq ?_
 refine G_region ?_
 refine GL_pure (E':=[⟨21,[(20,false)],pt jb2⟩,⟨20,[],.bool false⟩,⟨1,[],pt d1⟩,⟨2,[],pt jb2⟩]) [0,0,0,0,0,3,0,0] kr (j:=8) rfl ?_
 refine GL_call (i:=8) (ch:=[(20,false)]) (f:=17) (fst:=#[]) (caps:=#[]) (vs:=[pt jb2,.string (ByteArray.mk #[97])]) rfl rfl rfl kr kr Tryz.func17 rfl rfl kr kr (chSure_of kr) (jAdd hs2 g_r0 g_s0 (by decide) f_add1 ([] : List Grp) jb2 d1 ho6 _ H) ?_
 rintro v H' ⟨ja7, jc8, jr9, s4, rfl, ho10, hs4, rfl⟩
 refine GL_pure (E':=[⟨26,[(25,false)],pt jb2⟩,⟨25,[],.bool false⟩,⟨1,[],pt d1⟩,⟨2,[],pt jb2⟩]) [0,3,0,0] kr (j:=13) rfl ?_
 refine GL_call (i:=13) (ch:=[(25,false)]) (f:=17) (fst:=#[]) (caps:=#[]) (vs:=[pt jb2,.string (ByteArray.mk #[98,10])]) rfl rfl rfl kr kr Tryz.func17 rfl rfl kr kr (chSure_of kr) (jAdd hs4 g_r1 g_s1 (by decide) f_add2 ([] : List Grp) jb2 d1 ho10 _ H) ?_
 rintro v H' ⟨ja11, jc12, jr13, s6, rfl, ho14, hs6, rfl⟩
 refine GL_pure (E':=[⟨31,[(30,false)],pt jb2⟩,⟨30,[],.bool false⟩,⟨1,[],pt d1⟩]) [0,3,0,0] kr (j:=18) rfl ?_
 refine GL_call (i:=18) (ch:=[(30,false)]) (f:=17) (fst:=#[]) (caps:=#[]) (vs:=[pt jb2,.string (ByteArray.mk #[98])]) rfl rfl rfl kr kr Tryz.func17 rfl rfl kr kr (chSure_of kr) (jAdd hs6 g_r1 g_s1 (by decide) f_add3 ([] : List Grp) jb2 d1 ho14 _ H) ?_
 rintro v H' ⟨ja15, jc16, jr17, s8, rfl, ho18, hs8, rfl⟩
 refine GL_fin (E':=[⟨1,[],pt d1⟩,⟨34,[],.bool false⟩]) [0,3] [1,34] rfl kr ?_
 refine N_then ?_
 refine G_condf kr ?_
 refine G_skip ?_
 refine N_then ?_
 refine G_seq ?_
 refine G_region ?_
 refine GL_pure (E':=[⟨35,[],pt d1⟩,⟨1,[],pt d1⟩]) [0] kr (j:=1) rfl ?_
 refine GL_call (i:=1) (ch:=[]) (f:=28) (fst:=#[]) (caps:=#[]) (vs:=[pt d1,.slice none 0 0]) rfl rfl rfl kr kr Tryz.func28 rfl rfl kr kr (chSure_of kr) (dCrash (M':=gM2) hs8 g_r2.small d1 ([]) none 0 (fun _ _=>False) ⟨.inl rfl,by decide,by decide,fun _ h=>absurd h List.not_mem_nil⟩ [(jAt jb2 d1 fJ2 ja15 jc16),jr17] _ H (fun _ _ h=>h.elim) f_crash) ?_
 rintro v H' ⟨rfl, s9, hs9, rfl⟩
 refine GL_fin (E':=[⟨1,[],pt d1⟩]) [] [1] rfl kr ?_
 refine N_then ?_
 refine G_seq ?_
 refine G_region ?_
 refine GL_pure (E':=[⟨38,[],pt d1⟩]) [0] kr (j:=1) rfl ?_
 refine GL_call (i:=1) (ch:=[]) (f:=10) (fst:=#[]) (caps:=#[]) (vs:=[pt d1,.string (ByteArray.mk #[106])]) rfl rfl rfl kr kr Tryz.func10 rfl rfl kr kr (chSure_of kr) (jOpen hs9 g_r2 (by decide) f_open2 ([(jAt jb2 d1 fJ2 ja15 jc16),jr17] : List Grp) d1 _ H) ?_
 rintro v H' ⟨jb19, ja20, jc21, jr22, s10, rfl, ho23, hs10, rfl⟩
 refine GL_fin (E':=[⟨4,[],pt jb19⟩,⟨5,[],.int .i64 0⟩]) [0,0,0,0,0] [4,5] rfl kr ?_
 refine N_then ?_
 refine G_seq ?_
 refine G_region ?_
 refine GL_call (i:=0) (ch:=[]) (f:=10) (fst:=#[]) (caps:=#[]) (vs:=[.pointer none,.string (ByteArray.mk #[106])]) rfl rfl rfl kr kr Tryz.func10 rfl rfl kr kr (chSure_of kr) (openNil_ _ _ _) ?_
 rintro v H' ⟨rfl, rfl⟩
 refine GL_fin (E':=[⟨4,[],pt jb19⟩,⟨5,[],.int .i64 0⟩,⟨7,[],.int .i64 1⟩]) [0,0,0,0,0] [4,5,7] rfl kr ?_
 refine N_then ?_
 refine G_seq ?_
 refine G_region ?_
 refine GL_pure (E':=[⟨49,[(48,true)],pt jb19⟩,⟨48,[],.bool true⟩,⟨4,[],pt jb19⟩,⟨7,[],.int .i64 1⟩]) [0,0,0,0] kr (j:=4) rfl ?_
 refine GL_call (i:=4) (ch:=[(48,true)]) (f:=15) (fst:=#[]) (caps:=#[]) (vs:=[pt jb19]) rfl rfl rfl kr kr Tryz.func15 rfl rfl kr kr (chSure_of kr) (jRecords g_s2 jb19 d1 ho23 _ _) ?_
 rintro v H' ⟨la24, lc25, lg26, rfl, hrd27, rfl⟩
 refine GL_buildSlice (i:=5) (ch:=[(48,true)]) (e:=9) (l:=[(0,.string (ByteArray.mk #[97])),(1,.string (ByteArray.mk #[98]))]) (c:=[.string (ByteArray.mk #[97]),.string (ByteArray.mk #[98])]) rfl rfl kr kr kr kr kr (fun b28=>?_)
 refine GL_callQ (i:=6) (ch:=[(48,true)]) (f:=14) (fst:=#[]) (caps:=#[]) (vs:=[.slice la24 fJ2.L.length lc25,.slice (some ⟨b28,0,none⟩) 2 2]) (v:=.bool (decide (fJ2.L = [(ByteArray.mk #[97]),(ByteArray.mk #[98])]))) rfl rfl rfl kr kr Tryz.func14 rfl rfl kr kr kr (fun hc=>same_ la24 lc25 fJ2.L (inG lg26) hrd27 (by decide) (some ⟨b28,0,none⟩) 2 ([(ByteArray.mk #[97]),(ByteArray.mk #[98])]) (inG [(b28,.cells #[.string (ByteArray.mk #[97]),.string (ByteArray.mk #[98])] 9 (0,0))]) Rd.lit (by decide) _ _ (at_inG 1 rfl) (at_inG 0 rfl)) ?_
 refine GL_env (E':=[⟨52,[(48,true)],.bool true⟩,⟨51,[(48,true)],.slice (some ⟨b28,0,none⟩) 2 2⟩,⟨50,[(48,true)],.slice la24 fJ2.L.length lc25⟩,⟨49,[(48,true)],pt jb19⟩,⟨48,[],.bool true⟩,⟨4,[],pt jb19⟩,⟨7,[],.int .i64 1⟩]) (by have hz : ([⟨52,[(48,true)],.bool (decide (fJ2.L = [(ByteArray.mk #[97]),(ByteArray.mk #[98])]))⟩,⟨51,[(48,true)],.slice (some ⟨b28,0,none⟩) 2 2⟩,⟨50,[(48,true)],.slice la24 fJ2.L.length lc25⟩,⟨49,[(48,true)],pt jb19⟩,⟨48,[],.bool true⟩,⟨4,[],pt jb19⟩,⟨7,[],.int .i64 1⟩] : List Sl) = [⟨52,[(48,true)],.bool true⟩,⟨51,[(48,true)],.slice (some ⟨b28,0,none⟩) 2 2⟩,⟨50,[(48,true)],.slice la24 fJ2.L.length lc25⟩,⟨49,[(48,true)],pt jb19⟩,⟨48,[],.bool true⟩,⟨4,[],pt jb19⟩,⟨7,[],.int .i64 1⟩]:=(by rw [show decide (fJ2.L = [(ByteArray.mk #[97]),(ByteArray.mk #[98])]) = true from by decide +kernel]); exact Eq.trans kr hz) ?_
 refine GL_pure (E':=[⟨55,[(54,true)],pt jb19⟩,⟨54,[],.bool true⟩,⟨4,[],pt jb19⟩,⟨7,[],.int .i64 1⟩]) [2,0,0] kr (j:=10) rfl ?_
 refine GL_heap rfl (H':=((jAt jb19 d1 fJ2 ja20 jc21)::[(b28,.cells #[.string (ByteArray.mk #[97]),.string (ByteArray.mk #[98])] 9 (0,0))]::lg26::jr22::(jAt jb2 d1 fJ2 ja15 jc16)::jr17::(s10.G d1 gM2++H))) (fun w h=>(h.front (j:=2) rfl)) ?_
 refine GL_call (i:=10) (ch:=[(54,true)]) (f:=16) (fst:=#[]) (caps:=#[]) (vs:=[pt jb19]) rfl rfl rfl kr kr Tryz.func16 rfl rfl kr kr (chSure_of kr) (jSize jb19 d1 (a:=ja20) (c:=jc21) _ _) ?_
 rintro v H' ⟨rfl, rfl⟩
 refine GL_pure (E':=[⟨60,[(59,true)],pt jb19⟩,⟨59,[],.bool true⟩,⟨4,[],pt jb19⟩,⟨7,[],.int .i64 1⟩]) [0,2,0,0] kr (j:=15) rfl ?_
 refine GL_buildSlice (i:=15) (ch:=[(59,true)]) (e:=9) (l:=[(0,.string (ByteArray.mk #[99]))]) (c:=[.string (ByteArray.mk #[99])]) rfl rfl kr kr kr kr kr (fun b29=>?_)
 refine GL_heap rfl (H':=((jAt jb19 d1 fJ2 ja20 jc21)::jr22::[(b29,.cells #[.string (ByteArray.mk #[99])] 9 (0,0))]::[(b28,.cells #[.string (ByteArray.mk #[97]),.string (ByteArray.mk #[98])] 9 (0,0))]::lg26::(jAt jb2 d1 fJ2 ja15 jc16)::jr17::(s10.G d1 gM2++H))) (fun w h=>((h.front (j:=4) rfl).front (j:=2) rfl)) ?_
 refine GL_call (i:=16) (ch:=[(59,true)]) (f:=18) (fst:=#[]) (caps:=#[]) (vs:=[pt jb19,.slice (some ⟨b29,0,none⟩) 1 1]) rfl rfl rfl kr kr Tryz.func18 rfl rfl kr kr (chSure_of kr) (jRep (ts:=[(ByteArray.mk #[99])]) hs10 g_r2 g_s2 (Nat.le_trans (Nat.le_of_eq zC) (by omega)) f_rep ([[(b29,.cells #[.string (ByteArray.mk #[99])] 9 (0,0))],[(b28,.cells #[.string (ByteArray.mk #[97]),.string (ByteArray.mk #[98])] 9 (0,0))],lg26,(jAt jb2 d1 fJ2 ja15 jc16),jr17] : List Grp) jb19 d1 ho23 (some ⟨b29,0,none⟩) 1 (inG [(b29,.cells #[.string (ByteArray.mk #[99])] 9 (0,0))]) Rd.lit (fun h=>by cases h) _ H (at_inG 1 rfl)) ?_
 rintro v H' ⟨ja30, jc31, jr32, s12, rfl, ho33, hs12, rfl⟩
 refine GL_pure (E':=[⟨66,[(65,true)],pt jb19⟩,⟨65,[],.bool true⟩,⟨7,[],.int .i64 1⟩]) [0,2,0,0] kr (j:=21) rfl ?_
 refine GL_call (i:=21) (ch:=[(65,true)]) (f:=15) (fst:=#[]) (caps:=#[]) (vs:=[pt jb19]) rfl rfl rfl kr kr Tryz.func15 rfl rfl kr kr (chSure_of kr) (jRecords g_s3 jb19 d1 ho33 _ _) ?_
 rintro v H' ⟨la34, lc35, lg36, rfl, hrd37, rfl⟩
 refine GL_buildSlice (i:=22) (ch:=[(65,true)]) (e:=9) (l:=[(0,.string (ByteArray.mk #[99]))]) (c:=[.string (ByteArray.mk #[99])]) rfl rfl kr kr kr kr kr (fun b38=>?_)
 refine GL_callQ (i:=23) (ch:=[(65,true)]) (f:=14) (fst:=#[]) (caps:=#[]) (vs:=[.slice la34 fJ3.L.length lc35,.slice (some ⟨b38,0,none⟩) 1 1]) (v:=.bool (decide (fJ3.L = [(ByteArray.mk #[99])]))) rfl rfl rfl kr kr Tryz.func14 rfl rfl kr kr kr (fun hc=>same_ la34 lc35 fJ3.L (inG lg36) hrd37 (by decide) (some ⟨b38,0,none⟩) 1 ([(ByteArray.mk #[99])]) (inG [(b38,.cells #[.string (ByteArray.mk #[99])] 9 (0,0))]) Rd.lit (by decide) _ _ (at_inG 1 rfl) (at_inG 0 rfl)) ?_
 refine GL_env (E':=[⟨69,[(65,true)],.bool true⟩,⟨68,[(65,true)],.slice (some ⟨b38,0,none⟩) 1 1⟩,⟨67,[(65,true)],.slice la34 fJ3.L.length lc35⟩,⟨66,[(65,true)],pt jb19⟩,⟨65,[],.bool true⟩,⟨7,[],.int .i64 1⟩]) (by have hz : ([⟨69,[(65,true)],.bool (decide (fJ3.L = [(ByteArray.mk #[99])]))⟩,⟨68,[(65,true)],.slice (some ⟨b38,0,none⟩) 1 1⟩,⟨67,[(65,true)],.slice la34 fJ3.L.length lc35⟩,⟨66,[(65,true)],pt jb19⟩,⟨65,[],.bool true⟩,⟨7,[],.int .i64 1⟩] : List Sl) = [⟨69,[(65,true)],.bool true⟩,⟨68,[(65,true)],.slice (some ⟨b38,0,none⟩) 1 1⟩,⟨67,[(65,true)],.slice la34 fJ3.L.length lc35⟩,⟨66,[(65,true)],pt jb19⟩,⟨65,[],.bool true⟩,⟨7,[],.int .i64 1⟩]:=(by rw [show decide (fJ3.L = [(ByteArray.mk #[99])]) = true from by decide +kernel]); exact Eq.trans kr hz) ?_
 refine GL_fin (E':=[⟨0,[],.bool true⟩]) [2,0,0,0,2,0] [0] rfl kr ?_
 refine N_then ?_
 refine G_ret ?_
 refine N_ret [.tmp 0] [.bool true] rfl kr rfl ?_
 exact ⟨rfl, [[(b38, .cells #[.string (ByteArray.mk #[99])] 9 (0, 0))], lg36, (jAt jb19 d1 fJ3 ja30 jc31), jr32, [(b29, .cells #[.string (ByteArray.mk #[99])] 9 (0, 0))], [(b28, .cells #[.string (ByteArray.mk #[97]), .string (ByteArray.mk #[98])] 9 (0, 0))], lg26, (jAt jb2 d1 fJ2 ja15 jc16), jr17] ++ s12.G d1 gM3, by simp⟩
end Go.Proofs.YtlaoeiaaeifidaaGreat
namespace Go.Jr
open Go.Sw Go.Lib Go.Vf Go.Sha Go.Proofs.YtlaoeiaaeifidaaGreat
def dA : ByteArray := ByteArray.mk #[97]
def dB : ByteArray := ByteArray.mk #[98]
theorem pthA : Pth dA := ⟨by decide +kernel, by decide +kernel, by decide +kernel, by decide +kernel, by decide +kernel, by decide +kernel⟩
theorem pthB : Pth dB := ⟨by decide +kernel, by decide +kernel, by decide +kernel, by decide +kernel, by decide +kernel, by decide +kernel⟩
theorem goodA : Good dA := by unfold Good; decide +kernel
theorem goodB : Good dB := by unfold Good; decide +kernel
def pA : ByteArray := pathJ dA logB
def pB : ByteArray := pathJ dB logB
def qB : ByteArray := pathJ dB newB
theorem pAB : (pA == pB) = false := by decide +kernel
theorem pBA : (pB == pA) = false := by decide +kernel
theorem qBA : (qB == pA) = false := by decide +kernel
def Fine (R : List ByteArray) (n : Nat) : Prop := (∀ t ∈ R, rightJ t = true ∧ t.size ≤ 1000) ∧ R.length ≤ n
theorem fine0 : Fine [] 0 := ⟨fun _ h => absurd h List.not_mem_nil, Nat.le_refl _⟩
theorem Fine.up {R : List ByteArray} {n : Nat} (h : Fine R n) : Fine R (n + 1) := ⟨h.1, by have := h.2; omega⟩
theorem Fine.snoc {R : List ByteArray} {n : Nat} {t : ByteArray} (h : Fine R n) (ht : rightJ t = true) (hz : t.size ≤ 1000) : Fine (R ++ [t]) (n + 1) := ⟨fun u hu => by
  rcases List.mem_append.1 hu with hu | hu
  · exact h.1 u hu
  · rw [List.mem_singleton.1 hu]; exact ⟨ht, hz⟩, by have := h.2; rw [List.length_append]; simp; omega⟩
theorem fine_size : ∀ {R : List ByteArray} {n : Nat}, Fine R n → (linesB R).size ≤ 1018 * R.length
  | [], _, _ => Nat.zero_le _
  | t :: R, n, h => by
    have ih := fine_size (R := R) (n := R.length) ⟨fun u hu => h.1 u (List.mem_cons_of_mem _ hu), Nat.le_refl _⟩
    have ht := (h.1 t List.mem_cons_self).2
    show (lineB t ++ linesB R).size ≤ 1018 * (R.length + 1)
    rw [ByteArray.size_append, lineB_size]; omega
theorem Fine.le {R : List ByteArray} {n : Nat} (h : Fine R n) (hn : n ≤ 30) : (linesB R).size ≤ 30540 ∧ R.length ≤ 30 := by
  have := fine_size h; have := h.2; omega
def aJ (R : List ByteArray) : JM := ⟨dA, R, ((linesB R).size : Int), false, !R.isEmpty⟩
def aM (R : List ByteArray) : DM := if R.isEmpty then newM 1048576 else oneM 1048576 pA (linesB R)
def bJ0 : JM := ⟨dB, [], 0, false, false⟩
def bJ (R : List ByteArray) : JM := ⟨dB, R, ((linesB R).size : Int), false, true⟩
def sM (R : List ByteArray) : DM := if R.isEmpty then ⟨1048576, [⟨linesB R, linesB R⟩], [(pB, 0)], [(pB, 0)], [], false, false, 0⟩ else ⟨1048576, [⟨linesB R, linesB R⟩, ⟨linesB R, linesB R⟩], [(pA, 0), (pB, 1)], [(pA, 0), (pB, 1)], [], false, false, 0⟩
theorem aM_nil : aM [] = newM 1048576 := rfl
theorem s_openA0 : openM (newM 1048576) dA = (0, some (aJ []), aM []) := open_fresh goodA (by rw [new0 (by decide)]; rfl)
theorem s_openB0 : openM (aM []) dB = (0, some bJ0, aM []) := open_fresh goodB (by rw [aM_nil, new0 (by decide)]; rfl)
theorem s_add {R : List ByteArray} {t : ByteArray} {n : Nat} (h : Fine R n) (hn : n ≤ 30) (ht : rightJ t = true) (hz : t.size ≤ 1000) : addM (aJ R) (aM R) t = (0, aJ (R ++ [t]), aM (R ++ [t])) := by
  have hs := h.le hn
  have hl := lineB_size t
  cases R with
  | nil =>
    have := add_first (M := newM 1048576) (t := t) pthA (by rw [new0 (by decide)]) ht (by rw [new0 (by decide), hl]; show ((0 : Nat) : Int) - ((0 : Nat) : Int) + ((t.size + 18 : Nat) : Int) ≤ 1048576; omega)
    rw [wri_one (by decide)] at this
    show addM _ (newM 1048576) t = (0, (⟨dA, [t], ((linesB [t]).size : Int), false, true⟩ : JM), oneM 1048576 pA (linesB [t]))
    rw [l1]; exact this
  | cons u R =>
    have := add_next (M := oneM 1048576 pA (linesB (u :: R))) (t := t) (L := u :: R) (z := ((linesB (u :: R)).size : Int)) (k := 0) pthA rfl ht look_one (by show 0 < 1; omega) (by rw [used_one, hl]; show (((linesB (u :: R)).size : Nat) : Int) + ((t.size + 18 : Nat) : Int) ≤ 1048576; omega)
    rw [app_one] at this
    show addM _ (oneM 1048576 pA (linesB (u :: R))) t = (0, (⟨dA, (u :: R) ++ [t], ((linesB ((u :: R) ++ [t])).size : Int), false, true⟩ : JM), oneM 1048576 pA (linesB ((u :: R) ++ [t])))
    rw [linesB_snoc, ByteArray.size_append]
    exact this
theorem s_bad {R : List ByteArray} {t : ByteArray} (ht : rightJ t = false) : addM (aJ R) (aM R) t = (2, aJ R, aM R) := add_bad ht
theorem s_rep {R : List ByteArray} {n : Nat} (h : Fine R n) (hn : n ≤ 30) : replaceM bJ0 (aM R) R = (0, bJ R, sM R) := by
  have hs := h.le hn
  cases R with
  | nil =>
    have := rep_good (M := newM 1048576) (dir := dB) (L := []) (ts := []) (z := 0) (th := false) pthB (by rw [new0 (by decide)]) (fun t h => absurd h List.not_mem_nil) (by rw [new0 (by decide)]; show ((0 : Nat) : Int) - ((0 : Nat) : Int) + ((0 : Nat) : Int) ≤ 1048576; omega)
    refine this.trans ?_
    refine congrArg (fun x => ((0 : Int), bJ [], x)) ?_
    rw [new0 (by decide)]
    have e1 := pthB.ne
    have e2 := pthB.ne'
    unfold repD repN repC chOf sM
    simp [applyN, withN, e1, e2, pB]
  | cons u R =>
    have := rep_good (M := oneM 1048576 pA (linesB (u :: R))) (dir := dB) (L := []) (ts := u :: R) (z := 0) (th := false) pthB rfl (fun t ht => (h.1 t ht).1) (by
      have hw : wasM (oneM 1048576 pA (linesB (u :: R))) (pathJ dB newB) = 0 := by
        have : lookN (oneM 1048576 pA (linesB (u :: R))).names (pathJ dB newB) = none := by
          show (if qB == pA then some (0 : Int) else none) = none
          rw [qBA]; rfl
        unfold wasM; rw [this]
      rw [used_one, hw]; show (((linesB (u :: R)).size : Nat) : Int) - ((0 : Nat) : Int) + (((linesB (u :: R)).size : Nat) : Int) ≤ 1048576; omega)
    refine this.trans ?_
    refine congrArg (fun x => ((0 : Int), bJ (u :: R), x)) ?_
    have e1 : (pathJ dB newB == pathJ dB logB) = false := pthB.ne
    have e2 : (pathJ dB logB == pathJ dB newB) = false := pthB.ne'
    have e3 : (pathJ dB newB == pA) = false := qBA
    have e4 : (pathJ dB logB == pA) = false := pBA
    unfold repD repN repC chOf sM oneM
    simp [applyN, withN, e1, e2, e3, e4, pB]
theorem s_look {R : List ByteArray} : lookN (sM R).names pB = some (if R.isEmpty then 0 else 1) := by
  cases R with
  | nil => show (if pB == pB then some (0 : Int) else none) = _; rw [if_pos (beq_self_eq_true pB)]; rfl
  | cons u R => show (if pB == pA then some (0 : Int) else if pB == pB then some 1 else none) = _; rw [pBA, if_pos (beq_self_eq_true pB)]; rfl
theorem s_readB (R : List ByteArray) : readM (sM R) pB = (linesB R, 0) := by
  rw [readM_ok s_look]
  cases R <;> rfl
theorem s_readA (R : List ByteArray) : readM (sM R) pA = (linesB R, if R.isEmpty then 60 else 0) := by
  cases R with
  | nil =>
    have : lookN (sM []).names pA = none := by show (if pA == pB then some (0 : Int) else none) = none; rw [pAB]; rfl
    unfold readM; rw [this]; rfl
  | cons u R =>
    have : lookN (sM (u :: R)).names pA = some 0 := by show (if pA == pA then some (0 : Int) else _) = _; rw [if_pos (beq_self_eq_true pA)]
    rw [readM_ok this]; rfl
theorem s_open {R : List ByteArray} {n : Nat} (h : Fine R n) : openM (sM R) dA = (0, some (aJ R), sM R) := by
  cases R with
  | nil => exact open_fresh goodA (by show (if pA == pB then some (0 : Int) else none) = none; rw [pAB]; rfl)
  | cons u R => exact open_log (k := 0) goodA (by show (if pA == pA then some (0 : Int) else _) = _; rw [if_pos (beq_self_eq_true pA)]) rfl (fun t ht => (h.1 t ht).1)
theorem s_list (R : List ByteArray) : listM (sM R) dB = [pB] := by
  have h1 : ((dirB pA).toList == dB.toList) = false := by decide +kernel
  have h2 : ((dirB pB).toList == dB.toList) = true := by decide +kernel
  cases R with
  | nil =>
    show sortB (([(pB, (0 : Int))].filter fun n => (dirB n.1).toList == dB.toList).map Prod.fst) = _
    rw [List.filter_cons, if_pos (by simpa using h2)]
    show sortB [pB] = [pB]; decide +kernel
  | cons u R =>
    show sortB (([(pA, (0 : Int)), (pB, 1)].filter fun n => (dirB n.1).toList == dB.toList).map Prod.fst) = _
    rw [List.filter_cons, if_neg (by rw [h1]; decide), List.filter_cons, if_pos (by simpa using h2)]
    show sortB [pB] = [pB]; decide +kernel
theorem s_small {R : List ByteArray} {n : Nat} (h : Fine R n) (hn : n ≤ 30) : JSmall (aJ R) := ⟨by show 1 ≤ 1000000; omega, by have := h.le hn; show R.length ≤ _; omega, by have := h.le hn; show (0 : Int) ≤ ((linesB R).size : Int) ∧ ((linesB R).size : Int) ≤ _; omega⟩
theorem s_small0 : JSmall bJ0 := ⟨by decide, by decide, by decide⟩
theorem s_roomy {R : List ByteArray} {n : Nat} (h : Fine R n) (hn : n ≤ 30) : RoomM (aM R) := by
  have hs := h.le hn
  cases R with
  | nil => exact roomy_new (by decide)
  | cons u R => exact roomy_one pthA.rp (by omega)
theorem s_roomyS {R : List ByteArray} {n : Nat} (h : Fine R n) (hn : n ≤ 30) : RoomM (sM R) := by
  have hs := h.le hn
  have hc : (-9223372036854775808 : Int) ≤ 0 ∧ (0 : Int) ≤ 9223372036854775807 := by omega
  cases R with
  | nil => exact roomy_one (c := linesB []) pthB.rp (by omega)
  | cons u R =>
    refine RoomM.of (z := 5000000) (w := 10) (i := 10) ⟨by show 2 ≤ 10; omega, fun B hB => ?_, by show 2 ≤ 10; omega, by show 2 + 0 ≤ 10; omega, by show 0 ≤ 10; omega, hc, fun x hx => ?_, fun x hx => ?_, fun c hc => absurd hc List.not_mem_nil⟩ (by omega) (by omega) (by omega)
    · rcases List.mem_cons.1 hB with rfl | hB
      · exact ⟨by show (linesB (u :: R)).size ≤ _; omega, Nat.le_refl _⟩
      · rw [List.mem_singleton.1 hB]; exact ⟨by show (linesB (u :: R)).size ≤ _; omega, Nat.le_refl _⟩
    all_goals
      rcases List.mem_cons.1 hx with rfl | hx
      · exact pthA.rp
      · rw [List.mem_singleton.1 hx]; exact pthB.rp
end Go.Jr
namespace Go.Proofs.YtlaoeiaaeifidaaGreat
open Go.Sw Go.Lib Go.Vf Go.Sha Go.Jr Go.RowKit
theorem refRight_no {s : ByteArray} {k : Nat} (hk : k < s.size) (h : byteAt s (k : Int) = 10) : rightJ s = false := by
  rw [← Bool.not_eq_true, rightJ_iff]
  exact fun e => absurd h (noLf_noB e.2 k hk)
theorem refRight_yes {s : ByteArray} {k : Nat} (hk : s.size ≤ k) (h : noB s 10 k) : rightJ s = decide ((s.size : Int) ≤ 1048576) := by
  have hn : NoLf s := noLf_of fun j hj => h j (by omega)
  rw [Bool.eq_iff_iff, rightJ_iff, decide_eq_true_iff]
  exact ⟨fun e => by have := e.1; omega, fun e => ⟨by omega, hn⟩⟩
theorem lit_readA (R : List ByteArray) : readM (sM R) (ByteArray.mk #[97, 47, 108, 111, 103]) = (linesB R, if R.isEmpty then 60 else 0) := by
  rw [show (ByteArray.mk #[97, 47, 108, 111, 103]) = pA from by decide +kernel]; exact s_readA R
theorem lit_readB (R : List ByteArray) : readM (sM R) (ByteArray.mk #[98, 47, 108, 111, 103]) = (linesB R, 0) := by
  rw [show (ByteArray.mk #[98, 47, 108, 111, 103]) = pB from by decide +kernel]; exact s_readB R
theorem refRightJ (s : ByteArray) (hs : s.size ≤ 9223372036854775807) (W0 : World) (H : List Grp) : Tri Tryz.prog 31 #[.string s] W0 H (fun v H' => v = .bool (rightJ s) ∧ H' = H) := by
 refine Tri_of (args := [.string s]) (n := 17) Tryz.func31 rfl rfl (Nat.le_of_ble_eq_true rfl) ?_
 refine G_seq ?_
 refine G_pure (E':=[⟨0,[],.string s⟩]) [0] [0] rfl kr ?_
 refine N_then ?_
 refine G_seq ?_
 refine G_seq ?_
 refine G_pure (E':=[⟨0,[],.string s⟩,⟨3,[],.int .i64 0⟩]) [0] [0,3] rfl kr ?_
 refine N_then ?_
 refine G_block ?_
 refine G_loop (EI:=(fun ξ : Nat=>[⟨0,[],.string s⟩,⟨3,[],.int .i64 ((ξ : Nat) : Int)⟩])) (HI:=(fun ξ : Nat=>H)) (Φ:=(fun ξ : Nat=>(ξ ≤ s.size)∧(noB s 10 ξ))) (μ:=(fun ξ : Nat=>s.size - ξ)) (s0:=(0)) [0,3] kr rfl ⟨(by omega),noB_zero⟩ ?_
 rintro k ⟨hk, hn⟩
 refine G_seq ?_
 refine G_seq ?_
 refine G_pure (E':=[⟨0,[],.string s⟩,⟨3,[],.int .i64 ((k : Nat) : Int)⟩,⟨7,[],.bool (decide (((k : Nat) : Int) < (s.size : Int)))⟩]) [0,0,0,0] [0,3,7] rfl kr ?_
 refine N_then ?_
 refine G_cond (b:=decide (((k : Nat) : Int) < (s.size : Int))) kr (fun hc1=>?_) (fun hc1=>?_)
 ·
  simp at hc1
  refine G_skip ?_
  refine N_then ?_
  refine G_seq ?_
  refine G_block ?_
  refine G_seq ?_
  refine G_region ?_
  refine GL_pure (E':=[⟨11,[],.int .i64 ((k : Nat) : Int)⟩,⟨10,[],.string s⟩,⟨0,[],.string s⟩,⟨3,[],.int .i64 ((k : Nat) : Int)⟩]) [0,0] kr (j:=2) rfl ?_
  refine GL_index (i:=2) (ch:=[]) (s:=s) (kd:=.i64) (j:=((k : Nat) : Int)) rfl rfl kr kr kr kr kr kr (fun _=>by omega) ?_
  have hb2 := byteAt_rng s ((k : Nat) : Int)
  refine GL_fin (E':=[⟨0,[],.string s⟩,⟨3,[],.int .i64 ((k : Nat) : Int)⟩,⟨13,[],.bool ((byteAt s ((k : Nat) : Int)) == 10)⟩]) [0] [0,3,13] rfl kr ?_
  refine N_then ?_
  refine G_cond (b:=(byteAt s ((k : Nat) : Int)) == 10) kr (fun hc3=>?_) (fun hc3=>?_)
  ·
   simp at hc3
   refine G_seq ?_
   refine G_pure (E':=[⟨2,[],.bool false⟩]) [0] [2] rfl kr ?_
   refine N_then ?_
   refine G_ret ?_
   refine N_block_ret ?_
   refine N_then_ret ?_
   refine N_then_ret ?_
   refine N_block_ret ?_
   refine N_then_ret ?_
   refine N_ret [.tmp 2] [.bool false] rfl kr rfl ?_
   exact ⟨by rw [refRight_no (by omega) hc3]; rfl, rfl⟩
  ·
   simp at hc3
   refine G_skip ?_
   refine N_block ?_
   refine N_then ?_
   have hw4 : IntKind.wrap .i64 (((k : Nat) : Int) + 1) = ((k : Nat) : Int) + 1 := w64 (by omega) (by omega)
   refine G_pure (E':=[⟨0,[],.string s⟩,⟨3,[],.int .i64 (((k : Nat) : Int)+1)⟩]) [0,0,0] [0,3] rfl (Eq.trans (b:=some [⟨0,[],.string s⟩,⟨3,[],.int .i64 (IntKind.wrap .i64 (((k : Nat) : Int)+1))⟩]) kr (by simp only [hw4])) ?_
   refine N_round (s':=(k+1)) [0,3] kr rfl ⟨(by omega),(noB_succ hn hc3)⟩ (by omega)
 ·
  simp at hc1
  refine G_exit ?_
  refine N_then_exit ?_
  refine N_then_exit ?_
  refine N_block_exit ?_
  refine N_then ?_
  refine G_seq ?_
  refine G_pure (E':=[⟨2,[],.bool (decide ((s.size : Int) ≤ 1048576))⟩]) [0,0,0,0] [2] rfl kr ?_
  refine N_then ?_
  refine G_ret ?_
  refine N_ret [.tmp 2] [.bool (decide ((s.size : Int) ≤ 1048576))] rfl kr rfl ?_
  exact ⟨by rw [refRight_yes (by omega) hn]; rfl, rfl⟩
theorem refRightB {s : ByteArray} {b : Bool} (hb : rightJ s = b) (hs : s.size ≤ 9223372036854775807) (W0 : World) (H : List Grp) : Tri Tryz.prog 31 #[.string s] W0 H (fun v H' => v = .bool b ∧ H' = H) := by
  subst hb; exact refRightJ s hs W0 H
set_option maxRecDepth 4000 in
set_option maxHeartbeats 1000000 in
theorem journalSame_ (la : Option Addr) (lc : Nat) (l : List ByteArray) (S : Nat → Obj → Prop) (W0 : World) (hrd : Rd S la (strs l)) (hlen : l.length ≤ 9223372036854775807) (hS : ∀ y o, S y o → At W0 [] y o) (H : List Grp) : Tri Tryz.prog 6 #[.slice la l.length lc] W0 H (fun v H' => v = .bool true ∧ ∃ G, H' = G ++ H) := by
 refine Tri_of (args := [.slice la l.length lc]) (n := 111) Tryz.func6 rfl rfl (Nat.le_of_ble_eq_true rfl) ?_
 refine G_seq ?_
 refine G_pure (E':=[⟨0,[],.slice la l.length lc⟩]) [0] [0] rfl kr ?_
 refine N_then ?_
 refine G_seq ?_
 refine G_seq ?_
 refine G_region ?_
 refine GL_call (i:=0) (ch:=[]) (f:=7) (fst:=#[]) (caps:=#[]) (vs:=[]) rfl rfl rfl kr kr Tryz.func7 rfl rfl kr kr (chSure_of kr) (jFirst _ _) ?_
 rintro v H' ⟨rfl, G, rfl⟩
 refine GL_fin (E':=[⟨0,[],.slice la l.length lc⟩,⟨20,[],.bool false⟩]) [0] [0,20] rfl kr ?_
 refine N_then ?_
 refine G_condf kr ?_
 refine G_skip ?_
 refine N_then ?_
 refine G_seq ?_
 refine G_region ?_
 refine GL_call (i:=0) (ch:=[]) (f:=8) (fst:=#[]) (caps:=#[]) (vs:=[.int .i64 1048576]) rfl rfl rfl kr kr Tryz.func8 rfl rfl kr kr (chSure_of kr) (dNew 1048576 (M:=(newM 1048576)) _ _ rfl) ?_
 rintro v H' ⟨d1, rfl, s1, hs1, rfl⟩
 refine GL_fin (E':=[⟨0,[],.slice la l.length lc⟩,⟨3,[],pt d1⟩]) [0] [0,3] rfl kr ?_
 refine N_then ?_
 refine G_seq ?_
 refine G_region ?_
 refine GL_pure (E':=[⟨23,[],pt d1⟩,⟨0,[],.slice la l.length lc⟩,⟨3,[],pt d1⟩]) [0] kr (j:=1) rfl ?_
 refine GL_call (i:=1) (ch:=[]) (f:=10) (fst:=#[]) (caps:=#[]) (vs:=[pt d1,.string (ByteArray.mk #[97])]) rfl rfl rfl kr kr Tryz.func10 rfl rfl kr kr (chSure_of kr) (jOpen hs1 (roomy_new (by decide)) (by decide) s_openA0 ([] : List Grp) d1 _ (G++H)) ?_
 rintro v H' ⟨jb2, ja3, jc4, jr5, s2, rfl, ho6, hs2, rfl⟩
 refine GL_fin (E':=[⟨0,[],.slice la l.length lc⟩,⟨3,[],pt d1⟩,⟨4,[],pt jb2⟩]) [0,0,0,0,0] [0,3,4] rfl kr ?_
 refine N_then ?_
 refine G_seq ?_
 refine G_region ?_
 refine GL_pure (E':=[⟨28,[],pt d1⟩,⟨0,[],.slice la l.length lc⟩,⟨3,[],pt d1⟩,⟨4,[],pt jb2⟩]) [0] kr (j:=1) rfl ?_
 refine GL_call (i:=1) (ch:=[]) (f:=10) (fst:=#[]) (caps:=#[]) (vs:=[pt d1,.string (ByteArray.mk #[98])]) rfl rfl rfl kr kr Tryz.func10 rfl rfl kr kr (chSure_of kr) (jOpen hs2 (s_roomy fine0 (by omega)) (by decide) s_openB0 ([(jAt jb2 d1 (aJ []) ja3 jc4),jr5] : List Grp) d1 _ (G++H)) ?_
 rintro v H' ⟨jb7, ja8, jc9, jr10, s3, rfl, ho11, hs3, rfl⟩
 refine GL_fin (E':=[⟨0,[],.slice la l.length lc⟩,⟨3,[],pt d1⟩,⟨4,[],pt jb2⟩,⟨6,[],pt jb7⟩]) [0,0,0,0,0] [0,3,4,6] rfl kr ?_
 refine N_then ?_
 refine G_seq ?_
 refine G_pure (E':=[⟨0,[],.slice la l.length lc⟩,⟨3,[],pt d1⟩,⟨4,[],pt jb2⟩,⟨6,[],pt jb7⟩,⟨8,[],.slice none 0 0⟩]) [0] [0,3,4,6,8] rfl kr ?_
 refine N_then ?_
 refine G_seq ?_
 refine G_seq ?_
 refine G_pure (E':=[⟨3,[],pt d1⟩,⟨4,[],pt jb2⟩,⟨6,[],pt jb7⟩,⟨8,[],.slice none 0 0⟩,⟨32,[],.slice la l.length lc⟩,⟨33,[],.int .i64 ((l.length : Nat) : Int)⟩,⟨34,[],.int .i64 0⟩]) [0,0,0] [3,4,6,8,32,33,34] rfl kr ?_
 refine N_then ?_
 refine G_block ?_
 refine G_heap (H':=((jAt jb2 d1 (aJ []) ja3 jc4)::jr5::[]::(jAt jb7 d1 bJ0 ja8 jc9)::jr10::(s3.G d1 (aM [])++(G++H)))) (fun w h=>Sat.flat ((h.front (j:=3) rfl).front (j:=3) rfl) (List.Perm.refl _)) ?_
 refine G_loop (EI:=(fun ξ : Nat × List ByteArray × DS × Option Addr × Nat × Grp × Option Addr × Nat × Grp=>[⟨3,[],pt d1⟩,⟨4,[],pt jb2⟩,⟨6,[],pt jb7⟩,⟨8,[],.slice ξ.2.2.2.2.2.2.1 ξ.2.1.length ξ.2.2.2.2.2.2.2.1⟩,⟨32,[],.slice la l.length lc⟩,⟨33,[],.int .i64 ((l.length : Nat) : Int)⟩,⟨34,[],.int .i64 ((ξ.1 : Nat) : Int)⟩])) (HI:=(fun ξ : Nat × List ByteArray × DS × Option Addr × Nat × Grp × Option Addr × Nat × Grp=>((jAt jb2 d1 (aJ ξ.2.1) ξ.2.2.2.1 ξ.2.2.2.2.1)::ξ.2.2.2.2.2.1::ξ.2.2.2.2.2.2.2.2::(jAt jb7 d1 bJ0 ja8 jc9)::jr10::(ξ.2.2.1.G d1 (aM ξ.2.1)++(G++H))))) (Φ:=(fun ξ : Nat × List ByteArray × DS × Option Addr × Nat × Grp × Option Addr × Nat × Grp=>(ξ.1 ≤ l.length)∧(ξ.1 ≤ 30)∧(Fine ξ.2.1 ξ.1)∧(ξ.2.2.1.ok (aM ξ.2.1))∧(JOwn (aJ ξ.2.1) ξ.2.2.2.1 ξ.2.2.2.2.1 ξ.2.2.2.2.2.1)∧(Go.Sw.Own 9 1 (.slice ξ.2.2.2.2.2.2.1 ξ.2.1.length ξ.2.2.2.2.2.2.2.1) ξ.2.2.2.2.2.2.2.2 ξ.2.1.length (strs ξ.2.1)))) (μ:=(fun ξ : Nat × List ByteArray × DS × Option Addr × Nat × Grp × Option Addr × Nat × Grp=>l.length - ξ.1)) (s0:=(0,[],s3,ja3,jc4,jr5,none,0,[])) [3,4,6,8,32,33,34] kr rfl ⟨(by omega),(by omega),fine0,hs3,ho6,Go.Sw.Own.nil⟩ ?_
 rintro ⟨k, R, s, ja, jc, jr, ra, rc, rg⟩ ⟨hk, hk30, hf, hs, ho, hro⟩
 dsimp only at hk hk30 hf hs ho hro
 have hfl := (hf.le hk30).2
 refine G_seq ?_
 refine G_pure (E':=[⟨3,[],pt d1⟩,⟨4,[],pt jb2⟩,⟨6,[],pt jb7⟩,⟨8,[],.slice ra R.length rc⟩,⟨32,[],.slice la l.length lc⟩,⟨33,[],.int .i64 ((l.length : Nat) : Int)⟩,⟨34,[],.int .i64 ((k : Nat) : Int)⟩,⟨35,[],.bool (decide (((k : Nat) : Int) < ((l.length : Nat) : Int)))⟩]) [0] [3,4,6,8,32,33,34,35] rfl kr ?_
 refine N_then ?_
 refine G_seq ?_
 refine G_cond (b:=decide (((k : Nat) : Int) < ((l.length : Nat) : Int))) kr (fun hc12=>?_) (fun hc12=>?_)
 ·
  simp at hc12
  refine G_skip ?_
  refine N_then ?_
  refine G_seq ?_
  refine G_block ?_
  refine G_seq ?_
  refine G_region ?_
  refine GL_pure (E':=[⟨36,[],.int .i64 ((k : Nat) : Int)⟩,⟨3,[],pt d1⟩,⟨4,[],pt jb2⟩,⟨6,[],pt jb7⟩,⟨8,[],.slice ra R.length rc⟩,⟨32,[],.slice la l.length lc⟩,⟨33,[],.int .i64 ((l.length : Nat) : Int)⟩,⟨34,[],.int .i64 ((k : Nat) : Int)⟩]) [0] kr (j:=1) rfl ?_
  refine GL_indexAddr (i:=1) (ch:=[]) (a:=la) (len:=l.length) (cap:=lc) (kd:=.i64) (j:=((k : Nat) : Int)) (e:=9) (sz:=1) (S:=S) (cs:=(strs l)) rfl rfl kr kr kr kr kr kr kr hrd (fun _=>by exact ⟨by omega,by omega,strs_ne (by omega)⟩) ?_
  refine GL_loadS (i:=2) (ch:=[]) (a:=la) (q:=k * 1) (S:=S) (cs:=(strs l)) (v:=.string (l.getD k default)) rfl rfl kr kr kr kr kr hrd (fun y o h=>at_up (hS y o h)) (fun _=>(by rw [Nat.mul_one]; exact strs_at (by omega))) ?_
  refine GL_fin (E':=[⟨3,[],pt d1⟩,⟨4,[],pt jb2⟩,⟨6,[],pt jb7⟩,⟨8,[],.slice ra R.length rc⟩,⟨9,[],.int .i64 ((k : Nat) : Int)⟩,⟨10,[],.string (l.getD k default)⟩,⟨32,[],.slice la l.length lc⟩,⟨33,[],.int .i64 ((l.length : Nat) : Int)⟩,⟨34,[],.int .i64 ((k : Nat) : Int)⟩]) [0,0] [3,4,6,8,9,10,32,33,34] rfl kr ?_
  refine N_then ?_
  refine G_seq ?_
  refine G_seq ?_
  refine G_pure (E':=[⟨3,[],pt d1⟩,⟨4,[],pt jb2⟩,⟨6,[],pt jb7⟩,⟨8,[],.slice ra R.length rc⟩,⟨10,[],.string (l.getD k default)⟩,⟨32,[],.slice la l.length lc⟩,⟨33,[],.int .i64 ((l.length : Nat) : Int)⟩,⟨34,[],.int .i64 ((k : Nat) : Int)⟩,⟨45,[],.bool ((decide (((k : Nat) : Int) ≥ 30))||(decide (((l.getD k default).size : Int) > 1000)))⟩]) [0,0,0,0,0,0,5] [3,4,6,8,10,32,33,34,45] rfl kr ?_
  refine N_then ?_
  refine G_cond (b:=(decide (((k : Nat) : Int) ≥ 30))||(decide (((l.getD k default).size : Int) > 1000))) kr (fun hc13=>?_) (fun hc13=>?_)
  ·
   skip
   refine G_exit ?_
   refine N_then_exit ?_
   refine N_block_other rfl ?_
   refine N_then_exit ?_
   refine N_then_exit ?_
   refine N_block_exit ?_
   refine N_then ?_
   refine G_seq ?_
   refine G_region ?_
   refine GL_pure (E':=[⟨62,[],.slice ra R.length rc⟩,⟨61,[],pt jb7⟩,⟨3,[],pt d1⟩,⟨8,[],.slice ra R.length rc⟩]) [0,0] kr (j:=2) rfl ?_
   refine GL_heap rfl (H':=((jAt jb7 d1 bJ0 ja8 jc9)::jr10::(jAt jb2 d1 (aJ R) ja jc)::jr::rg::(s.G d1 (aM R)++(G++H)))) (fun w h=>((h.front (j:=4) rfl).front (j:=4) rfl)) ?_
   refine GL_call (i:=2) (ch:=[]) (f:=18) (fst:=#[]) (caps:=#[]) (vs:=[pt jb7,.slice ra R.length rc]) rfl rfl rfl kr kr Tryz.func18 rfl rfl kr kr (chSure_of kr) (jRep (ts:=R) hs (s_roomy hf hk30) s_small0 (by have:=(hf.le hk30).1; omega) (s_rep hf hk30) ([(jAt jb2 d1 (aJ R) ja jc),jr,rg] : List Grp) jb7 d1 ho11 ra rc (inG rg) (own_rd hro) (own_none hro) _ (G++H) (at_inG 3 rfl)) ?_
   rintro v H' ⟨ja14, jc15, jr16, s5, rfl, ho17, hs5, rfl⟩
   refine GL_fin (E':=[⟨3,[],pt d1⟩,⟨8,[],.slice ra R.length rc⟩,⟨12,[],.int .i64 0⟩]) [0] [3,8,12] rfl kr ?_
   refine N_then ?_
   refine G_seq ?_
   refine G_region ?_
   refine GL_pure (E':=[⟨65,[],pt d1⟩,⟨3,[],pt d1⟩,⟨8,[],.slice ra R.length rc⟩,⟨12,[],.int .i64 0⟩]) [0] kr (j:=1) rfl ?_
   refine GL_call (i:=1) (ch:=[]) (f:=13) (fst:=#[]) (caps:=#[]) (vs:=[pt d1,.string (ByteArray.mk #[97,47,108,111,103])]) rfl rfl rfl kr kr Tryz.func13 rfl rfl kr kr (chSure_of kr) (dRead hs5 (s_roomyS hf hk30).sizes d1 (ByteArray.mk #[97,47,108,111,103]) [(jAt jb7 d1 (bJ R) ja14 jc15),jr16,(jAt jb2 d1 (aJ R) ja jc),jr,rg] _ (G++H) (lit_readA R)) ?_
   rintro v H' ⟨ra18, rc19, g20, rfl, hrc21, hrd22, rfl⟩
   refine GL_fin (E':=[⟨3,[],pt d1⟩,⟨8,[],.slice ra R.length rc⟩,⟨12,[],.int .i64 0⟩,⟨13,[],.slice ra18 ((linesB R).size) rc19⟩]) [0,0,0,0,0] [3,8,12,13] rfl kr ?_
   refine N_then ?_
   refine G_seq ?_
   refine G_region ?_
   refine GL_pure (E':=[⟨70,[],pt d1⟩,⟨3,[],pt d1⟩,⟨8,[],.slice ra R.length rc⟩,⟨12,[],.int .i64 0⟩,⟨13,[],.slice ra18 ((linesB R).size) rc19⟩]) [0] kr (j:=1) rfl ?_
   refine GL_call (i:=1) (ch:=[]) (f:=13) (fst:=#[]) (caps:=#[]) (vs:=[pt d1,.string (ByteArray.mk #[98,47,108,111,103])]) rfl rfl rfl kr kr Tryz.func13 rfl rfl kr kr (chSure_of kr) (dRead hs5 (s_roomyS hf hk30).sizes d1 (ByteArray.mk #[98,47,108,111,103]) [g20,(jAt jb7 d1 (bJ R) ja14 jc15),jr16,(jAt jb2 d1 (aJ R) ja jc),jr,rg] _ (G++H) (lit_readB R)) ?_
   rintro v H' ⟨ra23, rc24, g25, rfl, hrc26, hrd27, rfl⟩
   refine GL_fin (E':=[⟨3,[],pt d1⟩,⟨8,[],.slice ra R.length rc⟩,⟨12,[],.int .i64 0⟩,⟨13,[],.slice ra18 ((linesB R).size) rc19⟩,⟨15,[],.slice ra23 ((linesB R).size) rc24⟩]) [0,0,0,0,0] [3,8,12,13,15] rfl kr ?_
   refine N_then ?_
   refine G_seq ?_
   refine G_region ?_
   refine GL_pure (E':=[⟨75,[],pt d1⟩,⟨3,[],pt d1⟩,⟨8,[],.slice ra R.length rc⟩,⟨12,[],.int .i64 0⟩,⟨13,[],.slice ra18 ((linesB R).size) rc19⟩,⟨15,[],.slice ra23 ((linesB R).size) rc24⟩]) [0] kr (j:=1) rfl ?_
   refine GL_call (i:=1) (ch:=[]) (f:=10) (fst:=#[]) (caps:=#[]) (vs:=[pt d1,.string (ByteArray.mk #[97])]) rfl rfl rfl kr kr Tryz.func10 rfl rfl kr kr (chSure_of kr) (jOpen hs5 (s_roomyS hf hk30) (by decide) (s_open hf) ([g25,g20,(jAt jb7 d1 (bJ R) ja14 jc15),jr16,(jAt jb2 d1 (aJ R) ja jc),jr,rg] : List Grp) d1 _ (G++H)) ?_
   rintro v H' ⟨jb28, ja29, jc30, jr31, s8, rfl, ho32, hs8, rfl⟩
   refine GL_fin (E':=[⟨3,[],pt d1⟩,⟨8,[],.slice ra R.length rc⟩,⟨12,[],.int .i64 0⟩,⟨13,[],.slice ra18 ((linesB R).size) rc19⟩,⟨15,[],.slice ra23 ((linesB R).size) rc24⟩,⟨17,[],pt jb28⟩,⟨18,[],.int .i64 0⟩]) [0,0,0,0,0] [3,8,12,13,15,17,18] rfl kr ?_
   refine N_then ?_
   refine G_seq ?_
   refine G_region ?_
   refine GL_pure (E':=[⟨86,[(85,true)],.slice ra18 ((linesB R).size) rc19⟩,⟨85,[],.bool true⟩,⟨3,[],pt d1⟩,⟨8,[],.slice ra R.length rc⟩,⟨13,[],.slice ra18 ((linesB R).size) rc19⟩,⟨15,[],.slice ra23 ((linesB R).size) rc24⟩,⟨17,[],pt jb28⟩]) [0,0,0,0,0,2,0,0] kr (j:=8) rfl ?_
   refine GL_bytesB (i:=8) (ch:=[(85,true)]) (a:=ra18) (cap:=rc19) (e:=5) (S:=(inG g20)) (linesB R) rfl rfl kr kr kr kr kr kr kr hrd22 (at_inG 3 rfl) ?_
   refine GL_pure (E':=[⟨88,[(85,true)],.slice ra23 ((linesB R).size) rc24⟩,⟨87,[(85,true)],.string (linesB R)⟩,⟨85,[],.bool true⟩,⟨3,[],pt d1⟩,⟨8,[],.slice ra R.length rc⟩,⟨13,[],.slice ra18 ((linesB R).size) rc19⟩,⟨17,[],pt jb28⟩]) [0] kr (j:=10) rfl ?_
   refine GL_bytesB (i:=10) (ch:=[(85,true)]) (a:=ra23) (cap:=rc24) (e:=5) (S:=(inG g25)) (linesB R) rfl rfl kr kr kr kr kr kr kr hrd27 (at_inG 2 rfl) ?_
   refine GL_pure (E':=[⟨90,[(85,true)],.bool ((linesB R).toList == (linesB R).toList)⟩,⟨85,[],.bool true⟩,⟨3,[],pt d1⟩,⟨8,[],.slice ra R.length rc⟩,⟨13,[],.slice ra18 ((linesB R).size) rc19⟩,⟨17,[],pt jb28⟩]) [0] kr (j:=12) rfl ?_
   refine GL_env (E':=[⟨90,[(85,true)],.bool true⟩,⟨85,[],.bool true⟩,⟨3,[],pt d1⟩,⟨8,[],.slice ra R.length rc⟩,⟨13,[],.slice ra18 ((linesB R).size) rc19⟩,⟨17,[],pt jb28⟩]) (by rw [show ((linesB R).toList == (linesB R).toList) = true from beq_self_eq_true _]) ?_
   refine GL_pure (E':=[⟨93,[(92,true)],pt jb28⟩,⟨92,[],.bool true⟩,⟨3,[],pt d1⟩,⟨8,[],.slice ra R.length rc⟩,⟨13,[],.slice ra18 ((linesB R).size) rc19⟩,⟨17,[],pt jb28⟩]) [2,0,0] kr (j:=15) rfl ?_
   refine GL_call (i:=15) (ch:=[(92,true)]) (f:=15) (fst:=#[]) (caps:=#[]) (vs:=[pt jb28]) rfl rfl rfl kr kr Tryz.func15 rfl rfl kr kr (chSure_of kr) (jRecords (s_small hf hk30) jb28 d1 ho32 _ _) ?_
   rintro v H' ⟨la33, lc34, lg35, rfl, hrd36, rfl⟩
   refine GL_pure (E':=[⟨95,[(92,true)],.slice ra R.length rc⟩,⟨94,[(92,true)],.slice la33 R.length lc34⟩,⟨92,[],.bool true⟩,⟨3,[],pt d1⟩,⟨13,[],.slice ra18 ((linesB R).size) rc19⟩,⟨17,[],pt jb28⟩]) [0] kr (j:=17) rfl ?_
   refine GL_callQ (i:=17) (ch:=[(92,true)]) (f:=14) (fst:=#[]) (caps:=#[]) (vs:=[.slice la33 R.length lc34,.slice ra R.length rc]) (v:=.bool (decide (R = R))) rfl rfl rfl kr kr Tryz.func14 rfl rfl kr kr kr (fun hc=>same_ la33 lc34 R (inG lg35) hrd36 (by have:=(hf.le hk30).2; omega) ra rc R (inG rg) (own_rd hro) (by have:=(hf.le hk30).2; omega) _ _ (at_inG 0 rfl) (at_inG 9 rfl)) ?_
   refine GL_env (E':=[⟨96,[(92,true)],.bool true⟩,⟨95,[(92,true)],.slice ra R.length rc⟩,⟨94,[(92,true)],.slice la33 R.length lc34⟩,⟨92,[],.bool true⟩,⟨3,[],pt d1⟩,⟨13,[],.slice ra18 ((linesB R).size) rc19⟩,⟨17,[],pt jb28⟩]) (by have hz : ([⟨96,[(92,true)],.bool (decide (R = R))⟩,⟨95,[(92,true)],.slice ra R.length rc⟩,⟨94,[(92,true)],.slice la33 R.length lc34⟩,⟨92,[],.bool true⟩,⟨3,[],pt d1⟩,⟨13,[],.slice ra18 ((linesB R).size) rc19⟩,⟨17,[],pt jb28⟩] : List Sl) = [⟨96,[(92,true)],.bool true⟩,⟨95,[(92,true)],.slice ra R.length rc⟩,⟨94,[(92,true)],.slice la33 R.length lc34⟩,⟨92,[],.bool true⟩,⟨3,[],pt d1⟩,⟨13,[],.slice ra18 ((linesB R).size) rc19⟩,⟨17,[],pt jb28⟩]:=(by rw [show decide (R = R) = true from decide_eq_true rfl]); exact Eq.trans kr hz) ?_
   refine GL_pure (E':=[⟨99,[(98,true)],pt jb28⟩,⟨98,[],.bool true⟩,⟨3,[],pt d1⟩,⟨13,[],.slice ra18 ((linesB R).size) rc19⟩]) [2,0,0] kr (j:=21) rfl ?_
   refine GL_heap rfl (H':=((jAt jb28 d1 (aJ R) ja29 jc30)::lg35::jr31::g25::g20::(jAt jb7 d1 (bJ R) ja14 jc15)::jr16::(jAt jb2 d1 (aJ R) ja jc)::jr::rg::(s8.G d1 (sM R)++(G++H)))) (fun w h=>(h.front (j:=1) rfl)) ?_
   refine GL_call (i:=21) (ch:=[(98,true)]) (f:=16) (fst:=#[]) (caps:=#[]) (vs:=[pt jb28]) rfl rfl rfl kr kr Tryz.func16 rfl rfl kr kr (chSure_of kr) (jSize jb28 d1 (a:=ja29) (c:=jc30) _ _) ?_
   rintro v H' ⟨rfl, rfl⟩
   refine GL_pure (E':=[⟨103,[(98,true)],.bool (((linesB R).size : Int) == (((linesB R).size : Nat) : Int))⟩,⟨98,[],.bool true⟩,⟨3,[],pt d1⟩]) [0,0,0] kr (j:=25) rfl ?_
   refine GL_env (E':=[⟨103,[(98,true)],.bool true⟩,⟨98,[],.bool true⟩,⟨3,[],pt d1⟩]) (by rw [show (((linesB R).size : Int) == (((linesB R).size : Nat) : Int)) = true from beq_self_eq_true _]) ?_
   refine GL_pure (E':=[⟨106,[(105,true)],pt d1⟩,⟨105,[],.bool true⟩]) [2,0,0] kr (j:=28) rfl ?_
   refine GL_call (i:=28) (ch:=[(105,true)]) (f:=32) (fst:=#[]) (caps:=#[]) (vs:=[pt d1,.string (ByteArray.mk #[98])]) rfl rfl rfl kr kr Tryz.func32 rfl rfl kr kr (chSure_of kr) (dList hs8 (s_roomyS hf hk30).small d1 (ByteArray.mk #[98]) [(jAt jb28 d1 (aJ R) ja29 jc30),lg35,jr31,g25,g20,(jAt jb7 d1 (bJ R) ja14 jc15),jr16,(jAt jb2 d1 (aJ R) ja jc),jr,rg] _ (G++H) (s_list R)) ?_
   rintro v H' ⟨la37, lc38, g39, rfl, hlc40, hrd41, rfl⟩
   refine GL_pure (E':=[⟨109,[(105,true)],.bool (((([pB]).length : Nat) : Int) == 1)⟩,⟨105,[],.bool true⟩]) [0,0] kr (j:=31) rfl ?_
   refine GL_env (E':=[⟨109,[(105,true)],.bool true⟩,⟨105,[],.bool true⟩]) (by rfl) ?_
   refine GL_fin (E':=[⟨2,[],.bool true⟩]) [2,0] [2] rfl kr ?_
   refine N_then ?_
   refine G_ret ?_
   refine N_ret [.tmp 2] [.bool true] rfl kr rfl ?_
   exact ⟨rfl, [g39, (jAt jb28 d1 (aJ R) ja29 jc30), lg35, jr31, g25, g20, (jAt jb7 d1 (bJ R) ja14 jc15), jr16, (jAt jb2 d1 (aJ R) ja jc), jr, rg] ++ (s8.G d1 (sM R) ++ G), by simp⟩
  ·
   have hx : k < 30 ∧ (l.getD k default).size ≤ 1000 := by (revert hc13; simp; omega)
   refine G_skip ?_
   refine N_then ?_
   refine G_seq ?_
   rcases hrt : rightJ (l.getD k default) with _ | _
   ·
    refine G_region ?_
    refine GL_pure (E':=[⟨47,[],.string (l.getD k default)⟩,⟨46,[],pt jb2⟩,⟨3,[],pt d1⟩,⟨4,[],pt jb2⟩,⟨6,[],pt jb7⟩,⟨8,[],.slice ra R.length rc⟩,⟨10,[],.string (l.getD k default)⟩,⟨32,[],.slice la l.length lc⟩,⟨33,[],.int .i64 ((l.length : Nat) : Int)⟩,⟨34,[],.int .i64 ((k : Nat) : Int)⟩]) [0,0] kr (j:=2) rfl ?_
    refine GL_call (i:=2) (ch:=[]) (f:=17) (fst:=#[]) (caps:=#[]) (vs:=[pt jb2,.string (l.getD k default)]) rfl rfl rfl kr kr Tryz.func17 rfl rfl kr kr (chSure_of kr) (jAdd hs (s_roomy hf hk30) (s_small hf hk30) (by omega) (s_bad hrt) ([rg,(jAt jb7 d1 bJ0 ja8 jc9),jr10] : List Grp) jb2 d1 ho _ (G++H)) ?_
    rintro v H' ⟨ja42, jc43, jr44, s11, rfl, ho45, hs11, rfl⟩
    refine GL_fin (E':=[⟨3,[],pt d1⟩,⟨4,[],pt jb2⟩,⟨6,[],pt jb7⟩,⟨8,[],.slice ra R.length rc⟩,⟨10,[],.string (l.getD k default)⟩,⟨11,[],.int .i64 2⟩,⟨32,[],.slice la l.length lc⟩,⟨33,[],.int .i64 ((l.length : Nat) : Int)⟩,⟨34,[],.int .i64 ((k : Nat) : Int)⟩]) [0] [3,4,6,8,10,11,32,33,34] rfl kr ?_
    refine N_then ?_
    refine G_seq ?_
    refine G_seq ?_
    refine G_region ?_
    refine GL_pure (E':=[⟨51,[],.string (l.getD k default)⟩,⟨50,[],.bool false⟩,⟨3,[],pt d1⟩,⟨4,[],pt jb2⟩,⟨6,[],pt jb7⟩,⟨8,[],.slice ra R.length rc⟩,⟨10,[],.string (l.getD k default)⟩,⟨11,[],.int .i64 2⟩,⟨32,[],.slice la l.length lc⟩,⟨33,[],.int .i64 ((l.length : Nat) : Int)⟩,⟨34,[],.int .i64 ((k : Nat) : Int)⟩]) [0,0,0] kr (j:=3) rfl ?_
    refine GL_callQ (i:=3) (ch:=[]) (f:=31) (fst:=#[]) (caps:=#[]) (vs:=[.string (l.getD k default)]) (v:=.bool false) rfl rfl rfl kr kr Tryz.func31 rfl rfl kr kr kr (fun _=>refRightB hrt (by omega) _ _) ?_
    refine GL_fin (E':=[⟨3,[],pt d1⟩,⟨4,[],pt jb2⟩,⟨6,[],pt jb7⟩,⟨8,[],.slice ra R.length rc⟩,⟨10,[],.string (l.getD k default)⟩,⟨11,[],.int .i64 2⟩,⟨32,[],.slice la l.length lc⟩,⟨33,[],.int .i64 ((l.length : Nat) : Int)⟩,⟨34,[],.int .i64 ((k : Nat) : Int)⟩,⟨53,[],.bool false⟩]) [0] [3,4,6,8,10,11,32,33,34,53] rfl kr ?_
    refine N_then ?_
    refine G_condf kr ?_
    refine G_skip ?_
    refine N_then ?_
    refine G_seq ?_
    refine G_pure (E':=[⟨3,[],pt d1⟩,⟨4,[],pt jb2⟩,⟨6,[],pt jb7⟩,⟨8,[],.slice ra R.length rc⟩,⟨10,[],.string (l.getD k default)⟩,⟨32,[],.slice la l.length lc⟩,⟨33,[],.int .i64 ((l.length : Nat) : Int)⟩,⟨34,[],.int .i64 ((k : Nat) : Int)⟩,⟨55,[],.bool false⟩]) [0,0] [3,4,6,8,10,32,33,34,55] rfl kr ?_
    refine N_then ?_
    refine G_condf kr ?_
    refine G_skip ?_
    refine N_block ?_
    refine N_then ?_
    have hw46 : IntKind.wrap .i64 (((k : Nat) : Int) + 1) = ((k : Nat) : Int) + 1 := w64 (by omega) (by omega)
    refine G_pure (E':=[⟨3,[],pt d1⟩,⟨4,[],pt jb2⟩,⟨6,[],pt jb7⟩,⟨8,[],.slice ra R.length rc⟩,⟨32,[],.slice la l.length lc⟩,⟨33,[],.int .i64 ((l.length : Nat) : Int)⟩,⟨34,[],.int .i64 (((k : Nat) : Int)+1)⟩]) [0,0] [3,4,6,8,32,33,34] rfl (Eq.trans (b:=some [⟨3,[],pt d1⟩,⟨4,[],pt jb2⟩,⟨6,[],pt jb7⟩,⟨8,[],.slice ra R.length rc⟩,⟨32,[],.slice la l.length lc⟩,⟨33,[],.int .i64 ((l.length : Nat) : Int)⟩,⟨34,[],.int .i64 (IntKind.wrap .i64 (((k : Nat) : Int)+1))⟩]) kr (by simp only [hw46])) ?_
    refine N_round (s':=(k+1,R,s11,ja42,jc43,jr44,ra,rc,rg)) [3,4,6,8,32,33,34] kr rfl ⟨(by omega),(by omega),hf.up,hs11,ho45,hro⟩ (by omega)
   ·
    refine G_region ?_
    refine GL_pure (E':=[⟨47,[],.string (l.getD k default)⟩,⟨46,[],pt jb2⟩,⟨3,[],pt d1⟩,⟨4,[],pt jb2⟩,⟨6,[],pt jb7⟩,⟨8,[],.slice ra R.length rc⟩,⟨10,[],.string (l.getD k default)⟩,⟨32,[],.slice la l.length lc⟩,⟨33,[],.int .i64 ((l.length : Nat) : Int)⟩,⟨34,[],.int .i64 ((k : Nat) : Int)⟩]) [0,0] kr (j:=2) rfl ?_
    refine GL_call (i:=2) (ch:=[]) (f:=17) (fst:=#[]) (caps:=#[]) (vs:=[pt jb2,.string (l.getD k default)]) rfl rfl rfl kr kr Tryz.func17 rfl rfl kr kr (chSure_of kr) (jAdd hs (s_roomy hf hk30) (s_small hf hk30) (by omega) (s_add hf (show k ≤ 30 by omega) hrt hx.2) ([rg,(jAt jb7 d1 bJ0 ja8 jc9),jr10] : List Grp) jb2 d1 ho _ (G++H)) ?_
    rintro v H' ⟨ja47, jc48, jr49, s13, rfl, ho50, hs13, rfl⟩
    refine GL_fin (E':=[⟨3,[],pt d1⟩,⟨4,[],pt jb2⟩,⟨6,[],pt jb7⟩,⟨8,[],.slice ra R.length rc⟩,⟨10,[],.string (l.getD k default)⟩,⟨11,[],.int .i64 0⟩,⟨32,[],.slice la l.length lc⟩,⟨33,[],.int .i64 ((l.length : Nat) : Int)⟩,⟨34,[],.int .i64 ((k : Nat) : Int)⟩]) [0] [3,4,6,8,10,11,32,33,34] rfl kr ?_
    refine N_then ?_
    refine G_seq ?_
    refine G_seq ?_
    refine G_region ?_
    refine GL_pure (E':=[⟨51,[],.string (l.getD k default)⟩,⟨50,[],.bool true⟩,⟨3,[],pt d1⟩,⟨4,[],pt jb2⟩,⟨6,[],pt jb7⟩,⟨8,[],.slice ra R.length rc⟩,⟨10,[],.string (l.getD k default)⟩,⟨11,[],.int .i64 0⟩,⟨32,[],.slice la l.length lc⟩,⟨33,[],.int .i64 ((l.length : Nat) : Int)⟩,⟨34,[],.int .i64 ((k : Nat) : Int)⟩]) [0,0,0] kr (j:=3) rfl ?_
    refine GL_callQ (i:=3) (ch:=[]) (f:=31) (fst:=#[]) (caps:=#[]) (vs:=[.string (l.getD k default)]) (v:=.bool true) rfl rfl rfl kr kr Tryz.func31 rfl rfl kr kr kr (fun _=>refRightB hrt (by omega) _ _) ?_
    refine GL_fin (E':=[⟨3,[],pt d1⟩,⟨4,[],pt jb2⟩,⟨6,[],pt jb7⟩,⟨8,[],.slice ra R.length rc⟩,⟨10,[],.string (l.getD k default)⟩,⟨11,[],.int .i64 0⟩,⟨32,[],.slice la l.length lc⟩,⟨33,[],.int .i64 ((l.length : Nat) : Int)⟩,⟨34,[],.int .i64 ((k : Nat) : Int)⟩,⟨53,[],.bool false⟩]) [0] [3,4,6,8,10,11,32,33,34,53] rfl kr ?_
    refine N_then ?_
    refine G_condf kr ?_
    refine G_skip ?_
    refine N_then ?_
    refine G_seq ?_
    refine G_pure (E':=[⟨3,[],pt d1⟩,⟨4,[],pt jb2⟩,⟨6,[],pt jb7⟩,⟨8,[],.slice ra R.length rc⟩,⟨10,[],.string (l.getD k default)⟩,⟨32,[],.slice la l.length lc⟩,⟨33,[],.int .i64 ((l.length : Nat) : Int)⟩,⟨34,[],.int .i64 ((k : Nat) : Int)⟩,⟨55,[],.bool true⟩]) [0,0] [3,4,6,8,10,32,33,34,55] rfl kr ?_
    refine N_then ?_
    refine G_condt kr ?_
    refine G_region ?_
    refine GL_pure (E':=[⟨57,[],.string (l.getD k default)⟩,⟨56,[],.slice ra R.length rc⟩,⟨3,[],pt d1⟩,⟨4,[],pt jb2⟩,⟨6,[],pt jb7⟩,⟨8,[],.slice ra R.length rc⟩,⟨32,[],.slice la l.length lc⟩,⟨33,[],.int .i64 ((l.length : Nat) : Int)⟩,⟨34,[],.int .i64 ((k : Nat) : Int)⟩]) [0,0] kr (j:=2) rfl ?_
    refine GL_buildSlice (i:=2) (ch:=[]) (e:=9) (l:=[(0,.string (l.getD k default))]) (c:=[.string (l.getD k default)]) rfl rfl kr kr kr kr kr (fun b51=>?_)
    refine GL_append (i:=3) (ch:=[]) (t:=32) (tx:=32) (e:=9) (inf:=Tryz.t9) (s:=.slice ra R.length rc) (x:=.slice (some ⟨b51,0,none⟩) 1 1) (n:=R.length) (m:=1) (j:=3) (cs:=(strs R)) (news:=[.string (l.getD k default)]) (g:=rg) (S:=(inG [(b51,.cells #[.string (l.getD k default)] 9 (0,0))])) rfl rfl rfl rfl kr kr kr rfl rfl (.inl ⟨9,kr⟩) (fun ⟨_,h⟩=>by cases h) (fun _=>⟨9,kr⟩) kr kr kr rfl hro (SrcOf.slice _ _ _ _ Rd.lit (fun h=>by cases h)) (at_inG 0 rfl) rfl (strs_one (ts:=[l.getD k default])) (by omega) (by show (R.length+1) * 16 ≤ 140737488355328; omega) (fun v52 g53 hO54=>?_)
    obtain ⟨a55, cap56, rfl, hcap57, hrd58⟩ := hO54.shape
    refine GL_fin (E':=[⟨3,[],pt d1⟩,⟨4,[],pt jb2⟩,⟨6,[],pt jb7⟩,⟨8,[],.slice a55 (R.length+1) cap56⟩,⟨32,[],.slice la l.length lc⟩,⟨33,[],.int .i64 ((l.length : Nat) : Int)⟩,⟨34,[],.int .i64 ((k : Nat) : Int)⟩]) [0] [3,4,6,8,32,33,34] rfl kr ?_
    refine N_block ?_
    refine N_then ?_
    have hw59 : IntKind.wrap .i64 (((k : Nat) : Int) + 1) = ((k : Nat) : Int) + 1 := w64 (by omega) (by omega)
    refine G_pure (E':=[⟨3,[],pt d1⟩,⟨4,[],pt jb2⟩,⟨6,[],pt jb7⟩,⟨8,[],.slice a55 (R.length+1) cap56⟩,⟨32,[],.slice la l.length lc⟩,⟨33,[],.int .i64 ((l.length : Nat) : Int)⟩,⟨34,[],.int .i64 (((k : Nat) : Int)+1)⟩]) [0,0] [3,4,6,8,32,33,34] rfl (Eq.trans (b:=some [⟨3,[],pt d1⟩,⟨4,[],pt jb2⟩,⟨6,[],pt jb7⟩,⟨8,[],.slice a55 (R.length+1) cap56⟩,⟨32,[],.slice la l.length lc⟩,⟨33,[],.int .i64 ((l.length : Nat) : Int)⟩,⟨34,[],.int .i64 (IntKind.wrap .i64 (((k : Nat) : Int)+1))⟩]) kr (by simp only [hw59])) ?_
    refine N_env (E':=[⟨3,[],pt d1⟩,⟨4,[],pt jb2⟩,⟨6,[],pt jb7⟩,⟨8,[],.slice a55 ((R++[l.getD k default]).length) cap56⟩,⟨32,[],.slice la l.length lc⟩,⟨33,[],.int .i64 ((l.length : Nat) : Int)⟩,⟨34,[],.int .i64 (((k : Nat) : Int)+1)⟩]) (by rw [List.length_append]; rfl) ?_
    refine N_heap (H':=((jAt jb2 d1 (aJ (R++[l.getD k default])) ja47 jc48)::jr49::g53::(jAt jb7 d1 bJ0 ja8 jc9)::jr10::(s13.G d1 (aM (R++[l.getD k default]))++(G++H)))) (fun w h=>(h.erase 0)) ?_
    refine N_round (s':=(k+1,(R++[l.getD k default]),s13,ja47,jc48,jr49,a55,cap56,g53)) [3,4,6,8,32,33,34] kr rfl ⟨(by omega),(by omega),(hf.snoc hrt hx.2),hs13,ho50,(own_addS hO54)⟩ (by omega)
 ·
  simp at hc12
  refine G_exit ?_
  refine N_then_exit ?_
  refine N_then_exit ?_
  refine N_block_exit ?_
  refine N_then ?_
  refine G_seq ?_
  refine G_region ?_
  refine GL_pure (E':=[⟨62,[],.slice ra R.length rc⟩,⟨61,[],pt jb7⟩,⟨3,[],pt d1⟩,⟨8,[],.slice ra R.length rc⟩]) [0,0] kr (j:=2) rfl ?_
  refine GL_heap rfl (H':=((jAt jb7 d1 bJ0 ja8 jc9)::jr10::(jAt jb2 d1 (aJ R) ja jc)::jr::rg::(s.G d1 (aM R)++(G++H)))) (fun w h=>((h.front (j:=4) rfl).front (j:=4) rfl)) ?_
  refine GL_call (i:=2) (ch:=[]) (f:=18) (fst:=#[]) (caps:=#[]) (vs:=[pt jb7,.slice ra R.length rc]) rfl rfl rfl kr kr Tryz.func18 rfl rfl kr kr (chSure_of kr) (jRep (ts:=R) hs (s_roomy hf hk30) s_small0 (by have:=(hf.le hk30).1; omega) (s_rep hf hk30) ([(jAt jb2 d1 (aJ R) ja jc),jr,rg] : List Grp) jb7 d1 ho11 ra rc (inG rg) (own_rd hro) (own_none hro) _ (G++H) (at_inG 3 rfl)) ?_
  rintro v H' ⟨ja60, jc61, jr62, s15, rfl, ho63, hs15, rfl⟩
  refine GL_fin (E':=[⟨3,[],pt d1⟩,⟨8,[],.slice ra R.length rc⟩,⟨12,[],.int .i64 0⟩]) [0] [3,8,12] rfl kr ?_
  refine N_then ?_
  refine G_seq ?_
  refine G_region ?_
  refine GL_pure (E':=[⟨65,[],pt d1⟩,⟨3,[],pt d1⟩,⟨8,[],.slice ra R.length rc⟩,⟨12,[],.int .i64 0⟩]) [0] kr (j:=1) rfl ?_
  refine GL_call (i:=1) (ch:=[]) (f:=13) (fst:=#[]) (caps:=#[]) (vs:=[pt d1,.string (ByteArray.mk #[97,47,108,111,103])]) rfl rfl rfl kr kr Tryz.func13 rfl rfl kr kr (chSure_of kr) (dRead hs15 (s_roomyS hf hk30).sizes d1 (ByteArray.mk #[97,47,108,111,103]) [(jAt jb7 d1 (bJ R) ja60 jc61),jr62,(jAt jb2 d1 (aJ R) ja jc),jr,rg] _ (G++H) (lit_readA R)) ?_
  rintro v H' ⟨ra64, rc65, g66, rfl, hrc67, hrd68, rfl⟩
  refine GL_fin (E':=[⟨3,[],pt d1⟩,⟨8,[],.slice ra R.length rc⟩,⟨12,[],.int .i64 0⟩,⟨13,[],.slice ra64 ((linesB R).size) rc65⟩]) [0,0,0,0,0] [3,8,12,13] rfl kr ?_
  refine N_then ?_
  refine G_seq ?_
  refine G_region ?_
  refine GL_pure (E':=[⟨70,[],pt d1⟩,⟨3,[],pt d1⟩,⟨8,[],.slice ra R.length rc⟩,⟨12,[],.int .i64 0⟩,⟨13,[],.slice ra64 ((linesB R).size) rc65⟩]) [0] kr (j:=1) rfl ?_
  refine GL_call (i:=1) (ch:=[]) (f:=13) (fst:=#[]) (caps:=#[]) (vs:=[pt d1,.string (ByteArray.mk #[98,47,108,111,103])]) rfl rfl rfl kr kr Tryz.func13 rfl rfl kr kr (chSure_of kr) (dRead hs15 (s_roomyS hf hk30).sizes d1 (ByteArray.mk #[98,47,108,111,103]) [g66,(jAt jb7 d1 (bJ R) ja60 jc61),jr62,(jAt jb2 d1 (aJ R) ja jc),jr,rg] _ (G++H) (lit_readB R)) ?_
  rintro v H' ⟨ra69, rc70, g71, rfl, hrc72, hrd73, rfl⟩
  refine GL_fin (E':=[⟨3,[],pt d1⟩,⟨8,[],.slice ra R.length rc⟩,⟨12,[],.int .i64 0⟩,⟨13,[],.slice ra64 ((linesB R).size) rc65⟩,⟨15,[],.slice ra69 ((linesB R).size) rc70⟩]) [0,0,0,0,0] [3,8,12,13,15] rfl kr ?_
  refine N_then ?_
  refine G_seq ?_
  refine G_region ?_
  refine GL_pure (E':=[⟨75,[],pt d1⟩,⟨3,[],pt d1⟩,⟨8,[],.slice ra R.length rc⟩,⟨12,[],.int .i64 0⟩,⟨13,[],.slice ra64 ((linesB R).size) rc65⟩,⟨15,[],.slice ra69 ((linesB R).size) rc70⟩]) [0] kr (j:=1) rfl ?_
  refine GL_call (i:=1) (ch:=[]) (f:=10) (fst:=#[]) (caps:=#[]) (vs:=[pt d1,.string (ByteArray.mk #[97])]) rfl rfl rfl kr kr Tryz.func10 rfl rfl kr kr (chSure_of kr) (jOpen hs15 (s_roomyS hf hk30) (by decide) (s_open hf) ([g71,g66,(jAt jb7 d1 (bJ R) ja60 jc61),jr62,(jAt jb2 d1 (aJ R) ja jc),jr,rg] : List Grp) d1 _ (G++H)) ?_
  rintro v H' ⟨jb74, ja75, jc76, jr77, s18, rfl, ho78, hs18, rfl⟩
  refine GL_fin (E':=[⟨3,[],pt d1⟩,⟨8,[],.slice ra R.length rc⟩,⟨12,[],.int .i64 0⟩,⟨13,[],.slice ra64 ((linesB R).size) rc65⟩,⟨15,[],.slice ra69 ((linesB R).size) rc70⟩,⟨17,[],pt jb74⟩,⟨18,[],.int .i64 0⟩]) [0,0,0,0,0] [3,8,12,13,15,17,18] rfl kr ?_
  refine N_then ?_
  refine G_seq ?_
  refine G_region ?_
  refine GL_pure (E':=[⟨86,[(85,true)],.slice ra64 ((linesB R).size) rc65⟩,⟨85,[],.bool true⟩,⟨3,[],pt d1⟩,⟨8,[],.slice ra R.length rc⟩,⟨13,[],.slice ra64 ((linesB R).size) rc65⟩,⟨15,[],.slice ra69 ((linesB R).size) rc70⟩,⟨17,[],pt jb74⟩]) [0,0,0,0,0,2,0,0] kr (j:=8) rfl ?_
  refine GL_bytesB (i:=8) (ch:=[(85,true)]) (a:=ra64) (cap:=rc65) (e:=5) (S:=(inG g66)) (linesB R) rfl rfl kr kr kr kr kr kr kr hrd68 (at_inG 3 rfl) ?_
  refine GL_pure (E':=[⟨88,[(85,true)],.slice ra69 ((linesB R).size) rc70⟩,⟨87,[(85,true)],.string (linesB R)⟩,⟨85,[],.bool true⟩,⟨3,[],pt d1⟩,⟨8,[],.slice ra R.length rc⟩,⟨13,[],.slice ra64 ((linesB R).size) rc65⟩,⟨17,[],pt jb74⟩]) [0] kr (j:=10) rfl ?_
  refine GL_bytesB (i:=10) (ch:=[(85,true)]) (a:=ra69) (cap:=rc70) (e:=5) (S:=(inG g71)) (linesB R) rfl rfl kr kr kr kr kr kr kr hrd73 (at_inG 2 rfl) ?_
  refine GL_pure (E':=[⟨90,[(85,true)],.bool ((linesB R).toList == (linesB R).toList)⟩,⟨85,[],.bool true⟩,⟨3,[],pt d1⟩,⟨8,[],.slice ra R.length rc⟩,⟨13,[],.slice ra64 ((linesB R).size) rc65⟩,⟨17,[],pt jb74⟩]) [0] kr (j:=12) rfl ?_
  refine GL_env (E':=[⟨90,[(85,true)],.bool true⟩,⟨85,[],.bool true⟩,⟨3,[],pt d1⟩,⟨8,[],.slice ra R.length rc⟩,⟨13,[],.slice ra64 ((linesB R).size) rc65⟩,⟨17,[],pt jb74⟩]) (by rw [show ((linesB R).toList == (linesB R).toList) = true from beq_self_eq_true _]) ?_
  refine GL_pure (E':=[⟨93,[(92,true)],pt jb74⟩,⟨92,[],.bool true⟩,⟨3,[],pt d1⟩,⟨8,[],.slice ra R.length rc⟩,⟨13,[],.slice ra64 ((linesB R).size) rc65⟩,⟨17,[],pt jb74⟩]) [2,0,0] kr (j:=15) rfl ?_
  refine GL_call (i:=15) (ch:=[(92,true)]) (f:=15) (fst:=#[]) (caps:=#[]) (vs:=[pt jb74]) rfl rfl rfl kr kr Tryz.func15 rfl rfl kr kr (chSure_of kr) (jRecords (s_small hf hk30) jb74 d1 ho78 _ _) ?_
  rintro v H' ⟨la79, lc80, lg81, rfl, hrd82, rfl⟩
  refine GL_pure (E':=[⟨95,[(92,true)],.slice ra R.length rc⟩,⟨94,[(92,true)],.slice la79 R.length lc80⟩,⟨92,[],.bool true⟩,⟨3,[],pt d1⟩,⟨13,[],.slice ra64 ((linesB R).size) rc65⟩,⟨17,[],pt jb74⟩]) [0] kr (j:=17) rfl ?_
  refine GL_callQ (i:=17) (ch:=[(92,true)]) (f:=14) (fst:=#[]) (caps:=#[]) (vs:=[.slice la79 R.length lc80,.slice ra R.length rc]) (v:=.bool (decide (R = R))) rfl rfl rfl kr kr Tryz.func14 rfl rfl kr kr kr (fun hc=>same_ la79 lc80 R (inG lg81) hrd82 (by have:=(hf.le hk30).2; omega) ra rc R (inG rg) (own_rd hro) (by have:=(hf.le hk30).2; omega) _ _ (at_inG 0 rfl) (at_inG 9 rfl)) ?_
  refine GL_env (E':=[⟨96,[(92,true)],.bool true⟩,⟨95,[(92,true)],.slice ra R.length rc⟩,⟨94,[(92,true)],.slice la79 R.length lc80⟩,⟨92,[],.bool true⟩,⟨3,[],pt d1⟩,⟨13,[],.slice ra64 ((linesB R).size) rc65⟩,⟨17,[],pt jb74⟩]) (by have hz : ([⟨96,[(92,true)],.bool (decide (R = R))⟩,⟨95,[(92,true)],.slice ra R.length rc⟩,⟨94,[(92,true)],.slice la79 R.length lc80⟩,⟨92,[],.bool true⟩,⟨3,[],pt d1⟩,⟨13,[],.slice ra64 ((linesB R).size) rc65⟩,⟨17,[],pt jb74⟩] : List Sl) = [⟨96,[(92,true)],.bool true⟩,⟨95,[(92,true)],.slice ra R.length rc⟩,⟨94,[(92,true)],.slice la79 R.length lc80⟩,⟨92,[],.bool true⟩,⟨3,[],pt d1⟩,⟨13,[],.slice ra64 ((linesB R).size) rc65⟩,⟨17,[],pt jb74⟩]:=(by rw [show decide (R = R) = true from decide_eq_true rfl]); exact Eq.trans kr hz) ?_
  refine GL_pure (E':=[⟨99,[(98,true)],pt jb74⟩,⟨98,[],.bool true⟩,⟨3,[],pt d1⟩,⟨13,[],.slice ra64 ((linesB R).size) rc65⟩]) [2,0,0] kr (j:=21) rfl ?_
  refine GL_heap rfl (H':=((jAt jb74 d1 (aJ R) ja75 jc76)::lg81::jr77::g71::g66::(jAt jb7 d1 (bJ R) ja60 jc61)::jr62::(jAt jb2 d1 (aJ R) ja jc)::jr::rg::(s18.G d1 (sM R)++(G++H)))) (fun w h=>(h.front (j:=1) rfl)) ?_
  refine GL_call (i:=21) (ch:=[(98,true)]) (f:=16) (fst:=#[]) (caps:=#[]) (vs:=[pt jb74]) rfl rfl rfl kr kr Tryz.func16 rfl rfl kr kr (chSure_of kr) (jSize jb74 d1 (a:=ja75) (c:=jc76) _ _) ?_
  rintro v H' ⟨rfl, rfl⟩
  refine GL_pure (E':=[⟨103,[(98,true)],.bool (((linesB R).size : Int) == (((linesB R).size : Nat) : Int))⟩,⟨98,[],.bool true⟩,⟨3,[],pt d1⟩]) [0,0,0] kr (j:=25) rfl ?_
  refine GL_env (E':=[⟨103,[(98,true)],.bool true⟩,⟨98,[],.bool true⟩,⟨3,[],pt d1⟩]) (by rw [show (((linesB R).size : Int) == (((linesB R).size : Nat) : Int)) = true from beq_self_eq_true _]) ?_
  refine GL_pure (E':=[⟨106,[(105,true)],pt d1⟩,⟨105,[],.bool true⟩]) [2,0,0] kr (j:=28) rfl ?_
  refine GL_call (i:=28) (ch:=[(105,true)]) (f:=32) (fst:=#[]) (caps:=#[]) (vs:=[pt d1,.string (ByteArray.mk #[98])]) rfl rfl rfl kr kr Tryz.func32 rfl rfl kr kr (chSure_of kr) (dList hs18 (s_roomyS hf hk30).small d1 (ByteArray.mk #[98]) [(jAt jb74 d1 (aJ R) ja75 jc76),lg81,jr77,g71,g66,(jAt jb7 d1 (bJ R) ja60 jc61),jr62,(jAt jb2 d1 (aJ R) ja jc),jr,rg] _ (G++H) (s_list R)) ?_
  rintro v H' ⟨la83, lc84, g85, rfl, hlc86, hrd87, rfl⟩
  refine GL_pure (E':=[⟨109,[(105,true)],.bool (((([pB]).length : Nat) : Int) == 1)⟩,⟨105,[],.bool true⟩]) [0,0] kr (j:=31) rfl ?_
  refine GL_env (E':=[⟨109,[(105,true)],.bool true⟩,⟨105,[],.bool true⟩]) (by rfl) ?_
  refine GL_fin (E':=[⟨2,[],.bool true⟩]) [2,0] [2] rfl kr ?_
  refine N_then ?_
  refine G_ret ?_
  refine N_ret [.tmp 2] [.bool true] rfl kr rfl ?_
  exact ⟨rfl, [g85, (jAt jb74 d1 (aJ R) ja75 jc76), lg81, jr77, g71, g66, (jAt jb7 d1 (bJ R) ja60 jc61), jr62, (jAt jb2 d1 (aJ R) ja jc), jr, rg] ++ (s18.G d1 (sM R) ++ G), by simp⟩
end Go.Proofs.YtlaoeiaaeifidaaGreat
namespace Go.Proofs.YtlaoeiaaeifidaaGreat
open Go Go.ChangeShapes Go.WideShapes Go.ChangeAt Go.RowKit Go.Sw Go.Vf
set_option maxRecDepth 100000 in
theorem journalSame_lifted (os : Os) (started : os.Started) (H : Type) (enc : TypeId × Value → H) :
    ReturnsInHanded {} Tryz.checked os 6 .any (Rows.journalSameSpec.pre6 enc Tryz.prog Tryz.f6 Rows.journalSameRow.domain false) (Rows.journalSameSpec.post enc Tryz.prog Tryz.f6 false true false false) := by
  refine returnsInHanded_of_change (C := Tryz.checked) ownKnob_ started (by kernel_rfl) Tryz.func6
    (ChangeSpec.witness6 (enc := enc) (C := Tryz.checked) false ⟨#[], #[.slice none 0 0], []⟩ 8 (by kernel_rfl) (by kernel_rfl) (by kernel_rfl) (by kernel_rfl)) ?_
  intro W base args ds gs before hval0 hW hcnd _
  have hval : ∀ (j : Nat) t v, Tryz.f6.params[j]? = some t → args[j]? = some v → Value.okWide Tryz.prog W .any base t v := hval0
  have hW' := hW
  obtain ⟨p, q, hA0, hV, rfl, _, _⟩ := hW
  have hA : DataW.TrodAll enc Tryz.prog W 0 (fun _ => true) true Tryz.f6.params.toList args.toList ds p := hA0
  rw [Tryz.params6] at hA hval
  obtain ⟨v0, d0, rfl, rfl, h0⟩ := trodAll_one hA
  obtain ⟨rfl, rfl⟩ := trodVars_none hV
  obtain ⟨la, lc, l, rfl, hl⟩ := open_strs (hval 0 32 v0 rfl rfl) h0
  simp only [List.append_nil] at hW'
  have hlt : ∀ x ∈ p, x.block < W.heap.size := fun x hx => by simpa using hW'.lt x hx
  refine (journalSame_ la lc l (SW W) W hl.rd hl.len (fun y o h => sw_at h) [] W (sat_nil W)).mono fun e W' ⟨v, H', he, ⟨hv, G, hH⟩, hs⟩ => ?_
  subst he; subst hv; subst hH
  have hb := hs.below
  refine ⟨_, rfl, ⟨_, _, _, [], p, [], hW', trodAll_mk1 (shut_bool Tryz.underlying4 _), ?_, rfl, hb.frame _, fun h => by cases h⟩⟩
  have k0 := Below.trod laidOut_ (by kernel_rfl) (of_decide_eq_true (by kernel_rfl)) h0 hb hlt
  exact trodAll_mk1 k0
theorem journalSame_said : Rows.JournalSameSaid :=
  OpenClaim.holds_of_wide 6 Tryz.f6 rfl rfl rfl rfl rfl rfl rfl ⟨rfl, rfl, rfl, rfl, rfl⟩ rfl rfl rfl rfl rfl (by kernel_rfl) Tryz.func6 (by kernel_rfl)
    (of_decide_eq_true (by kernel_rfl)) (by unfold Func.isWrapper; first | (rw [if_pos (by decide +kernel)]; kernel_rfl) | (rw [if_neg (by decide +kernel)]; exact ⟨rfl, rfl⟩))
    (fun os started H enc _ => journalSame_lifted os started H enc)
#print axioms journalSame_said
end Go.Proofs.YtlaoeiaaeifidaaGreat
