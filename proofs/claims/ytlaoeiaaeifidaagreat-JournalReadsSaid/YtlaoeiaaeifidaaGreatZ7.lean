/- JournalReads: which records any bytes of a log have, and that what is behind them goes, for all bytes and all names of a directory. No condition beyond the given statement's. (and what it stands on) -/
import Derived.Test.YtlaoeiaaeifidaaGreatZ6
namespace Go.Sha
open Go.Sw
def tb2 (k : Nat) : List Int := (pList.take k).map fun q : Nat => r2 (q : Int)
def tb3 (k : Nat) : List Int := (pList.take k).map fun q : Nat => r3 (q : Int)
theorem pL_len : pList.length = 64 := rfl
theorem tb_succ (f : Nat → Int) {k : Nat} (h : k < 64) : (pList.take (k + 1)).map f = (pList.take k).map f ++ [f (pList.getD k 0)] := by
  rw [List.take_add_one, List.getElem?_eq_getElem (by rw [pL_len]; exact h), List.map_append, List.getD, List.getElem?_eq_getElem (by rw [pL_len]; exact h)]; rfl
theorem tb2_succ {k : Nat} (h : k < 64) : tb2 (k + 1) = tb2 k ++ [r2 ((pList.getD k 0 : Nat) : Int)] := tb_succ (fun q : Nat => r2 (q : Int)) h
theorem tb3_succ {k : Nat} (h : k < 64) : tb3 (k + 1) = tb3 k ++ [r3 ((pList.getD k 0 : Nat) : Int)] := tb_succ (fun q : Nat => r3 (q : Int)) h
theorem tb2_all : tb2 8 = hTab := tab2
theorem tb3_all : tb3 64 = kTab := tab3
def e8 (n : Int) (j : Nat) : UInt8 := b8 (n.fdiv (2 ^ (56 - 8 * j)))
theorem e8_take (n : Int) {j : Nat} (h : j < 8) : (eightB n).take (j + 1) = (eightB n).take j ++ [e8 n j] := by
  match j, h with
  | 0, _ | 1, _ | 2, _ | 3, _ | 4, _ | 5, _ | 6, _ | 7, _ => rfl
  | j + 8, h => exact absurd h (by omega)
theorem e8_val (n : Int) {j : Nat} (h : j < 8) : IntKind.wrap .u8 (Int.fdiv n (2 ^ (min (Int.toNat (IntKind.wrap .u64 (8 * (7 - (j : Int))))) (IntKind.bits .i64)))) = ((e8 n j).toNat : Int) := by
  have e : min (Int.toNat (IntKind.wrap .u64 (8 * (7 - (j : Int))))) (IntKind.bits .i64) = 56 - 8 * j := by
    match j, h with
    | 0, _ | 1, _ | 2, _ | 3, _ | 4, _ | 5, _ | 6, _ | 7, _ => decide
    | j + 8, h => exact absurd h (by omega)
  rw [e]; exact wrap_b8 _
theorem e8_sh (j : Nat) : 0 ≤ IntKind.wrap .u64 (8 * (7 - (j : Int))) := by
  have e : ∀ x : Int, IntKind.wrap .u64 x = x % 18446744073709551616 := fun x => by first | rfl | simp [IntKind.wrap, IntKind.bits, IntKind.signed]
  rw [e]; omega
theorem e8_step (n : Int) (P : List UInt8) {j : Nat} (h : j < 8) {x : Int} (hx : x = ((e8 n j).toNat : Int)) : (u8s P ++ u8s ((eightB n).take j)) ++ [.int .u8 x] = u8s P ++ u8s ((eightB n).take (j + 1)) := by
  subst hx
  rw [e8_take n h, u8s_append ((eightB n).take j), List.append_assoc]; rfl
theorem e8_all (l : List UInt8) {k j : Nat} (hk : k = padZ l.length) (hj : j = 8) : u8s (padK l k) ++ u8s ((eightB ((8 * l.length : Nat) : Int)).take j) = u8s (padB l) := by
  subst hk; subst hj; rw [← u8s_append]; rfl
def S8l (s : S8) : List Int := [s.a, s.b, s.c, s.d, s.e, s.f, s.g, s.h]
theorem h_tab : S8l hIni = hTab := rfl
def cB (p : List UInt8) (q : Nat) : Nat → Int := byt (chunkOf p q)
def fN (p : List UInt8) : Nat → S8
  | 0 => hIni
  | q + 1 => addS (fN p q) (rnds kAt (wAt (cB p q)) (fN p q) 64)
theorem foldB_take (p : List UInt8) (m : Nat) : ∀ k, k ≤ m → foldB p ((List.finRange m).take k) = fN p k
  | 0, _ => by rw [List.take_zero]; rfl
  | k + 1, h => by
    have e : (List.finRange m).take (k + 1) = (List.finRange m).take k ++ [⟨k, h⟩] := by
      rw [List.take_add_one, List.getElem?_eq_getElem (by simp; omega)]
      simp
    rw [e, foldB_snoc, foldB_take p m k (by omega)]; rfl
theorem sumS_fN (l : List UInt8) : sumS l = fN (padB l) ((padB l).length / 64) := by
  have := foldB_take (padB l) ((padB l).length / 64) _ (Nat.le_refl _)
  rw [← this, List.take_of_length_le (by simp)]; rfl
theorem U_e (p : List UInt8) (q i : Nat) : U (rnds kAt (wAt (cB p q)) (fN p q) i).e := by
  cases i with
  | succ i => exact U_w32 _
  | zero => cases q with
    | zero => exact show U 1359893119 from ⟨by decide, by decide⟩
    | succ q => exact U_w32 _
theorem cB_nat (p : List UInt8) (q j : Nat) : ∃ a : Nat, cB p q j = a ∧ a < 256 := ⟨((chunkOf p q).getD j 0).toNat, rfl, UInt8.toNat_lt _⟩
theorem w_lo (p : List UInt8) (q : Nat) {i : Nat} (h : i < 16) {x : Int} (hx : x = wordR (cB p q (4 * i)) (cB p q (4 * i + 1)) (cB p q (4 * i + 2)) (cB p q (4 * i + 3))) : u32s (wsch (cB p q) i) ++ [.int .u32 x] = u32s (wsch (cB p q) (i + 1)) := by
  obtain ⟨a, ha, ha'⟩ := cB_nat p q (4 * i)
  obtain ⟨b, hb, hb'⟩ := cB_nat p q (4 * i + 1)
  obtain ⟨c, hc, hc'⟩ := cB_nat p q (4 * i + 2)
  obtain ⟨d, hd, hd'⟩ := cB_nat p q (4 * i + 3)
  rw [ha, hb, hc, hd, word_eq ha' hb' hc' hd'] at hx
  rw [wsch, if_pos h, ha, hb, hc, hd]
  subst hx
  simp [u32s]
theorem w_hi (B : Nat → Int) {i : Nat} (h : ¬ i < 16) {x : Int} (hx : x = w32 (w32 (w32 ((wsch B i).getD (i - 16) 0 + sg0 ((wsch B i).getD (i - 15) 0)) + (wsch B i).getD (i - 7) 0) + sg1 ((wsch B i).getD (i - 2) 0))) : u32s (wsch B i) ++ [.int .u32 x] = u32s (wsch B (i + 1)) := by
  rw [wsch, if_neg h]; subst hx; simp [u32s]
theorem u32s_at {l : List Int} {k q : Nat} (hq : q = k) (h : k < l.length) : (u32s l)[q]? = some (.int .u32 (l.getD k 0)) := by
  subst hq; simp [u32s, List.getD, h]
theorem wat_at (B : Nat → Int) {k q : Nat} (hq : q = k) (h : k < 64) : (u32s (wsch B 64))[q]? = some (.int .u32 (wAt B k)) := u32s_at hq (by rw [wsch_len]; exact h)
theorem kat_at {k q : Nat} (hq : q = k) (h : k < 64) : (u32s kTab)[q]? = some (.int .u32 (kAt k)) := u32s_at hq h
def t1R (k w : Int) (s : S8) : Int := w32 (w32 (w32 (w32 (s.h + bs1 s.e) + chR s.e s.f s.g) + k) + w)
def t2R (s : S8) : Int := w32 (bs0 s.a + majR s.a s.b s.c)
theorem t1R_eq (k w : Int) {s : S8} (h : U s.e) : t1R k w s = t1P k w s := by unfold t1R t1P; rw [chR_eq h]
theorem t2R_eq (s : S8) : t2R s = t2P s := by unfold t2R t2P; rw [majR_eq]
theorem cell_at (p : List UInt8) {q j k m : Nat} (hm : p.length = 64 * m) (hq : q < m) (hj : j < 64) (hk : k = j) : (((u8s p).drop (64 * q)))[k]? = some (.int .u8 (cB p q j)) := by
  subst hk
  rw [List.getElem?_drop, u8s_at (by omega)]
  unfold cB byt chunkOf
  rw [List.getD, List.getD, List.getElem?_take, if_pos hj, List.getElem?_drop]
theorem drop_ne {p : List UInt8} {q m : Nat} (hm : p.length = 64 * m) (hq : q < m) : (u8s p).drop (64 * q) ≠ [] := fun e => by
  have := congrArg List.length e
  rw [List.length_drop] at this
  simp only [u8s, List.length_map, List.length_nil] at this; omega
theorem rd_next {S : Nat → Obj → Prop} {a : Option Addr} {p : List UInt8} {q m c : Nat} (hm : p.length = 64 * m) (h : Rd S a ((u8s p).drop (64 * q))) (hq : q < m) (hc : 64 * (m - q) ≤ c) : Rd S (cutA a c 64 1) ((u8s p).drop (64 * (q + 1))) := by
  have := h.cut (cap := c) (l := 64) (sz := 1) (m := 64 * (m - (q + 1))) (fun e => by omega)
  rw [List.drop_drop, List.take_of_length_le (by rw [List.length_drop]; simp only [u8s, List.length_map]; omega)] at this
  rw [show 64 * (q + 1) = 64 * q + 64 * 1 by omega]; exact this
theorem out_take (s : S8) {k : Nat} (h : k < 8) : (outB s).take (4 * (k + 1)) = (outB s).take (4 * k) ++ wordB (wd s k) := by
  match k, h with
  | 0, _ | 1, _ | 2, _ | 3, _ | 4, _ | 5, _ | 6, _ | 7, _ => rfl
  | k + 8, h => exact absurd h (by omega)
theorem out_step (s : S8) {k : Nat} (h : k < 8) : u8s ((outB s).take (4 * k)) ++ [.int .u8 (IntKind.wrap .u8 (Int.fdiv (wd s k) (2 ^ 24))), .int .u8 (IntKind.wrap .u8 (Int.fdiv (wd s k) (2 ^ 16))), .int .u8 (IntKind.wrap .u8 (Int.fdiv (wd s k) (2 ^ 8))), .int .u8 (IntKind.wrap .u8 (wd s k))] = u8s ((outB s).take (4 * (k + 1))) := by
  rw [out_take s h, u8s_append]
  unfold wordB
  simp only [u8s_cons]; rfl
theorem wd_cell (s : S8) {k q : Nat} (hq : q = k) (h : k < 8) : (u32s (S8l s))[q]? = some (.int .u32 (wd s k)) := u32s_at hq h
theorem S8l_add (s t : S8) : u32s (S8l (addS s t)) = [.int .u32 (w32 (s.a + t.a)), .int .u32 (w32 (s.b + t.b)), .int .u32 (w32 (s.c + t.c)), .int .u32 (w32 (s.d + t.d)), .int .u32 (w32 (s.e + t.e)), .int .u32 (w32 (s.f + t.f)), .int .u32 (w32 (s.g + t.g)), .int .u32 (w32 (s.h + t.h))] := rfl
def hxT (x : Int) : ByteArray := digs.extract (Int.toNat (IntKind.wrap .u8 (Int.tdiv x 16))) (Int.toNat (IntKind.wrap .u8 (IntKind.wrap .u8 (Int.tdiv x 16) + 1))) ++ digs.extract (Int.toNat (Int.tmod x 16)) (Int.toNat (IntKind.wrap .u8 (Int.tmod x 16 + 1)))
def hxs (l : List UInt8) (k : Nat) : ByteArray := ByteArray.mk (hexK l k).toArray
theorem hxT_all : (List.range 256).all (fun n => (hxT ((n : Nat) : Int)).data.toList == hex2 ((n : Nat) : Int)) = true := by kernel_rfl
theorem hxs_succ (l : List UInt8) {k : Nat} (h : k < l.length) : hxs l k ++ hxT (byt l k) = hxs l (k + 1) := by
  have e : l.take (k + 1) = l.take k ++ [l.getD k 0] := by
    rw [List.take_add_one, List.getD, List.getElem?_eq_getElem h]; rfl
  have e2 := eq_of_beq (List.all_eq_true.1 hxT_all (l.getD k 0).toNat (List.mem_range.2 (UInt8.toNat_lt _)))
  apply ByteArray.ext
  apply Array.toList_inj.1
  rw [ByteArray.data_append, Array.toList_append]
  show hexK l k ++ (hxT (byt l k)).data.toList = hexK l (k + 1)
  unfold hexK
  rw [e, List.flatMap_append]
  show _ ++ (hxT (((l.getD k 0).toNat : Nat) : Int)).data.toList = _
  rw [e2]; simp
theorem hxs_size (l : List UInt8) {k : Nat} (h : k ≤ l.length) : (hxs l k).size = 2 * k := by
  show (hexK l k).toArray.size = 2 * k
  rw [List.size_toArray]; exact hexK_len _ h
end Go.Sha
namespace Go.Proofs.YtlaoeiaaeifidaaGreat
open Go.Sw Go.Sha
theorem u64s_pL {n k q : Nat} (hn : n ≤ 64) (hq : q = k) (h : k < n) : (u64s (pList.take n))[q]? = some (.int .u64 ((pList.getD k 0 : Nat) : Int)) := by
  subst hq
  have hl : pList.length = 64 := rfl
  rw [u64s_at rfl (by rw [List.length_take]; omega), List.getD, List.getD, List.getElem?_take, if_pos h]
theorem pL_ne {n : Nat} (hn : n ≤ 64) (h : 0 < n) : u64s (pList.take n) ≠ [] := u64_ne (k := 0) (by rw [List.length_take]; show 0 < min n 64; omega)
theorem tables_  (W0 : World) (H : List Grp) : Tri Tryz.prog 100 #[] W0 H (fun v H' => ∃ a c g a2 c2 g2, v = .tuple #[.slice a 8 c, .slice a2 64 c2] ∧ Go.Sw.Own 144 1 (.slice a 8 c) g 8 (u32s hTab) ∧ Go.Sw.Own 144 1 (.slice a2 64 c2) g2 64 (u32s kTab) ∧ H' = g :: g2 :: H) := by
 refine Tri_of (args := []) (n := 34) Tryz.func100 rfl rfl (Nat.le_of_ble_eq_true rfl) ?_
 refine G_seq ?_
 refine G_pure (E':=[]) [0,0] [] rfl kr ?_
 refine N_then ?_
 refine G_seq ?_
 refine G_pure (E':=[⟨2,[],.slice none 0 0⟩,⟨3,[],.slice none 0 0⟩]) [0,0] [2,3] rfl kr ?_
 refine N_then ?_
 refine G_seq ?_
 refine G_seq ?_
 refine G_region ?_
 refine GL_call (i:=0) (ch:=[]) (f:=121) (fst:=#[]) (caps:=#[]) (vs:=[.int .i64 8]) rfl rfl rfl kr kr Tryz.func121 rfl rfl kr kr (chSure_of kr) (primes_ 8 (by omega) _ _) ?_
 rintro v H' ⟨a3, cap4, g1, rfl, hO2, rfl⟩
 refine GL_fin (E':=[⟨2,[],.slice none 0 0⟩,⟨3,[],.slice none 0 0⟩,⟨8,[],.slice a3 8 cap4⟩,⟨9,[],.int .i64 8⟩,⟨10,[],.int .i64 0⟩]) [0,0] [2,3,8,9,10] rfl kr ?_
 refine N_then ?_
 refine G_block ?_
 refine G_heap (H':=([]::g1::H)) (fun w h=>Sat.flat h (List.Perm.refl _)) ?_
 refine G_loop (EI:=(fun ξ : Nat × Option Addr × Nat × Grp=>[⟨2,[],.slice ξ.2.1 ξ.1 ξ.2.2.1⟩,⟨3,[],.slice none 0 0⟩,⟨8,[],.slice a3 8 cap4⟩,⟨9,[],.int .i64 8⟩,⟨10,[],.int .i64 ((ξ.1 : Nat) : Int)⟩])) (HI:=(fun ξ : Nat × Option Addr × Nat × Grp=>(ξ.2.2.2::g1::H))) (Φ:=(fun ξ : Nat × Option Addr × Nat × Grp=>(ξ.1 ≤ 8)∧(Go.Sw.Own 144 1 (.slice ξ.2.1 ξ.1 ξ.2.2.1) ξ.2.2.2 ξ.1 (u32s (tb2 ξ.1))))) (μ:=(fun ξ : Nat × Option Addr × Nat × Grp=>8 - ξ.1)) (s0:=(0,none,0,[])) [2,3,8,9,10] kr rfl ⟨(Nat.zero_le _),Go.Sw.Own.nil⟩ ?_
 rintro ⟨k, ak, ck, gk⟩ ⟨hk, hok⟩
 dsimp only at hk hok
 refine G_seq ?_
 refine G_pure (E':=[⟨2,[],.slice ak k ck⟩,⟨3,[],.slice none 0 0⟩,⟨8,[],.slice a3 8 cap4⟩,⟨9,[],.int .i64 8⟩,⟨10,[],.int .i64 ((k : Nat) : Int)⟩,⟨11,[],.bool (decide (((k : Nat) : Int) < 8))⟩]) [0] [2,3,8,9,10,11] rfl kr ?_
 refine N_then ?_
 refine G_seq ?_
 refine G_cond (b:=decide (((k : Nat) : Int) < 8)) kr (fun hc5=>?_) (fun hc5=>?_)
 ·
  simp at hc5
  refine G_skip ?_
  refine N_then ?_
  refine G_seq ?_
  refine G_block ?_
  refine G_seq ?_
  refine G_region ?_
  refine GL_indexAddr (i:=0) (ch:=[]) (a:=a3) (len:=8) (cap:=cap4) (kd:=.i64) (j:=((k : Nat) : Int)) (e:=163) (sz:=1) (S:=(inG g1)) (cs:=(u64s (pList.take 8))) rfl rfl kr kr kr kr kr kr kr (own_rd hO2) (fun _=>by exact ⟨by omega,by omega,pL_ne (by omega) (by omega)⟩) ?_
  refine GL_loadS (i:=1) (ch:=[]) (a:=a3) (q:=k * 1) (S:=(inG g1)) (cs:=(u64s (pList.take 8))) (v:=.int .u64 ((pList.getD k 0 : Nat) : Int)) rfl rfl kr kr kr kr kr (own_rd hO2) (at_inG 1 rfl) (fun _=>(u64s_pL (by omega) (Nat.mul_one _) (by omega))) ?_
  refine GL_fin (E':=[⟨2,[],.slice ak k ck⟩,⟨3,[],.slice none 0 0⟩,⟨5,[],.int .u64 ((pList.getD k 0 : Nat) : Int)⟩,⟨8,[],.slice a3 8 cap4⟩,⟨9,[],.int .i64 8⟩,⟨10,[],.int .i64 ((k : Nat) : Int)⟩]) [0] [2,3,5,8,9,10] rfl kr ?_
  refine N_then ?_
  refine G_region ?_
  refine GL_p [0,0] kr (j:=2) rfl ?_
  refine GL_callQ (i:=2) (ch:=[]) (f:=122) (fst:=#[]) (caps:=#[]) (vs:=[.int .u64 ((pList.getD k 0 : Nat) : Int),.int .i64 2]) (v:=.int .u32 (r2 ((pList.getD k 0 : Nat) : Int))) rfl rfl rfl kr kr Tryz.func122 rfl rfl kr kr kr (fun _=>root2 _ _ _) ?_
  refine GL_buildSlice (i:=3) (ch:=[]) (e:=144) (l:=[(0,.int .u32 (r2 ((pList.getD k 0 : Nat) : Int)))]) (c:=[.int .u32 (r2 ((pList.getD k 0 : Nat) : Int))]) rfl rfl kr kr kr kr kr (fun b6=>?_)
  refine GL_append (i:=4) (ch:=[]) (t:=141) (tx:=141) (e:=144) (inf:=Tryz.t144) (s:=.slice ak k ck) (x:=.slice (some ⟨b6,0,none⟩) 1 1) (n:=k) (m:=1) (j:=1) (cs:=(u32s (tb2 k))) (news:=[.int .u32 (r2 ((pList.getD k 0 : Nat) : Int))]) (g:=gk) (S:=(inG [(b6,.cells #[.int .u32 (r2 ((pList.getD k 0 : Nat) : Int))] 144 (0,0))])) rfl rfl rfl rfl kr kr kr rfl rfl (.inl ⟨144,kr⟩) (fun ⟨_,h⟩=>by cases h) (fun _=>⟨144,kr⟩) kr kr kr rfl hok (SrcOf.slice _ _ _ _ Rd.lit (fun h=>by cases h)) (at_inG 0 rfl) rfl u32_one (by omega) (by show (k+1) * 4 ≤ 140737488355328; omega) (fun v7 g8 hO9=>?_)
  obtain ⟨a10, cap11, rfl, hcap12, hrd13⟩ := hO9.shape
  refine GL_fin (E':=[⟨2,[],.slice a10 (k+1) cap11⟩,⟨3,[],.slice none 0 0⟩,⟨8,[],.slice a3 8 cap4⟩,⟨9,[],.int .i64 8⟩,⟨10,[],.int .i64 ((k : Nat) : Int)⟩]) [0] [2,3,8,9,10] rfl kr ?_
  refine N_block ?_
  refine N_then ?_
  refine G_region ?_
  refine GL_p [0] kr (j:=1) rfl ?_
  refine GL_wi 19 (((k : Nat) : Int)+1) (by omega) (by omega) kr ?_
  refine GL_fin (E':=[⟨2,[],.slice a10 (k+1) cap11⟩,⟨3,[],.slice none 0 0⟩,⟨8,[],.slice a3 8 cap4⟩,⟨9,[],.int .i64 8⟩,⟨10,[],.int .i64 (((k : Nat) : Int)+1)⟩]) [0] [2,3,8,9,10] rfl kr ?_
  refine N_heap (H':=(g8::g1::H)) (fun w h=>(h.erase 0)) ?_
  refine N_round (s':=(k+1,a10,cap11,g8)) [2,3,8,9,10] kr rfl ⟨(by dsimp only; omega),(own_cs hO9 (by rw [tb2_succ (by omega)]; simp [u32s]))⟩ (by dsimp only; omega)
 ·
  have hk8 : k = 8 := by (have h9 := of_decide_eq_false hc5; omega)
  refine G_exit ?_
  refine N_then_exit ?_
  refine N_then_exit ?_
  refine N_block_exit ?_
  refine N_then ?_
  refine G_seq ?_
  refine G_seq ?_
  refine G_region ?_
  refine GL_call (i:=0) (ch:=[]) (f:=121) (fst:=#[]) (caps:=#[]) (vs:=[.int .i64 64]) rfl rfl rfl kr kr Tryz.func121 rfl rfl kr kr (chSure_of kr) (primes_ 64 (by omega) _ _) ?_
  rintro v H' ⟨a17, cap18, g15, rfl, hO16, rfl⟩
  refine GL_fin (E':=[⟨2,[],.slice ak k ck⟩,⟨3,[],.slice none 0 0⟩,⟨20,[],.slice a17 64 cap18⟩,⟨21,[],.int .i64 64⟩,⟨22,[],.int .i64 0⟩]) [0,0] [2,3,20,21,22] rfl kr ?_
  refine N_then ?_
  refine G_block ?_
  refine G_heap (H':=([]::g15::gk::g1::H)) (fun w h=>Sat.flat h (List.Perm.refl _)) ?_
  refine G_loop (EI:=(fun ξ : Nat × Option Addr × Nat × Grp=>[⟨2,[],.slice ak k ck⟩,⟨3,[],.slice ξ.2.1 ξ.1 ξ.2.2.1⟩,⟨20,[],.slice a17 64 cap18⟩,⟨21,[],.int .i64 64⟩,⟨22,[],.int .i64 ((ξ.1 : Nat) : Int)⟩])) (HI:=(fun ξ : Nat × Option Addr × Nat × Grp=>(ξ.2.2.2::g15::gk::g1::H))) (Φ:=(fun ξ : Nat × Option Addr × Nat × Grp=>(ξ.1 ≤ 64)∧(Go.Sw.Own 144 1 (.slice ξ.2.1 ξ.1 ξ.2.2.1) ξ.2.2.2 ξ.1 (u32s (tb3 ξ.1))))) (μ:=(fun ξ : Nat × Option Addr × Nat × Grp=>64 - ξ.1)) (s0:=(0,none,0,[])) [2,3,20,21,22] kr rfl ⟨(Nat.zero_le _),Go.Sw.Own.nil⟩ ?_
  rintro ⟨j, aj, cj, gj⟩ ⟨hj, hoj⟩
  dsimp only at hj hoj
  refine G_seq ?_
  refine G_pure (E':=[⟨2,[],.slice ak k ck⟩,⟨3,[],.slice aj j cj⟩,⟨20,[],.slice a17 64 cap18⟩,⟨21,[],.int .i64 64⟩,⟨22,[],.int .i64 ((j : Nat) : Int)⟩,⟨23,[],.bool (decide (((j : Nat) : Int) < 64))⟩]) [0] [2,3,20,21,22,23] rfl kr ?_
  refine N_then ?_
  refine G_seq ?_
  refine G_cond (b:=decide (((j : Nat) : Int) < 64)) kr (fun hc19=>?_) (fun hc19=>?_)
  ·
   simp at hc19
   refine G_skip ?_
   refine N_then ?_
   refine G_seq ?_
   refine G_block ?_
   refine G_seq ?_
   refine G_region ?_
   refine GL_indexAddr (i:=0) (ch:=[]) (a:=a17) (len:=64) (cap:=cap18) (kd:=.i64) (j:=((j : Nat) : Int)) (e:=163) (sz:=1) (S:=(inG g15)) (cs:=(u64s (pList.take 64))) rfl rfl kr kr kr kr kr kr kr (own_rd hO16) (fun _=>by exact ⟨by omega,by omega,pL_ne (by omega) (by omega)⟩) ?_
   refine GL_loadS (i:=1) (ch:=[]) (a:=a17) (q:=j * 1) (S:=(inG g15)) (cs:=(u64s (pList.take 64))) (v:=.int .u64 ((pList.getD j 0 : Nat) : Int)) rfl rfl kr kr kr kr kr (own_rd hO16) (at_inG 1 rfl) (fun _=>(u64s_pL (by omega) (Nat.mul_one _) (by omega))) ?_
   refine GL_fin (E':=[⟨2,[],.slice ak k ck⟩,⟨3,[],.slice aj j cj⟩,⟨7,[],.int .u64 ((pList.getD j 0 : Nat) : Int)⟩,⟨20,[],.slice a17 64 cap18⟩,⟨21,[],.int .i64 64⟩,⟨22,[],.int .i64 ((j : Nat) : Int)⟩]) [0] [2,3,7,20,21,22] rfl kr ?_
   refine N_then ?_
   refine G_region ?_
   refine GL_p [0,0] kr (j:=2) rfl ?_
   refine GL_callQ (i:=2) (ch:=[]) (f:=122) (fst:=#[]) (caps:=#[]) (vs:=[.int .u64 ((pList.getD j 0 : Nat) : Int),.int .i64 3]) (v:=.int .u32 (r3 ((pList.getD j 0 : Nat) : Int))) rfl rfl rfl kr kr Tryz.func122 rfl rfl kr kr kr (fun _=>root3 _ _ _) ?_
   refine GL_buildSlice (i:=3) (ch:=[]) (e:=144) (l:=[(0,.int .u32 (r3 ((pList.getD j 0 : Nat) : Int)))]) (c:=[.int .u32 (r3 ((pList.getD j 0 : Nat) : Int))]) rfl rfl kr kr kr kr kr (fun b20=>?_)
   refine GL_append (i:=4) (ch:=[]) (t:=141) (tx:=141) (e:=144) (inf:=Tryz.t144) (s:=.slice aj j cj) (x:=.slice (some ⟨b20,0,none⟩) 1 1) (n:=j) (m:=1) (j:=1) (cs:=(u32s (tb3 j))) (news:=[.int .u32 (r3 ((pList.getD j 0 : Nat) : Int))]) (g:=gj) (S:=(inG [(b20,.cells #[.int .u32 (r3 ((pList.getD j 0 : Nat) : Int))] 144 (0,0))])) rfl rfl rfl rfl kr kr kr rfl rfl (.inl ⟨144,kr⟩) (fun ⟨_,h⟩=>by cases h) (fun _=>⟨144,kr⟩) kr kr kr rfl hoj (SrcOf.slice _ _ _ _ Rd.lit (fun h=>by cases h)) (at_inG 0 rfl) rfl u32_one (by omega) (by show (j+1) * 4 ≤ 140737488355328; omega) (fun v21 g22 hO23=>?_)
   obtain ⟨a24, cap25, rfl, hcap26, hrd27⟩ := hO23.shape
   refine GL_fin (E':=[⟨2,[],.slice ak k ck⟩,⟨3,[],.slice a24 (j+1) cap25⟩,⟨20,[],.slice a17 64 cap18⟩,⟨21,[],.int .i64 64⟩,⟨22,[],.int .i64 ((j : Nat) : Int)⟩]) [0] [2,3,20,21,22] rfl kr ?_
   refine N_block ?_
   refine N_then ?_
   refine G_region ?_
   refine GL_p [0] kr (j:=1) rfl ?_
   refine GL_wi 31 (((j : Nat) : Int)+1) (by omega) (by omega) kr ?_
   refine GL_fin (E':=[⟨2,[],.slice ak k ck⟩,⟨3,[],.slice a24 (j+1) cap25⟩,⟨20,[],.slice a17 64 cap18⟩,⟨21,[],.int .i64 64⟩,⟨22,[],.int .i64 (((j : Nat) : Int)+1)⟩]) [0] [2,3,20,21,22] rfl kr ?_
   refine N_heap (H':=(g22::g15::gk::g1::H)) (fun w h=>(h.erase 0)) ?_
   refine N_round (s':=(j+1,a24,cap25,g22)) [2,3,20,21,22] kr rfl ⟨(by dsimp only; omega),(own_cs hO23 (by rw [tb3_succ (by omega)]; simp [u32s]))⟩ (by dsimp only; omega)
  ·
   have hk64 : j = 64 := by (have h9 := of_decide_eq_false hc19; omega)
   refine G_exit ?_
   refine N_then_exit ?_
   refine N_then_exit ?_
   refine N_block_exit ?_
   refine N_then ?_
   refine G_seq ?_
   refine G_pure (E':=[⟨0,[],.slice ak k ck⟩,⟨1,[],.slice aj j cj⟩]) [0,0,0,0] [0,1] rfl kr ?_
   refine N_then ?_
   refine G_ret ?_
   refine N_heap (H':=(gk::gj::H)) (fun w h=>(((h.front (j:=2) rfl).erase 3).erase 2)) ?_
   refine N_ret [.tmp 0,.tmp 1] [.slice ak k ck,.slice aj j cj] rfl kr rfl ?_
   subst hk8 hk64
   exact ⟨_, _, _, _, _, _, rfl, own_cs hok (by rw [tb2_all]), own_cs hoj (by rw [tb3_all]), rfl⟩
end Go.Proofs.YtlaoeiaaeifidaaGreat
namespace Go.Proofs.YtlaoeiaaeifidaaGreat
open Go.Sw Go.Sha
theorem u32s_ne {l : List Int} {k : Nat} (h : k < l.length) : u32s l ≠ [] := fun e => by
  have := congrArg List.length e; simp [u32s] at this; subst this; exact absurd h (Nat.not_lt_zero _)
theorem own_u8n {ty : TypeId} {a : Option Addr} {n m c : Nat} {g : Grp} {cs cs' : List Value} (h : Go.Sw.Own ty 1 (.slice a n c) g n cs) (e : n = m) (e2 : cs = cs') : Go.Sw.Own ty 1 (.slice a m c) g m cs' := by subst e; subst e2; exact h
theorem rd_first {a : Option Addr} {c n : Nat} {g : Grp} {l : List UInt8} (h : Go.Sw.Own 5 1 (.slice a n c) g n (u8s l)) : Rd (inG g) a ((u8s l).drop (64 * 0)) := own_rd h
set_option maxRecDepth 4000 in
set_option maxHeartbeats 2000000 in
theorem rsum_ (ba : Option Addr) (bc : Nat) (S : Nat → Obj → Prop) (l : List UInt8) (hrd : Rd S ba (u8s l)) (h0 : ba = none → l.length = 0) (hn : l.length ≤ 1099511627776) (W0 : World) (H : List Grp) (hS : ∀ y o, S y o → At W0 H y o) : Tri Tryz.prog 81 #[.slice ba l.length bc] W0 H (fun v H' => ∃ a c g, v = .slice a 32 c ∧ Go.Sw.Own 5 1 (.slice a 32 c) g 32 (u8s (sumB l)) ∧ H' = g :: H) := by
 refine Tri_of (args := [.slice ba l.length bc]) (n := 314) Tryz.func81 rfl rfl (Nat.le_of_ble_eq_true rfl) ?_
 refine G_seq ?_
 refine G_pure (E':=[⟨0,[],.slice ba l.length bc⟩]) [0] [0] rfl kr ?_
 refine N_then ?_
 refine G_seq ?_
 refine G_region ?_
 refine GL_p [0,0,0] kr (j:=3) rfl ?_
 refine GL_wi 27 (8 * ((l.length : Nat) : Int)) (by omega) (by omega) kr ?_
 refine GL_fin (E':=[⟨0,[],.slice ba l.length bc⟩,⟨3,[],.int .i64 (8 * ((l.length : Nat) : Int))⟩]) [0] [0,3] rfl kr ?_
 refine N_env (E':=[⟨0,[],.slice ba l.length bc⟩,⟨3,[],.int .i64 ((8 * l.length : Nat) : Int)⟩]) (by rw [show ((8 * l.length : Nat) : Int) = 8 * ((l.length : Nat) : Int) by omega]) ?_
 refine N_then ?_
 refine G_seq ?_
 refine G_region ?_
 refine GL_buildSlice (i:=0) (ch:=[]) (e:=5) (l:=[]) (c:=[]) rfl rfl kr kr kr kr kr (fun b2=>?_)
 refine GL_p [0] kr (j:=2) rfl ?_
 refine GL_append (i:=2) (ch:=[]) (t:=22) (tx:=22) (e:=5) (inf:=Tryz.t5) (s:=.slice (some ⟨b2,0,none⟩) 0 0) (x:=.slice ba l.length bc) (n:=0) (m:=l.length) (j:=0) (cs:=[]) (news:=(u8s l)) (g:=[(b2,.cells #[] 5 (0,0))]) (S:=S) rfl rfl rfl rfl kr kr kr rfl rfl (.inl ⟨5,kr⟩) (fun ⟨_,h⟩=>by cases h) (fun _=>⟨5,kr⟩) kr kr kr rfl (Go.Sw.Own.lit rfl) (SrcOf.slice _ _ _ _ hrd h0) (fun y o h=>(At.cons (hS y o h))) (show (u8s l).length = l.length * 1 by simp [u8s]) u8_one (by omega) (by show (0+l.length) * 1 ≤ 140737488355328; omega) (fun v3 g4 hO5=>?_)
 replace hO5 := own_from0 hO5
 obtain ⟨a6, cap7, rfl, hcap8, hrd9⟩ := hO5.shape
 refine GL_buildSlice (i:=3) (ch:=[]) (e:=5) (l:=[(0,.int .u8 128)]) (c:=[.int .u8 128]) rfl rfl kr kr kr kr kr (fun b10=>?_)
 refine GL_append (i:=4) (ch:=[]) (t:=22) (tx:=22) (e:=5) (inf:=Tryz.t5) (s:=.slice a6 l.length cap7) (x:=.slice (some ⟨b10,0,none⟩) 1 1) (n:=l.length) (m:=1) (j:=1) (cs:=(u8s l)) (news:=[.int .u8 128]) (g:=g4) (S:=(inG [(b10,.cells #[.int .u8 128] 5 (0,0))])) rfl rfl rfl rfl kr kr kr rfl rfl (.inl ⟨5,kr⟩) (fun ⟨_,h⟩=>by cases h) (fun _=>⟨5,kr⟩) kr kr kr rfl hO5 (SrcOf.slice _ _ _ _ Rd.lit (fun h=>by cases h)) (at_inG 0 rfl) rfl (by intro u hu; rw [List.mem_singleton.1 hu]; rfl) (by omega) (by show (l.length+1) * 1 ≤ 140737488355328; omega) (fun v11 g12 hO13=>?_)
 obtain ⟨a14, cap15, rfl, hcap16, hrd17⟩ := hO13.shape
 refine GL_fin (E':=[⟨0,[],.slice a14 (l.length+1) cap15⟩,⟨3,[],.int .i64 ((8 * l.length : Nat) : Int)⟩]) [0] [0,3] rfl kr ?_
 refine N_then ?_
 refine G_seq ?_
 refine G_block ?_
 refine G_heap (H':=(g12::H)) (fun w h=>(h.erase 0)) ?_
 refine G_loop (EI:=(fun ξ : Nat × Option Addr × Nat × Grp=>[⟨0,[],.slice ξ.2.1 (l.length+1+ξ.1) ξ.2.2.1⟩,⟨3,[],.int .i64 ((8 * l.length : Nat) : Int)⟩])) (HI:=(fun ξ : Nat × Option Addr × Nat × Grp=>(ξ.2.2.2::H))) (Φ:=(fun ξ : Nat × Option Addr × Nat × Grp=>(ξ.1 ≤ padZ l.length)∧(Go.Sw.Own 5 1 (.slice ξ.2.1 (l.length+1+ξ.1) ξ.2.2.1) ξ.2.2.2 (l.length+1+ξ.1) (u8s (padK l ξ.1))))) (μ:=(fun ξ : Nat × Option Addr × Nat × Grp=>padZ l.length - ξ.1)) (s0:=(0,a14,cap15,g12)) [0,3] kr rfl ⟨(Nat.zero_le _),(own_u8n hO13 (by omega) (padK_zero l))⟩ ?_
 rintro ⟨k, a, c, g⟩ ⟨hk, ho⟩
 dsimp only at hk ho
 have hpz := (pad_mod l.length).2
 refine G_seq ?_
 refine G_seq ?_
 refine G_region ?_
 refine GL_p [0,0,0] kr (j:=3) rfl ?_
 have hw18 : Int.tmod (((l.length + 1 + k) : Nat) : Int) 64 = (((l.length + 1 + k) : Nat) : Int) % 64 := r64 (by omega)
 refine GL_w 35 hw18 kr ?_
 refine GL_fin (E':=[⟨0,[],.slice a (l.length+1+k) c⟩,⟨3,[],.int .i64 ((8 * l.length : Nat) : Int)⟩,⟨36,[],.bool (((((l.length+1+k) : Nat) : Int) % 64) != 56)⟩]) [0] [0,3,36] rfl kr ?_
 refine N_then ?_
 refine G_cond (b:=((((l.length+1+k) : Nat) : Int) % 64) != 56) kr (fun hc19=>?_) (fun hc19=>?_)
 ·
  have hlt := (pad_more hk).1 hc19
  refine G_skip ?_
  refine N_then ?_
  refine G_block ?_
  refine G_region ?_
  refine GL_p [0] kr (j:=1) rfl ?_
  refine GL_buildSlice (i:=1) (ch:=[]) (e:=5) (l:=[(0,.int .u8 0)]) (c:=[.int .u8 0]) rfl rfl kr kr kr kr kr (fun b20=>?_)
  refine GL_append (i:=2) (ch:=[]) (t:=22) (tx:=22) (e:=5) (inf:=Tryz.t5) (s:=.slice a (l.length+1+k) c) (x:=.slice (some ⟨b20,0,none⟩) 1 1) (n:=(l.length+1+k)) (m:=1) (j:=1) (cs:=(u8s (padK l k))) (news:=[.int .u8 0]) (g:=g) (S:=(inG [(b20,.cells #[.int .u8 0] 5 (0,0))])) rfl rfl rfl rfl kr kr kr rfl rfl (.inl ⟨5,kr⟩) (fun ⟨_,h⟩=>by cases h) (fun _=>⟨5,kr⟩) kr kr kr rfl ho (SrcOf.slice _ _ _ _ Rd.lit (fun h=>by cases h)) (at_inG 0 rfl) rfl (by intro u hu; rw [List.mem_singleton.1 hu]; rfl) (by omega) (by show ((l.length+1+k)+1) * 1 ≤ 140737488355328; omega) (fun v21 g22 hO23=>?_)
  obtain ⟨a24, cap25, rfl, hcap26, hrd27⟩ := hO23.shape
  refine GL_fin (E':=[⟨0,[],.slice a24 ((l.length+1+k)+1) cap25⟩,⟨3,[],.int .i64 ((8 * l.length : Nat) : Int)⟩]) [0] [0,3] rfl kr ?_
  refine N_block ?_
  refine N_heap (H':=(g22::H)) (fun w h=>(h.erase 0)) ?_
  refine N_round (s':=(k+1,a24,cap25,g22)) [0,3] kr rfl ⟨(by dsimp only; omega),(own_u8n hO23 (by omega) (padK_succ l k))⟩ (by dsimp only; omega)
 ·
  have hke : k = padZ l.length := (pad_more hk).2 hc19
  refine G_exit ?_
  refine N_then_exit ?_
  refine N_then_exit ?_
  refine N_block_exit ?_
  refine N_then ?_
  refine G_seq ?_
  refine G_seq ?_
  refine G_pure (E':=[⟨0,[],.slice a (l.length+1+k) c⟩,⟨3,[],.int .i64 ((8 * l.length : Nat) : Int)⟩,⟨4,[],.int .i64 7⟩]) [0] [0,3,4] rfl kr ?_
  refine N_then ?_
  refine G_block ?_
  refine G_loop (EI:=(fun ξ : Nat × Option Addr × Nat × Grp=>[⟨0,[],.slice ξ.2.1 (l.length+1+k+ξ.1) ξ.2.2.1⟩,⟨3,[],.int .i64 ((8 * l.length : Nat) : Int)⟩,⟨4,[],.int .i64 (7 - ((ξ.1 : Nat) : Int))⟩])) (HI:=(fun ξ : Nat × Option Addr × Nat × Grp=>(ξ.2.2.2::H))) (Φ:=(fun ξ : Nat × Option Addr × Nat × Grp=>(ξ.1 ≤ 8)∧(Go.Sw.Own 5 1 (.slice ξ.2.1 (l.length+1+k+ξ.1) ξ.2.2.1) ξ.2.2.2 (l.length+1+k+ξ.1) (u8s (padK l k)++u8s ((eightB ((8 * l.length : Nat) : Int)).take ξ.1))))) (μ:=(fun ξ : Nat × Option Addr × Nat × Grp=>8 - ξ.1)) (s0:=(0,a,c,g)) [0,3,4] kr rfl ⟨(Nat.zero_le _),(own_u8n ho rfl (by rw [List.take_zero]; exact (List.append_nil _).symm))⟩ ?_
  rintro ⟨j, a, c, g⟩ ⟨hj, ho⟩
  dsimp only at hj ho
  refine G_seq ?_
  refine G_seq ?_
  refine G_pure (E':=[⟨0,[],.slice a (l.length+1+k+j) c⟩,⟨3,[],.int .i64 ((8 * l.length : Nat) : Int)⟩,⟨4,[],.int .i64 (7 - ((j : Nat) : Int))⟩,⟨41,[],.bool (decide ((7 - ((j : Nat) : Int)) ≥ 0))⟩]) [0,0] [0,3,4,41] rfl kr ?_
  refine N_then ?_
  refine G_cond (b:=decide ((7 - ((j : Nat) : Int)) ≥ 0)) kr (fun hc28=>?_) (fun hc28=>?_)
  ·
   have hj9 := of_decide_eq_true hc28
   refine G_skip ?_
   refine N_then ?_
   refine G_seq ?_
   refine G_block ?_
   refine G_region ?_
   refine GL_p [0,0,0,0] kr (j:=4) rfl ?_
   refine GL_wi 47 (8 * (7 - ((j : Nat) : Int))) (by omega) (by omega) kr ?_
   refine GL_p [0] kr (j:=5) rfl ?_
   refine GL_shr (i:=5) (ch:=[]) (kd:=.i64) (ky:=.u64) (a:=((8 * l.length : Nat) : Int)) (b:=IntKind.wrap .u64 (8 * (7 - ((j : Nat) : Int)))) rfl rfl kr kr kr kr kr (e8_sh j) ?_
   refine GL_p [0] kr (j:=7) rfl ?_
   refine GL_buildSlice (i:=7) (ch:=[]) (e:=5) (l:=[(0,.int .u8 (IntKind.wrap .u8 (Int.fdiv ((8 * l.length : Nat) : Int) (2 ^ (min (Int.toNat (IntKind.wrap .u64 (8 * (7 - ((j : Nat) : Int))))) (IntKind.bits .i64))))))]) (c:=[.int .u8 (IntKind.wrap .u8 (Int.fdiv ((8 * l.length : Nat) : Int) (2 ^ (min (Int.toNat (IntKind.wrap .u64 (8 * (7 - ((j : Nat) : Int))))) (IntKind.bits .i64)))))]) rfl rfl kr kr kr kr kr (fun b30=>?_)
   refine GL_append (i:=8) (ch:=[]) (t:=22) (tx:=22) (e:=5) (inf:=Tryz.t5) (s:=.slice a (l.length+1+k+j) c) (x:=.slice (some ⟨b30,0,none⟩) 1 1) (n:=(l.length+1+k+j)) (m:=1) (j:=1) (cs:=(u8s (padK l k)++u8s ((eightB ((8 * l.length : Nat) : Int)).take j))) (news:=[.int .u8 (IntKind.wrap .u8 (Int.fdiv ((8 * l.length : Nat) : Int) (2 ^ (min (Int.toNat (IntKind.wrap .u64 (8 * (7 - ((j : Nat) : Int))))) (IntKind.bits .i64)))))]) (g:=g) (S:=(inG [(b30,.cells #[.int .u8 (IntKind.wrap .u8 (Int.fdiv ((8 * l.length : Nat) : Int) (2 ^ (min (Int.toNat (IntKind.wrap .u64 (8 * (7 - ((j : Nat) : Int))))) (IntKind.bits .i64)))))] 5 (0,0))])) rfl rfl rfl rfl kr kr kr rfl rfl (.inl ⟨5,kr⟩) (fun ⟨_,h⟩=>by cases h) (fun _=>⟨5,kr⟩) kr kr kr rfl ho (SrcOf.slice _ _ _ _ Rd.lit (fun h=>by cases h)) (at_inG 0 rfl) rfl (by intro u hu; rw [List.mem_singleton.1 hu]; rfl) (by omega) (by show ((l.length+1+k+j)+1) * 1 ≤ 140737488355328; omega) (fun v31 g32 hO33=>?_)
   obtain ⟨a34, cap35, rfl, hcap36, hrd37⟩ := hO33.shape
   refine GL_fin (E':=[⟨0,[],.slice a34 ((l.length+1+k+j)+1) cap35⟩,⟨3,[],.int .i64 ((8 * l.length : Nat) : Int)⟩,⟨4,[],.int .i64 (7 - ((j : Nat) : Int))⟩]) [0] [0,3,4] rfl kr ?_
   refine N_block ?_
   refine N_then ?_
   refine G_region ?_
   refine GL_p [0,0] kr (j:=2) rfl ?_
   refine GL_wi 43 ((7 - ((j : Nat) : Int)) - 1) (by omega) (by omega) kr ?_
   refine GL_fin (E':=[⟨0,[],.slice a34 ((l.length+1+k+j)+1) cap35⟩,⟨3,[],.int .i64 ((8 * l.length : Nat) : Int)⟩,⟨4,[],.int .i64 ((7 - ((j : Nat) : Int)) - 1)⟩]) [0] [0,3,4] rfl kr ?_
   refine N_env (E':=[⟨0,[],.slice a34 ((l.length+1+k+j)+1) cap35⟩,⟨3,[],.int .i64 ((8 * l.length : Nat) : Int)⟩,⟨4,[],.int .i64 (7 - ((j+1 : Nat) : Int))⟩]) (by rw [show 7 - ((j+1 : Nat) : Int) = 7 - ((j : Nat) : Int) - 1 by omega]) ?_
   refine N_heap (H':=(g32::H)) (fun w h=>(h.erase 0)) ?_
   refine N_round (s':=(j+1,a34,cap35,g32)) [0,3,4] kr rfl ⟨(by dsimp only; omega),(own_u8n hO33 rfl (e8_step _ _ (by omega) (e8_val _ (by omega))))⟩ (by dsimp only; omega)
  ·
   have hj8 : j = 8 := by (have h9 := of_decide_eq_false hc28; omega)
   refine G_exit ?_
   refine N_then_exit ?_
   refine N_then_exit ?_
   refine N_block_exit ?_
   refine N_then ?_
   refine G_seq ?_
   refine G_region ?_
   refine GL_call (i:=0) (ch:=[]) (f:=100) (fst:=#[]) (caps:=#[]) (vs:=[]) rfl rfl rfl kr kr Tryz.func100 rfl rfl kr kr (chSure_of kr) (tables_ _ _) ?_
   rintro v H' ⟨ah39, ch40, gh41, ak42, ck43, gk44, rfl, hOh45, hOk46, rfl⟩
   refine GL_fin (E':=[⟨0,[],.slice a (l.length+1+k+j) c⟩,⟨5,[],.slice ah39 8 ch40⟩,⟨6,[],.slice ak42 64 ck43⟩]) [0,0,0,0,0] [0,5,6] rfl kr ?_
   refine N_then ?_
   refine G_seq ?_
   refine G_block ?_
   obtain ⟨hm6, hP⟩ := padB_m l hke
   have hO6 := own_u8n (m := l.length + 1 + k + 8) ho (by omega) (e8_all l hke hj8)
   have hc6 : l.length + 1 + k + 8 ≤ c := ownC_cap hO6
   obtain ⟨m, hm⟩ : ∃ m, m = ((padB l).length / 64) := ⟨_, rfl⟩
   rw [← hm] at hm6 hP
   refine G_loop (EI:=(fun ξ : Nat × Option Addr × Nat × Option Addr × Nat × Grp × S8=>[⟨0,[],.slice ξ.2.1 (64 * (m - ξ.1)) ξ.2.2.1⟩,⟨5,[],.slice ξ.2.2.2.1 8 ξ.2.2.2.2.1⟩,⟨6,[],.slice ak42 64 ck43⟩])) (HI:=(fun ξ : Nat × Option Addr × Nat × Option Addr × Nat × Grp × S8=>(ξ.2.2.2.2.2.1::gk44::g::H))) (Φ:=(fun ξ : Nat × Option Addr × Nat × Option Addr × Nat × Grp × S8=>(ξ.1 ≤ m)∧(Rd (inG g) ξ.2.1 ((u8s (padB l)).drop (64 * ξ.1)))∧(64 * (m - ξ.1) ≤ ξ.2.2.1)∧(ξ.2.2.2.2.2.2 = fN (padB l) ξ.1)∧(Go.Sw.Own 144 1 (.slice ξ.2.2.2.1 8 ξ.2.2.2.2.1) ξ.2.2.2.2.2.1 8 (u32s (S8l ξ.2.2.2.2.2.2))))) (μ:=(fun ξ : Nat × Option Addr × Nat × Option Addr × Nat × Grp × S8=>m - ξ.1)) (s0:=(0,a,c,ah39,ch40,gh41,hIni)) [0,5,6] (by rw [show l.length+1+k+j = 64 * (m - 0) by omega]; rfl) rfl ⟨(Nat.zero_le _),(rd_first hO6),(by dsimp only; omega),rfl,(own_cs hOh45 (by rw [← h_tab]))⟩ ?_
   rintro ⟨q, aq, cq, a5, c5, g5, fs⟩ ⟨hq, hrq, hcq, hfs, ho5⟩
   dsimp only at hq hrq hcq hfs ho5
   refine G_seq ?_
   refine G_seq ?_
   refine G_pure (E':=[⟨0,[],.slice aq (64 * (m - q)) cq⟩,⟨5,[],.slice a5 8 c5⟩,⟨6,[],.slice ak42 64 ck43⟩,⟨59,[],.bool (decide ((((64 * (m - q)) : Nat) : Int) > 0))⟩]) [0,0,0] [0,5,6,59] rfl kr ?_
   refine N_then ?_
   refine G_cond (b:=decide ((((64 * (m - q)) : Nat) : Int) > 0)) kr (fun hc47=>?_) (fun hc47=>?_)
   ·
    have hlt : q < m := by (have h9 := of_decide_eq_true hc47; omega)
    obtain ⟨B, hB⟩ : ∃ B, B = cB (padB l) q := ⟨_, rfl⟩
    refine G_skip ?_
    refine N_then ?_
    refine G_seq ?_
    refine G_block ?_
    refine G_seq ?_
    refine G_pure (E':=[⟨0,[],.slice aq (64 * (m - q)) cq⟩,⟨5,[],.slice a5 8 c5⟩,⟨6,[],.slice ak42 64 ck43⟩,⟨7,[],.slice none 0 0⟩]) [0] [0,5,6,7] rfl kr ?_
    refine N_then ?_
    refine G_seq ?_
    refine G_seq ?_
    refine G_pure (E':=[⟨0,[],.slice aq (64 * (m - q)) cq⟩,⟨5,[],.slice a5 8 c5⟩,⟨6,[],.slice ak42 64 ck43⟩,⟨7,[],.slice none 0 0⟩,⟨8,[],.int .i64 0⟩]) [0] [0,5,6,7,8] rfl kr ?_
    refine N_then ?_
    refine G_block ?_
    refine G_heap (H':=([]::g5::gk44::g::H)) (fun w h=>Sat.flat h (List.Perm.refl _)) ?_
    refine G_loop (EI:=(fun ξ : Nat × Option Addr × Nat × Grp=>[⟨0,[],.slice aq (64 * (m - q)) cq⟩,⟨5,[],.slice a5 8 c5⟩,⟨6,[],.slice ak42 64 ck43⟩,⟨7,[],.slice ξ.2.1 ξ.1 ξ.2.2.1⟩,⟨8,[],.int .i64 ((ξ.1 : Nat) : Int)⟩])) (HI:=(fun ξ : Nat × Option Addr × Nat × Grp=>(ξ.2.2.2::g5::gk44::g::H))) (Φ:=(fun ξ : Nat × Option Addr × Nat × Grp=>(ξ.1 ≤ 64)∧(Go.Sw.Own 144 1 (.slice ξ.2.1 ξ.1 ξ.2.2.1) ξ.2.2.2 ξ.1 (u32s (wsch B ξ.1))))) (μ:=(fun ξ : Nat × Option Addr × Nat × Grp=>64 - ξ.1)) (s0:=(0,none,0,[])) [0,5,6,7,8] kr rfl ⟨(Nat.zero_le _),Go.Sw.Own.nil⟩ ?_
    rintro ⟨n, aw, cw, gw⟩ ⟨hn64, how⟩
    dsimp only at hn64 how
    refine G_seq ?_
    refine G_seq ?_
    refine G_pure (E':=[⟨0,[],.slice aq (64 * (m - q)) cq⟩,⟨5,[],.slice a5 8 c5⟩,⟨6,[],.slice ak42 64 ck43⟩,⟨7,[],.slice aw n cw⟩,⟨8,[],.int .i64 ((n : Nat) : Int)⟩,⟨63,[],.bool (decide (((n : Nat) : Int) < 64))⟩]) [0,0] [0,5,6,7,8,63] rfl kr ?_
    refine N_then ?_
    refine G_cond (b:=decide (((n : Nat) : Int) < 64)) kr (fun hc48=>?_) (fun hc48=>?_)
    ·
     replace hc48 := of_decide_eq_true hc48
     refine G_skip ?_
     refine N_then ?_
     refine G_seq ?_
     refine G_block ?_
     refine G_seq ?_
     refine G_seq ?_
     refine G_pure (E':=[⟨0,[],.slice aq (64 * (m - q)) cq⟩,⟨5,[],.slice a5 8 c5⟩,⟨6,[],.slice ak42 64 ck43⟩,⟨7,[],.slice aw n cw⟩,⟨8,[],.int .i64 ((n : Nat) : Int)⟩,⟨67,[],.bool (decide (((n : Nat) : Int) < 16))⟩]) [0,0] [0,5,6,7,8,67] rfl kr ?_
     refine N_then ?_
     refine G_cond (b:=decide (((n : Nat) : Int) < 16)) kr (fun hc49=>?_) (fun hc49=>?_)
     ·
      have hlo : n < 16 := by (have h9 := of_decide_eq_true hc49; omega)
      refine G_seq ?_
      refine G_regionH (g5::gk44::g::H) kr ?_
      refine GH_p (fuel:=33) [(0,0),(1,0),(2,0),(3,0)] (fun w h=>(h.erase 0)) kr rfl ?_
      refine GH_wi 71 (4 * ((n : Nat) : Int)) (by omega) (by omega) kr ?_
      refine GH_take' 4 kr (fun w h=>(h.erase 0)) (GL_indexAddr (i:=4) (ch:=[]) (a:=aq) (len:=(64 * (m - q))) (cap:=cq) (kd:=.i64) (j:=4 * ((n : Nat) : Int)) (e:=5) (sz:=1) (S:=(inG g)) (cs:=((u8s (padB l)).drop (64 * q))) rfl rfl kr kr kr kr kr kr kr hrq (fun _=>by exact ⟨by omega,by omega,drop_ne hP hlt⟩) (GL_yend kr rfl)) ?_
      refine GH_take' 5 kr (fun w h=>(h.erase 0)) (GL_loadS (i:=5) (ch:=[]) (a:=aq) (q:=(Int.toNat (4 * ((n : Nat) : Int))) * 1) (S:=(inG g)) (cs:=((u8s (padB l)).drop (64 * q))) (v:=.int .u8 (B (4 * n))) rfl rfl kr kr kr kr kr hrq (at_inG 2 rfl) (fun _=>(by rw [hB]; exact cell_at (padB l) hP hlt (j:=4 * n) (by omega) (by omega))) (GL_yend kr rfl)) ?_
      refine GH_p (fuel:=26) [(6,0),(7,0),(8,0),(9,0),(10,0)] (fun w h=>(h.erase 0)) kr rfl ?_
      refine GH_wi 78 (4 * ((n : Nat) : Int)) (by omega) (by omega) kr ?_
      refine GH_p (fuel:=25) [(11,0)] (fun w h=>(h.erase 0)) kr rfl ?_
      refine GH_wi 79 ((4 * ((n : Nat) : Int))+1) (by omega) (by omega) kr ?_
      refine GH_take' 12 kr (fun w h=>(h.erase 0)) (GL_indexAddr (i:=12) (ch:=[]) (a:=aq) (len:=(64 * (m - q))) (cap:=cq) (kd:=.i64) (j:=(4 * ((n : Nat) : Int))+1) (e:=5) (sz:=1) (S:=(inG g)) (cs:=((u8s (padB l)).drop (64 * q))) rfl rfl kr kr kr kr kr kr kr hrq (fun _=>by exact ⟨by omega,by omega,drop_ne hP hlt⟩) (GL_yend kr rfl)) ?_
      refine GH_take' 13 kr (fun w h=>(h.erase 0)) (GL_loadS (i:=13) (ch:=[]) (a:=aq) (q:=(Int.toNat ((4 * ((n : Nat) : Int))+1)) * 1) (S:=(inG g)) (cs:=((u8s (padB l)).drop (64 * q))) (v:=.int .u8 (B (4 * n+1))) rfl rfl kr kr kr kr kr hrq (at_inG 2 rfl) (fun _=>(by rw [hB]; exact cell_at (padB l) hP hlt (j:=4 * n+1) (by omega) (by omega))) (GL_yend kr rfl)) ?_
      refine GH_p (fuel:=17) [(14,0),(15,0),(16,0),(17,0),(18,0),(19,0)] (fun w h=>(h.erase 0)) kr rfl ?_
      refine GH_wi 87 (4 * ((n : Nat) : Int)) (by omega) (by omega) kr ?_
      refine GH_p (fuel:=16) [(20,0)] (fun w h=>(h.erase 0)) kr rfl ?_
      refine GH_wi 88 ((4 * ((n : Nat) : Int))+2) (by omega) (by omega) kr ?_
      refine GH_take' 21 kr (fun w h=>(h.erase 0)) (GL_indexAddr (i:=21) (ch:=[]) (a:=aq) (len:=(64 * (m - q))) (cap:=cq) (kd:=.i64) (j:=(4 * ((n : Nat) : Int))+2) (e:=5) (sz:=1) (S:=(inG g)) (cs:=((u8s (padB l)).drop (64 * q))) rfl rfl kr kr kr kr kr kr kr hrq (fun _=>by exact ⟨by omega,by omega,drop_ne hP hlt⟩) (GL_yend kr rfl)) ?_
      refine GH_take' 22 kr (fun w h=>(h.erase 0)) (GL_loadS (i:=22) (ch:=[]) (a:=aq) (q:=(Int.toNat ((4 * ((n : Nat) : Int))+2)) * 1) (S:=(inG g)) (cs:=((u8s (padB l)).drop (64 * q))) (v:=.int .u8 (B (4 * n+2))) rfl rfl kr kr kr kr kr hrq (at_inG 2 rfl) (fun _=>(by rw [hB]; exact cell_at (padB l) hP hlt (j:=4 * n+2) (by omega) (by omega))) (GL_yend kr rfl)) ?_
      refine GH_p (fuel:=8) [(23,0),(24,0),(25,0),(26,0),(27,0),(28,0)] (fun w h=>(h.erase 0)) kr rfl ?_
      refine GH_wi 96 (4 * ((n : Nat) : Int)) (by omega) (by omega) kr ?_
      refine GH_p (fuel:=7) [(29,0)] (fun w h=>(h.erase 0)) kr rfl ?_
      refine GH_wi 97 ((4 * ((n : Nat) : Int))+3) (by omega) (by omega) kr ?_
      refine GH_take' 30 kr (fun w h=>(h.erase 0)) (GL_indexAddr (i:=30) (ch:=[]) (a:=aq) (len:=(64 * (m - q))) (cap:=cq) (kd:=.i64) (j:=(4 * ((n : Nat) : Int))+3) (e:=5) (sz:=1) (S:=(inG g)) (cs:=((u8s (padB l)).drop (64 * q))) rfl rfl kr kr kr kr kr kr kr hrq (fun _=>by exact ⟨by omega,by omega,drop_ne hP hlt⟩) (GL_yend kr rfl)) ?_
      refine GH_take' 31 kr (fun w h=>(h.erase 0)) (GL_loadS (i:=31) (ch:=[]) (a:=aq) (q:=(Int.toNat ((4 * ((n : Nat) : Int))+3)) * 1) (S:=(inG g)) (cs:=((u8s (padB l)).drop (64 * q))) (v:=.int .u8 (B (4 * n+3))) rfl rfl kr kr kr kr kr hrq (at_inG 2 rfl) (fun _=>(by rw [hB]; exact cell_at (padB l) hP hlt (j:=4 * n+3) (by omega) (by omega))) (GL_yend kr rfl)) ?_
      refine GH_p (fuel:=3) [(32,0),(33,0)] (fun w h=>(h.erase 0)) kr rfl ?_
      refine GH_eff 34 kr kr kr ?_
      refine GL_buildSlice (i:=34) (ch:=[]) (e:=144) (l:=[(0,.int .u32 (IntKind.wrap .u32 ((IntKind.wrap .u32 ((IntKind.wrap .u32 ((IntKind.wrap .u32 ((IntKind.wrap .u32 (B (4 * n))) * 16777216))+(IntKind.wrap .u32 ((IntKind.wrap .u32 (B (4 * n+1))) * 65536))))+(IntKind.wrap .u32 ((IntKind.wrap .u32 (B (4 * n+2))) * 256))))+(IntKind.wrap .u32 (B (4 * n+3))))))]) (c:=[.int .u32 (IntKind.wrap .u32 ((IntKind.wrap .u32 ((IntKind.wrap .u32 ((IntKind.wrap .u32 ((IntKind.wrap .u32 (B (4 * n))) * 16777216))+(IntKind.wrap .u32 ((IntKind.wrap .u32 (B (4 * n+1))) * 65536))))+(IntKind.wrap .u32 ((IntKind.wrap .u32 (B (4 * n+2))) * 256))))+(IntKind.wrap .u32 (B (4 * n+3)))))]) rfl rfl kr kr kr kr kr (fun b57=>?_)
      refine GH_back kr (fun w h=>((h.erase 1).erase 0)) ?_
      refine GH_more ([(b57,.cells #[.int .u32 (IntKind.wrap .u32 ((IntKind.wrap .u32 ((IntKind.wrap .u32 ((IntKind.wrap .u32 ((IntKind.wrap .u32 (B (4 * n))) * 16777216))+(IntKind.wrap .u32 ((IntKind.wrap .u32 (B (4 * n+1))) * 65536))))+(IntKind.wrap .u32 ((IntKind.wrap .u32 (B (4 * n+2))) * 256))))+(IntKind.wrap .u32 (B (4 * n+3)))))] 144 (0,0))]::g5::gk44::g::H) (fun w h=>(h.erase 0)) ?_
      refine GH_eff 35 kr kr kr ?_
      refine GL_append (i:=35) (ch:=[]) (t:=141) (tx:=141) (e:=144) (inf:=Tryz.t144) (s:=.slice aw n cw) (x:=.slice (some ⟨b57,0,none⟩) 1 1) (n:=n) (m:=1) (j:=1) (cs:=(u32s (wsch B n))) (news:=[.int .u32 (IntKind.wrap .u32 ((IntKind.wrap .u32 ((IntKind.wrap .u32 ((IntKind.wrap .u32 ((IntKind.wrap .u32 (B (4 * n))) * 16777216))+(IntKind.wrap .u32 ((IntKind.wrap .u32 (B (4 * n+1))) * 65536))))+(IntKind.wrap .u32 ((IntKind.wrap .u32 (B (4 * n+2))) * 256))))+(IntKind.wrap .u32 (B (4 * n+3)))))]) (g:=gw) (S:=(inG [(b57,.cells #[.int .u32 (IntKind.wrap .u32 ((IntKind.wrap .u32 ((IntKind.wrap .u32 ((IntKind.wrap .u32 ((IntKind.wrap .u32 (B (4 * n))) * 16777216))+(IntKind.wrap .u32 ((IntKind.wrap .u32 (B (4 * n+1))) * 65536))))+(IntKind.wrap .u32 ((IntKind.wrap .u32 (B (4 * n+2))) * 256))))+(IntKind.wrap .u32 (B (4 * n+3)))))] 144 (0,0))])) rfl rfl rfl rfl kr kr kr rfl rfl (.inl ⟨144,kr⟩) (fun ⟨_,h⟩=>by cases h) (fun _=>⟨144,kr⟩) kr kr kr rfl how (SrcOf.slice _ _ _ _ Rd.lit (fun h=>by cases h)) (at_inG 0 rfl) rfl u32_one (by omega) (by show (n+1) * 4 ≤ 140737488355328; omega) (fun v58 g59 hO60=>?_)
      obtain ⟨a61, cap62, rfl, hcap63, hrd64⟩ := hO60.shape
      refine GH_back kr (fun w h=>(h.erase 1)) ?_
      refine GH_p (fuel:=0) [(36,0)] (fun w h=>(h.erase 1)) kr rfl ?_
      refine GH_done (E':=[⟨0,[],.slice aq (64 * (m - q)) cq⟩,⟨5,[],.slice a5 8 c5⟩,⟨6,[],.slice ak42 64 ck43⟩,⟨7,[],.slice a61 (n+1) cap62⟩,⟨8,[],.int .i64 ((n : Nat) : Int)⟩]) [0,5,6,7,8] kr kr ?_
      refine N_then ?_
      refine G_exit ?_
      refine N_then_exit ?_
      refine N_block_exit ?_
      refine N_then ?_
      refine G_region ?_
      refine GL_p [0,0] kr (j:=2) rfl ?_
      refine GL_wi 65 (((n : Nat) : Int)+1) (by omega) (by omega) kr ?_
      refine GL_fin (E':=[⟨0,[],.slice aq (64 * (m - q)) cq⟩,⟨5,[],.slice a5 8 c5⟩,⟨6,[],.slice ak42 64 ck43⟩,⟨7,[],.slice a61 (n+1) cap62⟩,⟨8,[],.int .i64 (((n : Nat) : Int)+1)⟩]) [0] [0,5,6,7,8] rfl kr ?_
      refine N_heap (H':=(g59::g5::gk44::g::H)) (fun w h=>(h.erase 0)) ?_
      refine N_round (s':=(n+1,a61,cap62,g59)) [0,5,6,7,8] kr rfl ⟨(by dsimp only; omega),(own_cs hO60 (by subst hB; exact w_lo _ _ hlo rfl))⟩ (by dsimp only; omega)
     ·
      have hhi : ¬ n < 16 := by (have h9 := of_decide_eq_false hc49; omega)
      refine G_skip ?_
      refine N_then ?_
      refine G_seq ?_
      refine G_regionD kr kr ?_
      refine GL_p [0,0,0] kr (j:=3) rfl ?_
      refine GL_wi 106 (((n : Nat) : Int) - 15) (by omega) (by omega) kr ?_
      refine GL_indexAddr (i:=3) (ch:=[]) (a:=aw) (len:=n) (cap:=cw) (kd:=.i64) (j:=((n : Nat) : Int) - 15) (e:=144) (sz:=1) (S:=(inG gw)) (cs:=(u32s (wsch B n))) rfl rfl kr kr kr kr kr kr kr (own_rd how) (fun _=>by exact ⟨by omega,by omega,u32s_ne (k:=0) (by rw [wsch_len]; omega)⟩) ?_
      refine GL_loadS (i:=4) (ch:=[]) (a:=aw) (q:=(Int.toNat (((n : Nat) : Int) - 15)) * 1) (S:=(inG gw)) (cs:=(u32s (wsch B n))) (v:=.int .u32 ((wsch B n).getD (n - 15) 0)) rfl rfl kr kr kr kr kr (own_rd how) (at_inG 0 rfl) (fun _=>(u32s_at (by omega) (by rw [wsch_len]; omega))) ?_
      refine GL_callQ (i:=5) (ch:=[]) (f:=101) (fst:=#[]) (caps:=#[]) (vs:=[.int .u32 ((wsch B n).getD (n - 15) 0),.int .u64 7]) (v:=.int .u32 (rotr ((wsch B n).getD (n - 15) 0) 7)) rfl rfl rfl kr kr Tryz.func101 rfl rfl kr kr kr (fun _=>turn7 ((wsch B n).getD (n - 15) 0) _ _) ?_
      refine GL_p [0,0,0] kr (j:=9) rfl ?_
      refine GL_wi 112 (((n : Nat) : Int) - 15) (by omega) (by omega) kr ?_
      refine GL_indexAddr (i:=9) (ch:=[]) (a:=aw) (len:=n) (cap:=cw) (kd:=.i64) (j:=((n : Nat) : Int) - 15) (e:=144) (sz:=1) (S:=(inG gw)) (cs:=(u32s (wsch B n))) rfl rfl kr kr kr kr kr kr kr (own_rd how) (fun _=>by exact ⟨by omega,by omega,u32s_ne (k:=0) (by rw [wsch_len]; omega)⟩) ?_
      refine GL_loadS (i:=10) (ch:=[]) (a:=aw) (q:=(Int.toNat (((n : Nat) : Int) - 15)) * 1) (S:=(inG gw)) (cs:=(u32s (wsch B n))) (v:=.int .u32 ((wsch B n).getD (n - 15) 0)) rfl rfl kr kr kr kr kr (own_rd how) (at_inG 0 rfl) (fun _=>(u32s_at (by omega) (by rw [wsch_len]; omega))) ?_
      refine GL_callQ (i:=11) (ch:=[]) (f:=101) (fst:=#[]) (caps:=#[]) (vs:=[.int .u32 ((wsch B n).getD (n - 15) 0),.int .u64 18]) (v:=.int .u32 (rotr ((wsch B n).getD (n - 15) 0) 18)) rfl rfl rfl kr kr Tryz.func101 rfl rfl kr kr kr (fun _=>turn18 ((wsch B n).getD (n - 15) 0) _ _) ?_
      refine GL_p [0,0,0,0] kr (j:=16) rfl ?_
      refine GL_wi 119 (((n : Nat) : Int) - 15) (by omega) (by omega) kr ?_
      refine GL_indexAddr (i:=16) (ch:=[]) (a:=aw) (len:=n) (cap:=cw) (kd:=.i64) (j:=((n : Nat) : Int) - 15) (e:=144) (sz:=1) (S:=(inG gw)) (cs:=(u32s (wsch B n))) rfl rfl kr kr kr kr kr kr kr (own_rd how) (fun _=>by exact ⟨by omega,by omega,u32s_ne (k:=0) (by rw [wsch_len]; omega)⟩) ?_
      refine GL_loadS (i:=17) (ch:=[]) (a:=aw) (q:=(Int.toNat (((n : Nat) : Int) - 15)) * 1) (S:=(inG gw)) (cs:=(u32s (wsch B n))) (v:=.int .u32 ((wsch B n).getD (n - 15) 0)) rfl rfl kr kr kr kr kr (own_rd how) (at_inG 0 rfl) (fun _=>(u32s_at (by omega) (by rw [wsch_len]; omega))) ?_
      refine GL_fin (E':=[⟨0,[],.slice aq (64 * (m - q)) cq⟩,⟨5,[],.slice a5 8 c5⟩,⟨6,[],.slice ak42 64 ck43⟩,⟨7,[],.slice aw n cw⟩,⟨8,[],.int .i64 ((n : Nat) : Int)⟩,⟨9,[],.int .u32 (IntKind.wrap .u32 ((BitVec.ofInt (IntKind.bits .u32) (IntKind.wrap .u32 ((BitVec.ofInt (IntKind.bits .u32) (rotr ((wsch B n).getD (n - 15) 0) 7) ^^^ BitVec.ofInt (IntKind.bits .u32) (rotr ((wsch B n).getD (n - 15) 0) 18)).toNat)) ^^^ BitVec.ofInt (IntKind.bits .u32) (Int.fdiv ((wsch B n).getD (n - 15) 0) (2 ^ 3))).toNat))⟩]) [0,0,0] [0,5,6,7,8,9] rfl kr ?_
      refine N_env (E':=[⟨0,[],.slice aq (64 * (m - q)) cq⟩,⟨5,[],.slice a5 8 c5⟩,⟨6,[],.slice ak42 64 ck43⟩,⟨7,[],.slice aw n cw⟩,⟨8,[],.int .i64 ((n : Nat) : Int)⟩,⟨9,[],.int .u32 (sg0 ((wsch B n).getD (n - 15) 0))⟩]) kr ?_
      refine N_then ?_
      refine G_seq ?_
      refine G_regionD kr kr ?_
      refine GL_p [0,0,0] kr (j:=3) rfl ?_
      refine GL_wi 126 (((n : Nat) : Int) - 2) (by omega) (by omega) kr ?_
      refine GL_indexAddr (i:=3) (ch:=[]) (a:=aw) (len:=n) (cap:=cw) (kd:=.i64) (j:=((n : Nat) : Int) - 2) (e:=144) (sz:=1) (S:=(inG gw)) (cs:=(u32s (wsch B n))) rfl rfl kr kr kr kr kr kr kr (own_rd how) (fun _=>by exact ⟨by omega,by omega,u32s_ne (k:=0) (by rw [wsch_len]; omega)⟩) ?_
      refine GL_loadS (i:=4) (ch:=[]) (a:=aw) (q:=(Int.toNat (((n : Nat) : Int) - 2)) * 1) (S:=(inG gw)) (cs:=(u32s (wsch B n))) (v:=.int .u32 ((wsch B n).getD (n - 2) 0)) rfl rfl kr kr kr kr kr (own_rd how) (at_inG 0 rfl) (fun _=>(u32s_at (by omega) (by rw [wsch_len]; omega))) ?_
      refine GL_callQ (i:=5) (ch:=[]) (f:=101) (fst:=#[]) (caps:=#[]) (vs:=[.int .u32 ((wsch B n).getD (n - 2) 0),.int .u64 17]) (v:=.int .u32 (rotr ((wsch B n).getD (n - 2) 0) 17)) rfl rfl rfl kr kr Tryz.func101 rfl rfl kr kr kr (fun _=>turn17 ((wsch B n).getD (n - 2) 0) _ _) ?_
      refine GL_p [0,0,0] kr (j:=9) rfl ?_
      refine GL_wi 132 (((n : Nat) : Int) - 2) (by omega) (by omega) kr ?_
      refine GL_indexAddr (i:=9) (ch:=[]) (a:=aw) (len:=n) (cap:=cw) (kd:=.i64) (j:=((n : Nat) : Int) - 2) (e:=144) (sz:=1) (S:=(inG gw)) (cs:=(u32s (wsch B n))) rfl rfl kr kr kr kr kr kr kr (own_rd how) (fun _=>by exact ⟨by omega,by omega,u32s_ne (k:=0) (by rw [wsch_len]; omega)⟩) ?_
      refine GL_loadS (i:=10) (ch:=[]) (a:=aw) (q:=(Int.toNat (((n : Nat) : Int) - 2)) * 1) (S:=(inG gw)) (cs:=(u32s (wsch B n))) (v:=.int .u32 ((wsch B n).getD (n - 2) 0)) rfl rfl kr kr kr kr kr (own_rd how) (at_inG 0 rfl) (fun _=>(u32s_at (by omega) (by rw [wsch_len]; omega))) ?_
      refine GL_callQ (i:=11) (ch:=[]) (f:=101) (fst:=#[]) (caps:=#[]) (vs:=[.int .u32 ((wsch B n).getD (n - 2) 0),.int .u64 19]) (v:=.int .u32 (rotr ((wsch B n).getD (n - 2) 0) 19)) rfl rfl rfl kr kr Tryz.func101 rfl rfl kr kr kr (fun _=>turn19 ((wsch B n).getD (n - 2) 0) _ _) ?_
      refine GL_p [0,0,0,0] kr (j:=16) rfl ?_
      refine GL_wi 139 (((n : Nat) : Int) - 2) (by omega) (by omega) kr ?_
      refine GL_indexAddr (i:=16) (ch:=[]) (a:=aw) (len:=n) (cap:=cw) (kd:=.i64) (j:=((n : Nat) : Int) - 2) (e:=144) (sz:=1) (S:=(inG gw)) (cs:=(u32s (wsch B n))) rfl rfl kr kr kr kr kr kr kr (own_rd how) (fun _=>by exact ⟨by omega,by omega,u32s_ne (k:=0) (by rw [wsch_len]; omega)⟩) ?_
      refine GL_loadS (i:=17) (ch:=[]) (a:=aw) (q:=(Int.toNat (((n : Nat) : Int) - 2)) * 1) (S:=(inG gw)) (cs:=(u32s (wsch B n))) (v:=.int .u32 ((wsch B n).getD (n - 2) 0)) rfl rfl kr kr kr kr kr (own_rd how) (at_inG 0 rfl) (fun _=>(u32s_at (by omega) (by rw [wsch_len]; omega))) ?_
      refine GL_fin (E':=[⟨0,[],.slice aq (64 * (m - q)) cq⟩,⟨5,[],.slice a5 8 c5⟩,⟨6,[],.slice ak42 64 ck43⟩,⟨7,[],.slice aw n cw⟩,⟨8,[],.int .i64 ((n : Nat) : Int)⟩,⟨9,[],.int .u32 (sg0 ((wsch B n).getD (n - 15) 0))⟩,⟨10,[],.int .u32 (IntKind.wrap .u32 ((BitVec.ofInt (IntKind.bits .u32) (IntKind.wrap .u32 ((BitVec.ofInt (IntKind.bits .u32) (rotr ((wsch B n).getD (n - 2) 0) 17) ^^^ BitVec.ofInt (IntKind.bits .u32) (rotr ((wsch B n).getD (n - 2) 0) 19)).toNat)) ^^^ BitVec.ofInt (IntKind.bits .u32) (Int.fdiv ((wsch B n).getD (n - 2) 0) (2 ^ 10))).toNat))⟩]) [0,0,0] [0,5,6,7,8,9,10] rfl kr ?_
      refine N_env (E':=[⟨0,[],.slice aq (64 * (m - q)) cq⟩,⟨5,[],.slice a5 8 c5⟩,⟨6,[],.slice ak42 64 ck43⟩,⟨7,[],.slice aw n cw⟩,⟨8,[],.int .i64 ((n : Nat) : Int)⟩,⟨9,[],.int .u32 (sg0 ((wsch B n).getD (n - 15) 0))⟩,⟨10,[],.int .u32 (sg1 ((wsch B n).getD (n - 2) 0))⟩]) kr ?_
      refine N_then ?_
      refine G_regionH (g5::gk44::g::H) kr ?_
      refine GH_p (fuel:=15) [(0,0),(1,0),(2,0),(3,0)] (fun w h=>(h.erase 0)) kr rfl ?_
      refine GH_wi 147 (((n : Nat) : Int) - 16) (by omega) (by omega) kr ?_
      refine GH_take' 4 kr (fun w h=>(h.erase 0)) (GL_indexAddr (i:=4) (ch:=[]) (a:=aw) (len:=n) (cap:=cw) (kd:=.i64) (j:=((n : Nat) : Int) - 16) (e:=144) (sz:=1) (S:=(inG gw)) (cs:=(u32s (wsch B n))) rfl rfl kr kr kr kr kr kr kr (own_rd how) (fun _=>by exact ⟨by omega,by omega,u32s_ne (k:=0) (by rw [wsch_len]; omega)⟩) (GL_yend kr rfl)) ?_
      refine GH_p (fuel:=10) [(6,0),(8,0),(9,0),(10,0)] (fun w h=>(h.erase 0)) kr rfl ?_
      refine GH_wi 154 (((n : Nat) : Int) - 7) (by omega) (by omega) kr ?_
      refine GH_take' 11 kr (fun w h=>(h.erase 0)) (GL_indexAddr (i:=11) (ch:=[]) (a:=aw) (len:=n) (cap:=cw) (kd:=.i64) (j:=((n : Nat) : Int) - 7) (e:=144) (sz:=1) (S:=(inG gw)) (cs:=(u32s (wsch B n))) rfl rfl kr kr kr kr kr kr kr (own_rd how) (fun _=>by exact ⟨by omega,by omega,u32s_ne (k:=0) (by rw [wsch_len]; omega)⟩) (GL_yend kr rfl)) ?_
      refine GH_p (fuel:=8) [(14,0)] (fun w h=>(h.erase 0)) kr rfl ?_
      refine GH_eff2 5 12 kr kr kr kr kr ?_ ?_
      ·
       refine GL_loadS (i:=5) (ch:=[]) (a:=aw) (q:=(Int.toNat (((n : Nat) : Int) - 16)) * 1) (S:=(inG gw)) (cs:=(u32s (wsch B n))) (v:=.int .u32 ((wsch B n).getD (n - 16) 0)) rfl rfl kr kr kr kr kr (own_rd how) (at_inG 0 rfl) (fun _=>(u32s_at (by omega) (by rw [wsch_len]; omega))) ?_
       refine GH_back kr (fun w h=>(h.erase 0)) ?_
       refine GH_p (fuel:=6) [(7,0)] (fun w h=>(h.erase 0)) kr rfl ?_
       refine GH_eff 12 kr kr kr ?_
       refine GL_loadS (i:=12) (ch:=[]) (a:=aw) (q:=(Int.toNat (((n : Nat) : Int) - 7)) * 1) (S:=(inG gw)) (cs:=(u32s (wsch B n))) (v:=.int .u32 ((wsch B n).getD (n - 7) 0)) rfl rfl kr kr kr kr kr (own_rd how) (at_inG 0 rfl) (fun _=>(u32s_at (by omega) (by rw [wsch_len]; omega))) ?_
       refine GH_back kr (fun w h=>(h.erase 0)) ?_
       refine GH_p (fuel:=3) [(13,0),(15,0)] (fun w h=>(h.erase 0)) kr rfl ?_
       refine GH_eff 16 kr kr kr ?_
       refine GL_buildSlice (i:=16) (ch:=[]) (e:=144) (l:=[(0,.int .u32 (IntKind.wrap .u32 ((IntKind.wrap .u32 ((IntKind.wrap .u32 (((wsch B n).getD (n - 16) 0)+(sg0 ((wsch B n).getD (n - 15) 0))))+((wsch B n).getD (n - 7) 0)))+(sg1 ((wsch B n).getD (n - 2) 0)))))]) (c:=[.int .u32 (IntKind.wrap .u32 ((IntKind.wrap .u32 ((IntKind.wrap .u32 (((wsch B n).getD (n - 16) 0)+(sg0 ((wsch B n).getD (n - 15) 0))))+((wsch B n).getD (n - 7) 0)))+(sg1 ((wsch B n).getD (n - 2) 0))))]) rfl rfl kr kr kr kr kr (fun b74=>?_)
       refine GH_back kr (fun w h=>((h.erase 1).erase 0)) ?_
       refine GH_more ([(b74,.cells #[.int .u32 (IntKind.wrap .u32 ((IntKind.wrap .u32 ((IntKind.wrap .u32 (((wsch B n).getD (n - 16) 0)+(sg0 ((wsch B n).getD (n - 15) 0))))+((wsch B n).getD (n - 7) 0)))+(sg1 ((wsch B n).getD (n - 2) 0))))] 144 (0,0))]::g5::gk44::g::H) (fun w h=>(h.erase 0)) ?_
       refine GH_eff 17 kr kr kr ?_
       refine GL_append (i:=17) (ch:=[]) (t:=141) (tx:=141) (e:=144) (inf:=Tryz.t144) (s:=.slice aw n cw) (x:=.slice (some ⟨b74,0,none⟩) 1 1) (n:=n) (m:=1) (j:=1) (cs:=(u32s (wsch B n))) (news:=[.int .u32 (IntKind.wrap .u32 ((IntKind.wrap .u32 ((IntKind.wrap .u32 (((wsch B n).getD (n - 16) 0)+(sg0 ((wsch B n).getD (n - 15) 0))))+((wsch B n).getD (n - 7) 0)))+(sg1 ((wsch B n).getD (n - 2) 0))))]) (g:=gw) (S:=(inG [(b74,.cells #[.int .u32 (IntKind.wrap .u32 ((IntKind.wrap .u32 ((IntKind.wrap .u32 (((wsch B n).getD (n - 16) 0)+(sg0 ((wsch B n).getD (n - 15) 0))))+((wsch B n).getD (n - 7) 0)))+(sg1 ((wsch B n).getD (n - 2) 0))))] 144 (0,0))])) rfl rfl rfl rfl kr kr kr rfl rfl (.inl ⟨144,kr⟩) (fun ⟨_,h⟩=>by cases h) (fun _=>⟨144,kr⟩) kr kr kr rfl how (SrcOf.slice _ _ _ _ Rd.lit (fun h=>by cases h)) (at_inG 0 rfl) rfl u32_one (by omega) (by show (n+1) * 4 ≤ 140737488355328; omega) (fun v75 g76 hO77=>?_)
       obtain ⟨a78, cap79, rfl, hcap80, hrd81⟩ := hO77.shape
       refine GH_back kr (fun w h=>(h.erase 1)) ?_
       refine GH_p (fuel:=0) [(18,0)] (fun w h=>(h.erase 1)) kr rfl ?_
       refine GH_done (E':=[⟨0,[],.slice aq (64 * (m - q)) cq⟩,⟨5,[],.slice a5 8 c5⟩,⟨6,[],.slice ak42 64 ck43⟩,⟨7,[],.slice a78 (n+1) cap79⟩,⟨8,[],.int .i64 ((n : Nat) : Int)⟩]) [0,5,6,7,8] kr kr ?_
       refine N_block ?_
       refine N_then ?_
       refine G_region ?_
       refine GL_p [0,0] kr (j:=2) rfl ?_
       refine GL_wi 65 (((n : Nat) : Int)+1) (by omega) (by omega) kr ?_
       refine GL_fin (E':=[⟨0,[],.slice aq (64 * (m - q)) cq⟩,⟨5,[],.slice a5 8 c5⟩,⟨6,[],.slice ak42 64 ck43⟩,⟨7,[],.slice a78 (n+1) cap79⟩,⟨8,[],.int .i64 (((n : Nat) : Int)+1)⟩]) [0] [0,5,6,7,8] rfl kr ?_
       refine N_heap (H':=(g76::g5::gk44::g::H)) (fun w h=>(h.erase 0)) ?_
       refine N_round (s':=(n+1,a78,cap79,g76)) [0,5,6,7,8] kr rfl ⟨(by dsimp only; omega),(own_cs hO77 (w_hi _ hhi rfl))⟩ (by dsimp only; omega)
      ·
       refine GL_loadS (i:=12) (ch:=[]) (a:=aw) (q:=(Int.toNat (((n : Nat) : Int) - 7)) * 1) (S:=(inG gw)) (cs:=(u32s (wsch B n))) (v:=.int .u32 ((wsch B n).getD (n - 7) 0)) rfl rfl kr kr kr kr kr (own_rd how) (at_inG 0 rfl) (fun _=>(u32s_at (by omega) (by rw [wsch_len]; omega))) ?_
       refine GH_back kr (fun w h=>(h.erase 0)) ?_
       refine GH_eff 5 kr kr kr ?_
       refine GL_loadS (i:=5) (ch:=[]) (a:=aw) (q:=(Int.toNat (((n : Nat) : Int) - 16)) * 1) (S:=(inG gw)) (cs:=(u32s (wsch B n))) (v:=.int .u32 ((wsch B n).getD (n - 16) 0)) rfl rfl kr kr kr kr kr (own_rd how) (at_inG 0 rfl) (fun _=>(u32s_at (by omega) (by rw [wsch_len]; omega))) ?_
       refine GH_back kr (fun w h=>(h.erase 0)) ?_
       refine GH_p (fuel:=3) [(7,0),(13,0),(15,0)] (fun w h=>(h.erase 0)) kr rfl ?_
       refine GH_eff 16 kr kr kr ?_
       refine GL_buildSlice (i:=16) (ch:=[]) (e:=144) (l:=[(0,.int .u32 (IntKind.wrap .u32 ((IntKind.wrap .u32 ((IntKind.wrap .u32 (((wsch B n).getD (n - 16) 0)+(sg0 ((wsch B n).getD (n - 15) 0))))+((wsch B n).getD (n - 7) 0)))+(sg1 ((wsch B n).getD (n - 2) 0)))))]) (c:=[.int .u32 (IntKind.wrap .u32 ((IntKind.wrap .u32 ((IntKind.wrap .u32 (((wsch B n).getD (n - 16) 0)+(sg0 ((wsch B n).getD (n - 15) 0))))+((wsch B n).getD (n - 7) 0)))+(sg1 ((wsch B n).getD (n - 2) 0))))]) rfl rfl kr kr kr kr kr (fun b83=>?_)
       refine GH_back kr (fun w h=>((h.erase 1).erase 0)) ?_
       refine GH_more ([(b83,.cells #[.int .u32 (IntKind.wrap .u32 ((IntKind.wrap .u32 ((IntKind.wrap .u32 (((wsch B n).getD (n - 16) 0)+(sg0 ((wsch B n).getD (n - 15) 0))))+((wsch B n).getD (n - 7) 0)))+(sg1 ((wsch B n).getD (n - 2) 0))))] 144 (0,0))]::g5::gk44::g::H) (fun w h=>(h.erase 0)) ?_
       refine GH_eff 17 kr kr kr ?_
       refine GL_append (i:=17) (ch:=[]) (t:=141) (tx:=141) (e:=144) (inf:=Tryz.t144) (s:=.slice aw n cw) (x:=.slice (some ⟨b83,0,none⟩) 1 1) (n:=n) (m:=1) (j:=1) (cs:=(u32s (wsch B n))) (news:=[.int .u32 (IntKind.wrap .u32 ((IntKind.wrap .u32 ((IntKind.wrap .u32 (((wsch B n).getD (n - 16) 0)+(sg0 ((wsch B n).getD (n - 15) 0))))+((wsch B n).getD (n - 7) 0)))+(sg1 ((wsch B n).getD (n - 2) 0))))]) (g:=gw) (S:=(inG [(b83,.cells #[.int .u32 (IntKind.wrap .u32 ((IntKind.wrap .u32 ((IntKind.wrap .u32 (((wsch B n).getD (n - 16) 0)+(sg0 ((wsch B n).getD (n - 15) 0))))+((wsch B n).getD (n - 7) 0)))+(sg1 ((wsch B n).getD (n - 2) 0))))] 144 (0,0))])) rfl rfl rfl rfl kr kr kr rfl rfl (.inl ⟨144,kr⟩) (fun ⟨_,h⟩=>by cases h) (fun _=>⟨144,kr⟩) kr kr kr rfl how (SrcOf.slice _ _ _ _ Rd.lit (fun h=>by cases h)) (at_inG 0 rfl) rfl u32_one (by omega) (by show (n+1) * 4 ≤ 140737488355328; omega) (fun v84 g85 hO86=>?_)
       obtain ⟨a87, cap88, rfl, hcap89, hrd90⟩ := hO86.shape
       refine GH_back kr (fun w h=>(h.erase 1)) ?_
       refine GH_p (fuel:=0) [(18,0)] (fun w h=>(h.erase 1)) kr rfl ?_
       refine GH_done (E':=[⟨0,[],.slice aq (64 * (m - q)) cq⟩,⟨5,[],.slice a5 8 c5⟩,⟨6,[],.slice ak42 64 ck43⟩,⟨7,[],.slice a87 (n+1) cap88⟩,⟨8,[],.int .i64 ((n : Nat) : Int)⟩]) [0,5,6,7,8] kr kr ?_
       refine N_block ?_
       refine N_then ?_
       refine G_region ?_
       refine GL_p [0,0] kr (j:=2) rfl ?_
       refine GL_wi 65 (((n : Nat) : Int)+1) (by omega) (by omega) kr ?_
       refine GL_fin (E':=[⟨0,[],.slice aq (64 * (m - q)) cq⟩,⟨5,[],.slice a5 8 c5⟩,⟨6,[],.slice ak42 64 ck43⟩,⟨7,[],.slice a87 (n+1) cap88⟩,⟨8,[],.int .i64 (((n : Nat) : Int)+1)⟩]) [0] [0,5,6,7,8] rfl kr ?_
       refine N_heap (H':=(g85::g5::gk44::g::H)) (fun w h=>(h.erase 0)) ?_
       refine N_round (s':=(n+1,a87,cap88,g85)) [0,5,6,7,8] kr rfl ⟨(by dsimp only; omega),(own_cs hO86 (w_hi _ hhi rfl))⟩ (by dsimp only; omega)
    ·
     have hn9 : n = 64 := by (have h9 := of_decide_eq_false hc48; omega)
     refine G_exit ?_
     refine N_then_exit ?_
     refine N_then_exit ?_
     refine N_block_exit ?_
     refine N_then ?_
     refine G_seq ?_
     refine G_regionD kr kr ?_
     refine GL_p [0] kr (j:=1) rfl ?_
     refine GL_indexAddr (i:=1) (ch:=[]) (a:=a5) (len:=8) (cap:=c5) (kd:=.i64) (j:=0) (e:=144) (sz:=1) (S:=(inG g5)) (cs:=(u32s (S8l fs))) rfl rfl kr kr kr kr kr kr kr (own_rd ho5) (fun _=>by exact ⟨by omega,by omega,List.cons_ne_nil _ _⟩) ?_
     refine GL_loadS (i:=2) (ch:=[]) (a:=a5) (q:=0 * 1) (S:=(inG g5)) (cs:=(u32s (S8l fs))) (v:=.int .u32 fs.a) rfl rfl kr kr kr kr kr (own_rd ho5) (at_inG 1 rfl) (fun _=>rfl) ?_
     refine GL_p [0] kr (j:=4) rfl ?_
     refine GL_indexAddr (i:=4) (ch:=[]) (a:=a5) (len:=8) (cap:=c5) (kd:=.i64) (j:=1) (e:=144) (sz:=1) (S:=(inG g5)) (cs:=(u32s (S8l fs))) rfl rfl kr kr kr kr kr kr kr (own_rd ho5) (fun _=>by exact ⟨by omega,by omega,List.cons_ne_nil _ _⟩) ?_
     refine GL_loadS (i:=5) (ch:=[]) (a:=a5) (q:=1 * 1) (S:=(inG g5)) (cs:=(u32s (S8l fs))) (v:=.int .u32 fs.b) rfl rfl kr kr kr kr kr (own_rd ho5) (at_inG 1 rfl) (fun _=>rfl) ?_
     refine GL_p [0] kr (j:=7) rfl ?_
     refine GL_indexAddr (i:=7) (ch:=[]) (a:=a5) (len:=8) (cap:=c5) (kd:=.i64) (j:=2) (e:=144) (sz:=1) (S:=(inG g5)) (cs:=(u32s (S8l fs))) rfl rfl kr kr kr kr kr kr kr (own_rd ho5) (fun _=>by exact ⟨by omega,by omega,List.cons_ne_nil _ _⟩) ?_
     refine GL_loadS (i:=8) (ch:=[]) (a:=a5) (q:=2 * 1) (S:=(inG g5)) (cs:=(u32s (S8l fs))) (v:=.int .u32 fs.c) rfl rfl kr kr kr kr kr (own_rd ho5) (at_inG 1 rfl) (fun _=>rfl) ?_
     refine GL_p [0] kr (j:=10) rfl ?_
     refine GL_indexAddr (i:=10) (ch:=[]) (a:=a5) (len:=8) (cap:=c5) (kd:=.i64) (j:=3) (e:=144) (sz:=1) (S:=(inG g5)) (cs:=(u32s (S8l fs))) rfl rfl kr kr kr kr kr kr kr (own_rd ho5) (fun _=>by exact ⟨by omega,by omega,List.cons_ne_nil _ _⟩) ?_
     refine GL_loadS (i:=11) (ch:=[]) (a:=a5) (q:=3 * 1) (S:=(inG g5)) (cs:=(u32s (S8l fs))) (v:=.int .u32 fs.d) rfl rfl kr kr kr kr kr (own_rd ho5) (at_inG 1 rfl) (fun _=>rfl) ?_
     refine GL_p [0] kr (j:=13) rfl ?_
     refine GL_indexAddr (i:=13) (ch:=[]) (a:=a5) (len:=8) (cap:=c5) (kd:=.i64) (j:=4) (e:=144) (sz:=1) (S:=(inG g5)) (cs:=(u32s (S8l fs))) rfl rfl kr kr kr kr kr kr kr (own_rd ho5) (fun _=>by exact ⟨by omega,by omega,List.cons_ne_nil _ _⟩) ?_
     refine GL_loadS (i:=14) (ch:=[]) (a:=a5) (q:=4 * 1) (S:=(inG g5)) (cs:=(u32s (S8l fs))) (v:=.int .u32 fs.e) rfl rfl kr kr kr kr kr (own_rd ho5) (at_inG 1 rfl) (fun _=>rfl) ?_
     refine GL_p [0] kr (j:=16) rfl ?_
     refine GL_indexAddr (i:=16) (ch:=[]) (a:=a5) (len:=8) (cap:=c5) (kd:=.i64) (j:=5) (e:=144) (sz:=1) (S:=(inG g5)) (cs:=(u32s (S8l fs))) rfl rfl kr kr kr kr kr kr kr (own_rd ho5) (fun _=>by exact ⟨by omega,by omega,List.cons_ne_nil _ _⟩) ?_
     refine GL_loadS (i:=17) (ch:=[]) (a:=a5) (q:=5 * 1) (S:=(inG g5)) (cs:=(u32s (S8l fs))) (v:=.int .u32 fs.f) rfl rfl kr kr kr kr kr (own_rd ho5) (at_inG 1 rfl) (fun _=>rfl) ?_
     refine GL_p [0] kr (j:=19) rfl ?_
     refine GL_indexAddr (i:=19) (ch:=[]) (a:=a5) (len:=8) (cap:=c5) (kd:=.i64) (j:=6) (e:=144) (sz:=1) (S:=(inG g5)) (cs:=(u32s (S8l fs))) rfl rfl kr kr kr kr kr kr kr (own_rd ho5) (fun _=>by exact ⟨by omega,by omega,List.cons_ne_nil _ _⟩) ?_
     refine GL_loadS (i:=20) (ch:=[]) (a:=a5) (q:=6 * 1) (S:=(inG g5)) (cs:=(u32s (S8l fs))) (v:=.int .u32 fs.g) rfl rfl kr kr kr kr kr (own_rd ho5) (at_inG 1 rfl) (fun _=>rfl) ?_
     refine GL_p [0] kr (j:=22) rfl ?_
     refine GL_indexAddr (i:=22) (ch:=[]) (a:=a5) (len:=8) (cap:=c5) (kd:=.i64) (j:=7) (e:=144) (sz:=1) (S:=(inG g5)) (cs:=(u32s (S8l fs))) rfl rfl kr kr kr kr kr kr kr (own_rd ho5) (fun _=>by exact ⟨by omega,by omega,List.cons_ne_nil _ _⟩) ?_
     refine GL_loadS (i:=23) (ch:=[]) (a:=a5) (q:=7 * 1) (S:=(inG g5)) (cs:=(u32s (S8l fs))) (v:=.int .u32 fs.h) rfl rfl kr kr kr kr kr (own_rd ho5) (at_inG 1 rfl) (fun _=>rfl) ?_
     refine GL_fin (E':=[⟨0,[],.slice aq (64 * (m - q)) cq⟩,⟨5,[],.slice a5 8 c5⟩,⟨6,[],.slice ak42 64 ck43⟩,⟨7,[],.slice aw n cw⟩,⟨11,[],.int .u32 fs.a⟩,⟨12,[],.int .u32 fs.b⟩,⟨13,[],.int .u32 fs.c⟩,⟨14,[],.int .u32 fs.d⟩,⟨15,[],.int .u32 fs.e⟩,⟨16,[],.int .u32 fs.f⟩,⟨17,[],.int .u32 fs.g⟩,⟨18,[],.int .u32 fs.h⟩]) [0,0,0,0,0,0,0,0] [0,5,6,7,11,12,13,14,15,16,17,18] rfl kr ?_
     refine N_then ?_
     refine G_seq ?_
     refine G_seq ?_
     refine G_pure (E':=[⟨0,[],.slice aq (64 * (m - q)) cq⟩,⟨5,[],.slice a5 8 c5⟩,⟨6,[],.slice ak42 64 ck43⟩,⟨7,[],.slice aw n cw⟩,⟨11,[],.int .u32 fs.a⟩,⟨12,[],.int .u32 fs.b⟩,⟨13,[],.int .u32 fs.c⟩,⟨14,[],.int .u32 fs.d⟩,⟨15,[],.int .u32 fs.e⟩,⟨16,[],.int .u32 fs.f⟩,⟨17,[],.int .u32 fs.g⟩,⟨18,[],.int .u32 fs.h⟩,⟨19,[],.int .i64 0⟩]) [0] [0,5,6,7,11,12,13,14,15,16,17,18,19] rfl kr ?_
     refine N_then ?_
     refine G_block ?_
     refine G_loop (EI:=(fun ξ : Nat × S8=>[⟨0,[],.slice aq (64 * (m - q)) cq⟩,⟨5,[],.slice a5 8 c5⟩,⟨6,[],.slice ak42 64 ck43⟩,⟨7,[],.slice aw n cw⟩,⟨11,[],.int .u32 ξ.2.a⟩,⟨12,[],.int .u32 ξ.2.b⟩,⟨13,[],.int .u32 ξ.2.c⟩,⟨14,[],.int .u32 ξ.2.d⟩,⟨15,[],.int .u32 ξ.2.e⟩,⟨16,[],.int .u32 ξ.2.f⟩,⟨17,[],.int .u32 ξ.2.g⟩,⟨18,[],.int .u32 ξ.2.h⟩,⟨19,[],.int .i64 ((ξ.1 : Nat) : Int)⟩])) (HI:=(fun ξ : Nat × S8=>(gw::g5::gk44::g::H))) (Φ:=(fun ξ : Nat × S8=>(ξ.1 ≤ 64)∧(ξ.2 = rnds kAt (wAt B) fs ξ.1))) (μ:=(fun ξ : Nat × S8=>64 - ξ.1)) (s0:=(0,fs)) [0,5,6,7,11,12,13,14,15,16,17,18,19] kr rfl ⟨(Nat.zero_le _),rfl⟩ ?_
     rintro ⟨i, sv⟩ ⟨hi, hsv⟩
     dsimp only at hi hsv
     have hUe : U sv.e := by (rw [hsv, hfs, hB]; exact U_e (padB l) q i)
     refine G_seq ?_
     refine G_seq ?_
     refine G_pure (E':=[⟨0,[],.slice aq (64 * (m - q)) cq⟩,⟨5,[],.slice a5 8 c5⟩,⟨6,[],.slice ak42 64 ck43⟩,⟨7,[],.slice aw n cw⟩,⟨11,[],.int .u32 sv.a⟩,⟨12,[],.int .u32 sv.b⟩,⟨13,[],.int .u32 sv.c⟩,⟨14,[],.int .u32 sv.d⟩,⟨15,[],.int .u32 sv.e⟩,⟨16,[],.int .u32 sv.f⟩,⟨17,[],.int .u32 sv.g⟩,⟨18,[],.int .u32 sv.h⟩,⟨19,[],.int .i64 ((i : Nat) : Int)⟩,⟨187,[],.bool (decide (((i : Nat) : Int) < 64))⟩]) [0,0] [0,5,6,7,11,12,13,14,15,16,17,18,19,187] rfl kr ?_
     refine N_then ?_
     refine G_cond (b:=decide (((i : Nat) : Int) < 64)) kr (fun hc92=>?_) (fun hc92=>?_)
     ·
      replace hc92 := of_decide_eq_true hc92
      refine G_skip ?_
      refine N_then ?_
      refine G_seq ?_
      refine G_block ?_
      refine G_seq ?_
      refine G_regionD kr kr ?_
      refine GL_p [0,0] kr (j:=2) rfl ?_
      refine GL_callQ (i:=2) (ch:=[]) (f:=101) (fst:=#[]) (caps:=#[]) (vs:=[.int .u32 sv.e,.int .u64 6]) (v:=.int .u32 (rotr sv.e 6)) rfl rfl rfl kr kr Tryz.func101 rfl rfl kr kr kr (fun _=>turn6 sv.e _ _) ?_
      refine GL_p [0] kr (j:=4) rfl ?_
      refine GL_callQ (i:=4) (ch:=[]) (f:=101) (fst:=#[]) (caps:=#[]) (vs:=[.int .u32 sv.e,.int .u64 11]) (v:=.int .u32 (rotr sv.e 11)) rfl rfl rfl kr kr Tryz.func101 rfl rfl kr kr kr (fun _=>turn11 sv.e _ _) ?_
      refine GL_p [0,0] kr (j:=7) rfl ?_
      refine GL_callQ (i:=7) (ch:=[]) (f:=101) (fst:=#[]) (caps:=#[]) (vs:=[.int .u32 sv.e,.int .u64 25]) (v:=.int .u32 (rotr sv.e 25)) rfl rfl rfl kr kr Tryz.func101 rfl rfl kr kr kr (fun _=>turn25 sv.e _ _) ?_
      refine GL_p [0,0,0,0,0,0,0,0,0,0,0,0,0] kr (j:=21) rfl ?_
      refine GL_indexAddr (i:=21) (ch:=[]) (a:=ak42) (len:=64) (cap:=ck43) (kd:=.i64) (j:=((i : Nat) : Int)) (e:=144) (sz:=1) (S:=(inG gk44)) (cs:=(u32s kTab)) rfl rfl kr kr kr kr kr kr kr (own_rd hOk46) (fun _=>by exact ⟨by omega,by omega,u32s_ne (k:=0) (by first | (show 0 < kTab.length; decide) | (rw [wsch_len]; omega))⟩) ?_
      refine GL_loadS (i:=22) (ch:=[]) (a:=ak42) (q:=i * 1) (S:=(inG gk44)) (cs:=(u32s kTab)) (v:=.int .u32 (kAt i)) rfl rfl kr kr kr kr kr (own_rd hOk46) (at_inG 2 rfl) (fun _=>(kat_at (by omega) (by omega))) ?_
      refine GL_p [0,0,0] kr (j:=26) rfl ?_
      refine GL_indexAddr (i:=26) (ch:=[]) (a:=aw) (len:=n) (cap:=cw) (kd:=.i64) (j:=((i : Nat) : Int)) (e:=144) (sz:=1) (S:=(inG gw)) (cs:=(u32s (wsch B n))) rfl rfl kr kr kr kr kr kr kr (own_rd how) (fun _=>by exact ⟨by omega,by omega,u32s_ne (k:=0) (by first | (show 0 < kTab.length; decide) | (rw [wsch_len]; omega))⟩) ?_
      refine GL_loadS (i:=27) (ch:=[]) (a:=aw) (q:=i * 1) (S:=(inG gw)) (cs:=(u32s (wsch B n))) (v:=.int .u32 (wAt B i)) rfl rfl kr kr kr kr kr (own_rd how) (at_inG 0 rfl) (fun _=>(by rw [hn9]; exact wat_at _ (by omega) (by omega))) ?_
      refine GL_fin (E':=[⟨0,[],.slice aq (64 * (m - q)) cq⟩,⟨5,[],.slice a5 8 c5⟩,⟨6,[],.slice ak42 64 ck43⟩,⟨7,[],.slice aw n cw⟩,⟨11,[],.int .u32 sv.a⟩,⟨12,[],.int .u32 sv.b⟩,⟨13,[],.int .u32 sv.c⟩,⟨14,[],.int .u32 sv.d⟩,⟨15,[],.int .u32 sv.e⟩,⟨16,[],.int .u32 sv.f⟩,⟨17,[],.int .u32 sv.g⟩,⟨19,[],.int .i64 ((i : Nat) : Int)⟩,⟨20,[],.int .u32 (IntKind.wrap .u32 ((IntKind.wrap .u32 ((IntKind.wrap .u32 ((IntKind.wrap .u32 (sv.h+(IntKind.wrap .u32 ((BitVec.ofInt (IntKind.bits .u32) (IntKind.wrap .u32 ((BitVec.ofInt (IntKind.bits .u32) (rotr sv.e 6) ^^^ BitVec.ofInt (IntKind.bits .u32) (rotr sv.e 11)).toNat)) ^^^ BitVec.ofInt (IntKind.bits .u32) (rotr sv.e 25)).toNat))))+(IntKind.wrap .u32 ((BitVec.ofInt (IntKind.bits .u32) (IntKind.wrap .u32 ((BitVec.ofInt (IntKind.bits .u32) sv.e &&& BitVec.ofInt (IntKind.bits .u32) sv.f).toNat)) ||| BitVec.ofInt (IntKind.bits .u32) (IntKind.wrap .u32 ((BitVec.ofInt (IntKind.bits .u32) (IntKind.wrap .u32 (4294967295 - sv.e)) &&& BitVec.ofInt (IntKind.bits .u32) sv.g).toNat))).toNat))))+(kAt i)))+(wAt B i)))⟩]) [0,0] [0,5,6,7,11,12,13,14,15,16,17,19,20] rfl kr ?_
      refine N_env (E':=[⟨0,[],.slice aq (64 * (m - q)) cq⟩,⟨5,[],.slice a5 8 c5⟩,⟨6,[],.slice ak42 64 ck43⟩,⟨7,[],.slice aw n cw⟩,⟨11,[],.int .u32 sv.a⟩,⟨12,[],.int .u32 sv.b⟩,⟨13,[],.int .u32 sv.c⟩,⟨14,[],.int .u32 sv.d⟩,⟨15,[],.int .u32 sv.e⟩,⟨16,[],.int .u32 sv.f⟩,⟨17,[],.int .u32 sv.g⟩,⟨19,[],.int .i64 ((i : Nat) : Int)⟩,⟨20,[],.int .u32 (t1P (kAt i) (wAt B i) sv)⟩]) (Eq.trans (b:=[⟨0,[],.slice aq (64 * (m - q)) cq⟩,⟨5,[],.slice a5 8 c5⟩,⟨6,[],.slice ak42 64 ck43⟩,⟨7,[],.slice aw n cw⟩,⟨11,[],.int .u32 sv.a⟩,⟨12,[],.int .u32 sv.b⟩,⟨13,[],.int .u32 sv.c⟩,⟨14,[],.int .u32 sv.d⟩,⟨15,[],.int .u32 sv.e⟩,⟨16,[],.int .u32 sv.f⟩,⟨17,[],.int .u32 sv.g⟩,⟨19,[],.int .i64 ((i : Nat) : Int)⟩,⟨20,[],.int .u32 (t1R (kAt i) (wAt B i) sv)⟩]) kr (by rw [t1R_eq _ _ hUe])) ?_
      refine N_then ?_
      refine G_seq ?_
      refine G_region ?_
      refine GL_p [0] kr (j:=1) rfl ?_
      refine GL_callQ (i:=1) (ch:=[]) (f:=101) (fst:=#[]) (caps:=#[]) (vs:=[.int .u32 sv.a,.int .u64 2]) (v:=.int .u32 (rotr sv.a 2)) rfl rfl rfl kr kr Tryz.func101 rfl rfl kr kr kr (fun _=>turn2 sv.a _ _) ?_
      refine GL_p [0] kr (j:=3) rfl ?_
      refine GL_callQ (i:=3) (ch:=[]) (f:=101) (fst:=#[]) (caps:=#[]) (vs:=[.int .u32 sv.a,.int .u64 13]) (v:=.int .u32 (rotr sv.a 13)) rfl rfl rfl kr kr Tryz.func101 rfl rfl kr kr kr (fun _=>turn13 sv.a _ _) ?_
      refine GL_p [0,0] kr (j:=6) rfl ?_
      refine GL_callQ (i:=6) (ch:=[]) (f:=101) (fst:=#[]) (caps:=#[]) (vs:=[.int .u32 sv.a,.int .u64 22]) (v:=.int .u32 (rotr sv.a 22)) rfl rfl rfl kr kr Tryz.func101 rfl rfl kr kr kr (fun _=>turn22 sv.a _ _) ?_
      refine GL_fin (E':=[⟨0,[],.slice aq (64 * (m - q)) cq⟩,⟨5,[],.slice a5 8 c5⟩,⟨6,[],.slice ak42 64 ck43⟩,⟨7,[],.slice aw n cw⟩,⟨11,[],.int .u32 sv.a⟩,⟨12,[],.int .u32 sv.b⟩,⟨13,[],.int .u32 sv.c⟩,⟨14,[],.int .u32 sv.d⟩,⟨15,[],.int .u32 sv.e⟩,⟨16,[],.int .u32 sv.f⟩,⟨17,[],.int .u32 sv.g⟩,⟨19,[],.int .i64 ((i : Nat) : Int)⟩,⟨20,[],.int .u32 (t1P (kAt i) (wAt B i) sv)⟩,⟨21,[],.int .u32 (IntKind.wrap .u32 ((IntKind.wrap .u32 ((BitVec.ofInt (IntKind.bits .u32) (IntKind.wrap .u32 ((BitVec.ofInt (IntKind.bits .u32) (rotr sv.a 2) ^^^ BitVec.ofInt (IntKind.bits .u32) (rotr sv.a 13)).toNat)) ^^^ BitVec.ofInt (IntKind.bits .u32) (rotr sv.a 22)).toNat))+(IntKind.wrap .u32 ((BitVec.ofInt (IntKind.bits .u32) (IntKind.wrap .u32 ((BitVec.ofInt (IntKind.bits .u32) (IntKind.wrap .u32 ((BitVec.ofInt (IntKind.bits .u32) sv.a &&& BitVec.ofInt (IntKind.bits .u32) sv.b).toNat)) ||| BitVec.ofInt (IntKind.bits .u32) (IntKind.wrap .u32 ((BitVec.ofInt (IntKind.bits .u32) sv.a &&& BitVec.ofInt (IntKind.bits .u32) sv.c).toNat))).toNat)) ||| BitVec.ofInt (IntKind.bits .u32) (IntKind.wrap .u32 ((BitVec.ofInt (IntKind.bits .u32) sv.b &&& BitVec.ofInt (IntKind.bits .u32) sv.c).toNat))).toNat))))⟩]) [0,0,0,0,0,0,0,0,0,0,0,0,0,0] [0,5,6,7,11,12,13,14,15,16,17,19,20,21] rfl kr ?_
      refine N_env (E':=[⟨0,[],.slice aq (64 * (m - q)) cq⟩,⟨5,[],.slice a5 8 c5⟩,⟨6,[],.slice ak42 64 ck43⟩,⟨7,[],.slice aw n cw⟩,⟨11,[],.int .u32 sv.a⟩,⟨12,[],.int .u32 sv.b⟩,⟨13,[],.int .u32 sv.c⟩,⟨14,[],.int .u32 sv.d⟩,⟨15,[],.int .u32 sv.e⟩,⟨16,[],.int .u32 sv.f⟩,⟨17,[],.int .u32 sv.g⟩,⟨19,[],.int .i64 ((i : Nat) : Int)⟩,⟨20,[],.int .u32 (t1P (kAt i) (wAt B i) sv)⟩,⟨21,[],.int .u32 (t2P sv)⟩]) (Eq.trans (b:=[⟨0,[],.slice aq (64 * (m - q)) cq⟩,⟨5,[],.slice a5 8 c5⟩,⟨6,[],.slice ak42 64 ck43⟩,⟨7,[],.slice aw n cw⟩,⟨11,[],.int .u32 sv.a⟩,⟨12,[],.int .u32 sv.b⟩,⟨13,[],.int .u32 sv.c⟩,⟨14,[],.int .u32 sv.d⟩,⟨15,[],.int .u32 sv.e⟩,⟨16,[],.int .u32 sv.f⟩,⟨17,[],.int .u32 sv.g⟩,⟨19,[],.int .i64 ((i : Nat) : Int)⟩,⟨20,[],.int .u32 (t1P (kAt i) (wAt B i) sv)⟩,⟨21,[],.int .u32 (t2R sv)⟩]) kr (by rw [t2R_eq])) ?_
      refine N_then ?_
      refine G_pure (E':=[⟨0,[],.slice aq (64 * (m - q)) cq⟩,⟨5,[],.slice a5 8 c5⟩,⟨6,[],.slice ak42 64 ck43⟩,⟨7,[],.slice aw n cw⟩,⟨11,[],.int .u32 (IntKind.wrap .u32 ((t1P (kAt i) (wAt B i) sv)+(t2P sv)))⟩,⟨12,[],.int .u32 sv.a⟩,⟨13,[],.int .u32 sv.b⟩,⟨14,[],.int .u32 sv.c⟩,⟨15,[],.int .u32 (IntKind.wrap .u32 (sv.d+(t1P (kAt i) (wAt B i) sv)))⟩,⟨16,[],.int .u32 sv.e⟩,⟨17,[],.int .u32 sv.f⟩,⟨18,[],.int .u32 sv.g⟩,⟨19,[],.int .i64 ((i : Nat) : Int)⟩]) [0,0,0,0,0,0,0,0,0,0,0,0,0,0,0,0,0,0,0,0] [0,5,6,7,11,12,13,14,15,16,17,18,19] rfl kr ?_
      refine N_block ?_
      refine N_then ?_
      refine G_region ?_
      refine GL_p [0,0] kr (j:=2) rfl ?_
      refine GL_wi 189 (((i : Nat) : Int)+1) (by omega) (by omega) kr ?_
      refine GL_fin (E':=[⟨0,[],.slice aq (64 * (m - q)) cq⟩,⟨5,[],.slice a5 8 c5⟩,⟨6,[],.slice ak42 64 ck43⟩,⟨7,[],.slice aw n cw⟩,⟨11,[],.int .u32 (IntKind.wrap .u32 ((t1P (kAt i) (wAt B i) sv)+(t2P sv)))⟩,⟨12,[],.int .u32 sv.a⟩,⟨13,[],.int .u32 sv.b⟩,⟨14,[],.int .u32 sv.c⟩,⟨15,[],.int .u32 (IntKind.wrap .u32 (sv.d+(t1P (kAt i) (wAt B i) sv)))⟩,⟨16,[],.int .u32 sv.e⟩,⟨17,[],.int .u32 sv.f⟩,⟨18,[],.int .u32 sv.g⟩,⟨19,[],.int .i64 (((i : Nat) : Int)+1)⟩]) [0] [0,5,6,7,11,12,13,14,15,16,17,18,19] rfl kr ?_
      refine N_round (s':=(i+1,(rnd (kAt i) (wAt B i) sv))) [0,5,6,7,11,12,13,14,15,16,17,18,19] kr rfl ⟨(by dsimp only; omega),(by dsimp only; rw [hsv]; rfl)⟩ (by dsimp only; omega)
     ·
      have hi64 : i = 64 := by (have h9 := of_decide_eq_false hc92; omega)
      refine G_exit ?_
      refine N_then_exit ?_
      refine N_then_exit ?_
      refine N_block_exit ?_
      refine N_then ?_
      refine G_regionH (gw::g5::gk44::g::H) kr ?_
      refine GH_p (fuel:=41) [(0,0)] (fun w h=>h) kr rfl ?_
      refine GH_take' 1 kr (fun w h=>h) (GL_indexAddr (i:=1) (ch:=[]) (a:=a5) (len:=8) (cap:=c5) (kd:=.i64) (j:=0) (e:=144) (sz:=1) (S:=(inG g5)) (cs:=(u32s (S8l fs))) rfl rfl kr kr kr kr kr kr kr (own_rd ho5) (fun _=>by exact ⟨by omega,by omega,List.cons_ne_nil _ _⟩) (GL_yend kr rfl)) ?_
      refine GH_take' 2 kr (fun w h=>h) (GL_loadS (i:=2) (ch:=[]) (a:=a5) (q:=0 * 1) (S:=(inG g5)) (cs:=(u32s (S8l fs))) (v:=.int .u32 fs.a) rfl rfl kr kr kr kr kr (own_rd ho5) (at_inG 1 rfl) (fun _=>rfl) (GL_yend kr rfl)) ?_
      refine GH_p (fuel:=36) [(3,0),(4,0),(5,0)] (fun w h=>h) kr rfl ?_
      refine GH_take' 6 kr (fun w h=>h) (GL_indexAddr (i:=6) (ch:=[]) (a:=a5) (len:=8) (cap:=c5) (kd:=.i64) (j:=1) (e:=144) (sz:=1) (S:=(inG g5)) (cs:=(u32s (S8l fs))) rfl rfl kr kr kr kr kr kr kr (own_rd ho5) (fun _=>by exact ⟨by omega,by omega,List.cons_ne_nil _ _⟩) (GL_yend kr rfl)) ?_
      refine GH_take' 7 kr (fun w h=>h) (GL_loadS (i:=7) (ch:=[]) (a:=a5) (q:=1 * 1) (S:=(inG g5)) (cs:=(u32s (S8l fs))) (v:=.int .u32 fs.b) rfl rfl kr kr kr kr kr (own_rd ho5) (at_inG 1 rfl) (fun _=>rfl) (GL_yend kr rfl)) ?_
      refine GH_p (fuel:=31) [(8,0),(9,0),(10,0)] (fun w h=>h) kr rfl ?_
      refine GH_take' 11 kr (fun w h=>h) (GL_indexAddr (i:=11) (ch:=[]) (a:=a5) (len:=8) (cap:=c5) (kd:=.i64) (j:=2) (e:=144) (sz:=1) (S:=(inG g5)) (cs:=(u32s (S8l fs))) rfl rfl kr kr kr kr kr kr kr (own_rd ho5) (fun _=>by exact ⟨by omega,by omega,List.cons_ne_nil _ _⟩) (GL_yend kr rfl)) ?_
      refine GH_take' 12 kr (fun w h=>h) (GL_loadS (i:=12) (ch:=[]) (a:=a5) (q:=2 * 1) (S:=(inG g5)) (cs:=(u32s (S8l fs))) (v:=.int .u32 fs.c) rfl rfl kr kr kr kr kr (own_rd ho5) (at_inG 1 rfl) (fun _=>rfl) (GL_yend kr rfl)) ?_
      refine GH_p (fuel:=26) [(13,0),(14,0),(15,0)] (fun w h=>h) kr rfl ?_
      refine GH_take' 16 kr (fun w h=>h) (GL_indexAddr (i:=16) (ch:=[]) (a:=a5) (len:=8) (cap:=c5) (kd:=.i64) (j:=3) (e:=144) (sz:=1) (S:=(inG g5)) (cs:=(u32s (S8l fs))) rfl rfl kr kr kr kr kr kr kr (own_rd ho5) (fun _=>by exact ⟨by omega,by omega,List.cons_ne_nil _ _⟩) (GL_yend kr rfl)) ?_
      refine GH_take' 17 kr (fun w h=>h) (GL_loadS (i:=17) (ch:=[]) (a:=a5) (q:=3 * 1) (S:=(inG g5)) (cs:=(u32s (S8l fs))) (v:=.int .u32 fs.d) rfl rfl kr kr kr kr kr (own_rd ho5) (at_inG 1 rfl) (fun _=>rfl) (GL_yend kr rfl)) ?_
      refine GH_p (fuel:=21) [(18,0),(19,0),(20,0)] (fun w h=>h) kr rfl ?_
      refine GH_take' 21 kr (fun w h=>h) (GL_indexAddr (i:=21) (ch:=[]) (a:=a5) (len:=8) (cap:=c5) (kd:=.i64) (j:=4) (e:=144) (sz:=1) (S:=(inG g5)) (cs:=(u32s (S8l fs))) rfl rfl kr kr kr kr kr kr kr (own_rd ho5) (fun _=>by exact ⟨by omega,by omega,List.cons_ne_nil _ _⟩) (GL_yend kr rfl)) ?_
      refine GH_take' 22 kr (fun w h=>h) (GL_loadS (i:=22) (ch:=[]) (a:=a5) (q:=4 * 1) (S:=(inG g5)) (cs:=(u32s (S8l fs))) (v:=.int .u32 fs.e) rfl rfl kr kr kr kr kr (own_rd ho5) (at_inG 1 rfl) (fun _=>rfl) (GL_yend kr rfl)) ?_
      refine GH_p (fuel:=16) [(23,0),(24,0),(25,0)] (fun w h=>h) kr rfl ?_
      refine GH_take' 26 kr (fun w h=>h) (GL_indexAddr (i:=26) (ch:=[]) (a:=a5) (len:=8) (cap:=c5) (kd:=.i64) (j:=5) (e:=144) (sz:=1) (S:=(inG g5)) (cs:=(u32s (S8l fs))) rfl rfl kr kr kr kr kr kr kr (own_rd ho5) (fun _=>by exact ⟨by omega,by omega,List.cons_ne_nil _ _⟩) (GL_yend kr rfl)) ?_
      refine GH_take' 27 kr (fun w h=>h) (GL_loadS (i:=27) (ch:=[]) (a:=a5) (q:=5 * 1) (S:=(inG g5)) (cs:=(u32s (S8l fs))) (v:=.int .u32 fs.f) rfl rfl kr kr kr kr kr (own_rd ho5) (at_inG 1 rfl) (fun _=>rfl) (GL_yend kr rfl)) ?_
      refine GH_p (fuel:=11) [(28,0),(29,0),(30,0)] (fun w h=>h) kr rfl ?_
      refine GH_take' 31 kr (fun w h=>h) (GL_indexAddr (i:=31) (ch:=[]) (a:=a5) (len:=8) (cap:=c5) (kd:=.i64) (j:=6) (e:=144) (sz:=1) (S:=(inG g5)) (cs:=(u32s (S8l fs))) rfl rfl kr kr kr kr kr kr kr (own_rd ho5) (fun _=>by exact ⟨by omega,by omega,List.cons_ne_nil _ _⟩) (GL_yend kr rfl)) ?_
      refine GH_take' 32 kr (fun w h=>h) (GL_loadS (i:=32) (ch:=[]) (a:=a5) (q:=6 * 1) (S:=(inG g5)) (cs:=(u32s (S8l fs))) (v:=.int .u32 fs.g) rfl rfl kr kr kr kr kr (own_rd ho5) (at_inG 1 rfl) (fun _=>rfl) (GL_yend kr rfl)) ?_
      refine GH_p (fuel:=6) [(33,0),(34,0),(35,0)] (fun w h=>h) kr rfl ?_
      refine GH_take' 36 kr (fun w h=>h) (GL_indexAddr (i:=36) (ch:=[]) (a:=a5) (len:=8) (cap:=c5) (kd:=.i64) (j:=7) (e:=144) (sz:=1) (S:=(inG g5)) (cs:=(u32s (S8l fs))) rfl rfl kr kr kr kr kr kr kr (own_rd ho5) (fun _=>by exact ⟨by omega,by omega,List.cons_ne_nil _ _⟩) (GL_yend kr rfl)) ?_
      refine GH_take' 37 kr (fun w h=>h) (GL_loadS (i:=37) (ch:=[]) (a:=a5) (q:=7 * 1) (S:=(inG g5)) (cs:=(u32s (S8l fs))) (v:=.int .u32 fs.h) rfl rfl kr kr kr kr kr (own_rd ho5) (at_inG 1 rfl) (fun _=>rfl) (GL_yend kr rfl)) ?_
      refine GH_p (fuel:=2) [(38,0),(39,0)] (fun w h=>h) kr rfl ?_
      refine GH_eff 40 kr kr kr ?_
      refine GL_buildSlice (i:=40) (ch:=[]) (e:=144) (l:=[(0,.int .u32 (IntKind.wrap .u32 (fs.a+sv.a))),(1,.int .u32 (IntKind.wrap .u32 (fs.b+sv.b))),(2,.int .u32 (IntKind.wrap .u32 (fs.c+sv.c))),(3,.int .u32 (IntKind.wrap .u32 (fs.d+sv.d))),(4,.int .u32 (IntKind.wrap .u32 (fs.e+sv.e))),(5,.int .u32 (IntKind.wrap .u32 (fs.f+sv.f))),(6,.int .u32 (IntKind.wrap .u32 (fs.g+sv.g))),(7,.int .u32 (IntKind.wrap .u32 (fs.h+sv.h)))]) (c:=[.int .u32 (IntKind.wrap .u32 (fs.a+sv.a)),.int .u32 (IntKind.wrap .u32 (fs.b+sv.b)),.int .u32 (IntKind.wrap .u32 (fs.c+sv.c)),.int .u32 (IntKind.wrap .u32 (fs.d+sv.d)),.int .u32 (IntKind.wrap .u32 (fs.e+sv.e)),.int .u32 (IntKind.wrap .u32 (fs.f+sv.f)),.int .u32 (IntKind.wrap .u32 (fs.g+sv.g)),.int .u32 (IntKind.wrap .u32 (fs.h+sv.h))]) rfl rfl kr kr kr kr kr (fun b94=>?_)
      refine GH_back kr (fun w h=>(h.erase 0)) ?_
      refine GH_more ([(b94,.cells #[.int .u32 (IntKind.wrap .u32 (fs.a+sv.a)),.int .u32 (IntKind.wrap .u32 (fs.b+sv.b)),.int .u32 (IntKind.wrap .u32 (fs.c+sv.c)),.int .u32 (IntKind.wrap .u32 (fs.d+sv.d)),.int .u32 (IntKind.wrap .u32 (fs.e+sv.e)),.int .u32 (IntKind.wrap .u32 (fs.f+sv.f)),.int .u32 (IntKind.wrap .u32 (fs.g+sv.g)),.int .u32 (IntKind.wrap .u32 (fs.h+sv.h))] 144 (0,0))]::gw::g5::gk44::g::H) (fun w h=>(h.erase 0)) ?_
      refine GH_p (fuel:=0) [(41,0)] (fun w h=>h) kr rfl ?_
      refine GH_done (E':=[⟨0,[],.slice aq (64 * (m - q)) cq⟩,⟨5,[],.slice (some ⟨b94,0,none⟩) 8 8⟩,⟨6,[],.slice ak42 64 ck43⟩]) [0,5,6] kr kr ?_
      refine N_block ?_
      refine N_then ?_
      refine G_region ?_
      refine GL_p [0] kr (j:=1) rfl ?_
      refine GL_sliceL (i:=1) (ch:=[]) (a:=aq) (len:=(64 * (m - q))) (cap:=cq) (e:=5) (sz:=1) (vl:=(some (.int .i64 64))) (vh:=none) (l:=64) (h:=(((64 * (m - q)) : Nat) : Int)) rfl rfl kr kr kr kr kr kr kr kr kr kr (fun _=>by omega) ?_
      refine GL_fin (E':=[⟨0,[],.slice (cutA aq cq 64 1) ((Int.toNat (((64 * (m - q)) : Nat) : Int)) - 64) (cq - 64)⟩,⟨5,[],.slice (some ⟨b94,0,none⟩) 8 8⟩,⟨6,[],.slice ak42 64 ck43⟩]) [0] [0,5,6] rfl kr ?_
      refine N_env (E':=[⟨0,[],.slice (cutA aq cq 64 1) (64 * (m - (q+1))) (cq - 64)⟩,⟨5,[],.slice (some ⟨b94,0,none⟩) 8 8⟩,⟨6,[],.slice ak42 64 ck43⟩]) (by rw [show 64 * (m - (q+1)) = 64 * (m - q) - 64 by omega]; rfl) ?_
      refine N_heap (H':=([(b94,.cells #[.int .u32 (IntKind.wrap .u32 (fs.a+sv.a)),.int .u32 (IntKind.wrap .u32 (fs.b+sv.b)),.int .u32 (IntKind.wrap .u32 (fs.c+sv.c)),.int .u32 (IntKind.wrap .u32 (fs.d+sv.d)),.int .u32 (IntKind.wrap .u32 (fs.e+sv.e)),.int .u32 (IntKind.wrap .u32 (fs.f+sv.f)),.int .u32 (IntKind.wrap .u32 (fs.g+sv.g)),.int .u32 (IntKind.wrap .u32 (fs.h+sv.h))] 144 (0,0))]::gk44::g::H)) (fun w h=>((h.erase 2).erase 1)) ?_
      refine N_round (s':=(q+1,(cutA aq cq 64 1),cq - 64,(some ⟨b94,0,none⟩),8,[(b94,.cells #[.int .u32 (IntKind.wrap .u32 (fs.a+sv.a)),.int .u32 (IntKind.wrap .u32 (fs.b+sv.b)),.int .u32 (IntKind.wrap .u32 (fs.c+sv.c)),.int .u32 (IntKind.wrap .u32 (fs.d+sv.d)),.int .u32 (IntKind.wrap .u32 (fs.e+sv.e)),.int .u32 (IntKind.wrap .u32 (fs.f+sv.f)),.int .u32 (IntKind.wrap .u32 (fs.g+sv.g)),.int .u32 (IntKind.wrap .u32 (fs.h+sv.h))] 144 (0,0))],(addS fs sv))) [0,5,6] kr rfl ⟨(by dsimp only; omega),(rd_next hP hrq hlt hcq),(by dsimp only; omega),(by dsimp only; rw [hfs,hsv,hfs,hB,hi64]; rfl),(own_cs (Go.Sw.Own.lit rfl) (S8l_add _ _).symm)⟩ (by dsimp only; omega)
   ·
    have hqm : q = m := by (have h9 := of_decide_eq_false hc47; omega)
    refine G_exit ?_
    refine N_then_exit ?_
    refine N_then_exit ?_
    refine N_block_exit ?_
    refine N_then ?_
    refine G_seq ?_
    refine G_pure (E':=[⟨5,[],.slice a5 8 c5⟩,⟨22,[],.slice none 0 0⟩]) [0] [5,22] rfl kr ?_
    refine N_then ?_
    refine G_seq ?_
    refine G_seq ?_
    refine G_pure (E':=[⟨22,[],.slice none 0 0⟩,⟨292,[],.slice a5 8 c5⟩,⟨293,[],.int .i64 8⟩,⟨294,[],.int .i64 0⟩]) [0,0,0] [22,292,293,294] rfl kr ?_
    refine N_then ?_
    refine G_block ?_
    refine G_heap (H':=([]::g5::gk44::g::H)) (fun w h=>Sat.flat h (List.Perm.refl _)) ?_
    refine G_loop (EI:=(fun ξ : Nat × Option Addr × Nat × Grp=>[⟨22,[],.slice ξ.2.1 (4 * ξ.1) ξ.2.2.1⟩,⟨292,[],.slice a5 8 c5⟩,⟨293,[],.int .i64 8⟩,⟨294,[],.int .i64 ((ξ.1 : Nat) : Int)⟩])) (HI:=(fun ξ : Nat × Option Addr × Nat × Grp=>(ξ.2.2.2::g5::gk44::g::H))) (Φ:=(fun ξ : Nat × Option Addr × Nat × Grp=>(ξ.1 ≤ 8)∧(Go.Sw.Own 5 1 (.slice ξ.2.1 (4 * ξ.1) ξ.2.2.1) ξ.2.2.2 (4 * ξ.1) (u8s ((outB fs).take (4 * ξ.1)))))) (μ:=(fun ξ : Nat × Option Addr × Nat × Grp=>8 - ξ.1)) (s0:=(0,none,0,[])) [22,292,293,294] kr rfl ⟨(Nat.zero_le _),Go.Sw.Own.nil⟩ ?_
    rintro ⟨t, ao, co, go⟩ ⟨ht, hot⟩
    dsimp only at ht hot
    refine G_seq ?_
    refine G_pure (E':=[⟨22,[],.slice ao (4 * t) co⟩,⟨292,[],.slice a5 8 c5⟩,⟨293,[],.int .i64 8⟩,⟨294,[],.int .i64 ((t : Nat) : Int)⟩,⟨295,[],.bool (decide (((t : Nat) : Int) < 8))⟩]) [0] [22,292,293,294,295] rfl kr ?_
    refine N_then ?_
    refine G_seq ?_
    refine G_cond (b:=decide (((t : Nat) : Int) < 8)) kr (fun hc95=>?_) (fun hc95=>?_)
    ·
     replace hc95 := of_decide_eq_true hc95
     refine G_skip ?_
     refine N_then ?_
     refine G_seq ?_
     refine G_block ?_
     refine G_seq ?_
     refine G_region ?_
     refine GL_indexAddr (i:=0) (ch:=[]) (a:=a5) (len:=8) (cap:=c5) (kd:=.i64) (j:=((t : Nat) : Int)) (e:=144) (sz:=1) (S:=(inG g5)) (cs:=(u32s (S8l fs))) rfl rfl kr kr kr kr kr kr kr (own_rd ho5) (fun _=>by exact ⟨by omega,by omega,List.cons_ne_nil _ _⟩) ?_
     refine GL_loadS (i:=1) (ch:=[]) (a:=a5) (q:=t * 1) (S:=(inG g5)) (cs:=(u32s (S8l fs))) (v:=.int .u32 (wd fs t)) rfl rfl kr kr kr kr kr (own_rd ho5) (at_inG 1 rfl) (fun _=>(wd_cell _ (by omega) (by omega))) ?_
     refine GL_fin (E':=[⟨22,[],.slice ao (4 * t) co⟩,⟨24,[],.int .u32 (wd fs t)⟩,⟨292,[],.slice a5 8 c5⟩,⟨293,[],.int .i64 8⟩,⟨294,[],.int .i64 ((t : Nat) : Int)⟩]) [0] [22,24,292,293,294] rfl kr ?_
     refine N_then ?_
     refine G_region ?_
     refine GL_p [0,0,0,0,0,0,0,0,0,0,0,0] kr (j:=12) rfl ?_
     refine GL_buildSlice (i:=12) (ch:=[]) (e:=5) (l:=[(0,.int .u8 (IntKind.wrap .u8 (Int.fdiv (wd fs t) (2 ^ 24)))),(1,.int .u8 (IntKind.wrap .u8 (Int.fdiv (wd fs t) (2 ^ 16)))),(2,.int .u8 (IntKind.wrap .u8 (Int.fdiv (wd fs t) (2 ^ 8)))),(3,.int .u8 (IntKind.wrap .u8 (wd fs t)))]) (c:=[.int .u8 (IntKind.wrap .u8 (Int.fdiv (wd fs t) (2 ^ 24))),.int .u8 (IntKind.wrap .u8 (Int.fdiv (wd fs t) (2 ^ 16))),.int .u8 (IntKind.wrap .u8 (Int.fdiv (wd fs t) (2 ^ 8))),.int .u8 (IntKind.wrap .u8 (wd fs t))]) rfl rfl kr kr kr kr kr (fun b96=>?_)
     refine GL_append (i:=13) (ch:=[]) (t:=22) (tx:=22) (e:=5) (inf:=Tryz.t5) (s:=.slice ao (4 * t) co) (x:=.slice (some ⟨b96,0,none⟩) 4 4) (n:=(4 * t)) (m:=4) (j:=1) (cs:=(u8s ((outB fs).take (4 * t)))) (news:=[.int .u8 (IntKind.wrap .u8 (Int.fdiv (wd fs t) (2 ^ 24))),.int .u8 (IntKind.wrap .u8 (Int.fdiv (wd fs t) (2 ^ 16))),.int .u8 (IntKind.wrap .u8 (Int.fdiv (wd fs t) (2 ^ 8))),.int .u8 (IntKind.wrap .u8 (wd fs t))]) (g:=go) (S:=(inG [(b96,.cells #[.int .u8 (IntKind.wrap .u8 (Int.fdiv (wd fs t) (2 ^ 24))),.int .u8 (IntKind.wrap .u8 (Int.fdiv (wd fs t) (2 ^ 16))),.int .u8 (IntKind.wrap .u8 (Int.fdiv (wd fs t) (2 ^ 8))),.int .u8 (IntKind.wrap .u8 (wd fs t))] 5 (0,0))])) rfl rfl rfl rfl kr kr kr rfl rfl (.inl ⟨5,kr⟩) (fun ⟨_,h⟩=>by cases h) (fun _=>⟨5,kr⟩) kr kr kr rfl hot (SrcOf.slice _ _ _ _ Rd.lit (fun h=>by cases h)) (at_inG 0 rfl) rfl (by intro u hu; simp only [List.mem_cons,List.not_mem_nil,or_false] at hu; rcases hu with rfl | rfl | rfl | rfl <;> rfl) (by omega) (by show ((4 * t)+4) * 1 ≤ 140737488355328; omega) (fun v97 g98 hO99=>?_)
     obtain ⟨a100, cap101, rfl, hcap102, hrd103⟩ := hO99.shape
     refine GL_fin (E':=[⟨22,[],.slice a100 ((4 * t)+4) cap101⟩,⟨292,[],.slice a5 8 c5⟩,⟨293,[],.int .i64 8⟩,⟨294,[],.int .i64 ((t : Nat) : Int)⟩]) [0] [22,292,293,294] rfl kr ?_
     refine N_block ?_
     refine N_then ?_
     refine G_region ?_
     refine GL_p [0] kr (j:=1) rfl ?_
     refine GL_wi 312 (((t : Nat) : Int)+1) (by omega) (by omega) kr ?_
     refine GL_fin (E':=[⟨22,[],.slice a100 ((4 * t)+4) cap101⟩,⟨292,[],.slice a5 8 c5⟩,⟨293,[],.int .i64 8⟩,⟨294,[],.int .i64 (((t : Nat) : Int)+1)⟩]) [0] [22,292,293,294] rfl kr ?_
     refine N_env (E':=[⟨22,[],.slice a100 (4 * (t+1)) cap101⟩,⟨292,[],.slice a5 8 c5⟩,⟨293,[],.int .i64 8⟩,⟨294,[],.int .i64 (((t : Nat) : Int)+1)⟩]) (by rw [show 4 * (t+1) = 4 * t+4 by omega]) ?_
     refine N_heap (H':=(g98::g5::gk44::g::H)) (fun w h=>(h.erase 0)) ?_
     refine N_round (s':=(t+1,a100,cap101,g98)) [22,292,293,294] kr rfl ⟨(by dsimp only; omega),(own_u8n hO99 (by omega) (out_step _ (by omega)))⟩ (by dsimp only; omega)
    ·
     have hj8b : t = 8 := by (have h9 := of_decide_eq_false hc95; omega)
     refine G_exit ?_
     refine N_then_exit ?_
     refine N_then_exit ?_
     refine N_block_exit ?_
     refine N_then ?_
     refine G_seq ?_
     refine G_pure (E':=[⟨2,[],.slice ao (4 * t) co⟩]) [0,0] [2] rfl kr ?_
     refine N_then ?_
     refine G_ret ?_
     refine N_heap (H':=(go::H)) (fun w h=>(((h.erase 3).erase 2).erase 1)) ?_
     refine N_ret [.tmp 2] [.slice ao (4 * t) co] rfl kr rfl ?_
     refine ⟨_, _, _, by rw [hj8b]; rfl, ?_, rfl⟩
     exact own_u8n hot (by omega) (by subst hj8b; unfold sumB; rw [sumS_fN, ← hm, ← hqm, ← hfs, List.take_of_length_le (Nat.le_of_eq (outB_len _))])
end Go.Proofs.YtlaoeiaaeifidaaGreat
namespace Go.Jr
open Go.Sw Go.Lib Go.Vf Go.Sha Go.Proofs.YtlaoeiaaeifidaaGreat
theorem right_hit {t : ByteArray} {k : Nat} (hk : k < t.size) (hb : byteAt t k = 10) : rightJ t = false := by
  rw [Bool.eq_false_iff]
  intro h
  exact noLf_noB (rightJ_iff.1 h).2 k hk hb
theorem right_end {t : ByteArray} (h : noB t 10 t.size) : rightJ t = decide ((t.size : Int) ≤ 1048576) := by
  unfold rightJ
  have : lf t < 0 := noLf_iff.2 (noLf_of h)
  rw [show decide (lf t ≥ 0) = false from decide_eq_false (by omega)]
  simp
theorem byte_ext {s : ByteArray} {a j : Nat} : byteAt (s.extract a s.size) (j : Int) = byteAt s ((a + j : Nat) : Int) := by
  unfold byteAt
  rw [Int.toNat_natCast, Int.toNat_natCast, exL, List.take_of_length_le (by rw [lenL]; exact Nat.le_refl _), List.getElem?_drop]
theorem ex_ex (s : ByteArray) {a b c d : Nat} (h : d ≤ b - a) : (s.extract a b).extract c d = s.extract (a + c) (a + d) := ext_L (by
  rw [exL, exL, exL, List.take_drop, List.take_take, List.drop_drop, show min (a + d) b = if a ≤ b then a + d else b by split <;> omega]
  split
  · rfl
  · rw [List.drop_of_length_le (by rw [List.length_take]; omega), List.drop_of_length_le (by rw [List.length_take]; omega)])
theorem ex_lf {s : ByteArray} {a i : Nat} (ha : a ≤ i) (hi : i < s.size) (hb : byteAt s i = 10) : s.extract a i ++ lfB = s.extract a (i + 1) := ext_L (by
  have hi' : i < s.data.toList.length := by rw [lenL]; exact hi
  rw [byteAt_lt hi] at hb
  rw [toL, exL, exL, List.take_add_one, List.getElem?_eq_getElem hi', List.drop_append_of_le_length (by rw [List.length_take]; omega), u8_10 hb]; rfl)
structure PI (s : ByteArray) (ts : List ByteArray) (i : Nat) : Prop where
  at_ : Parsed s ts (s.extract (linesB ts).size s.size)
  le : (linesB ts).size ≤ i
  ile : i ≤ s.size
  no : ∀ j, (linesB ts).size ≤ j → j < i → byteAt s (j : Int) ≠ 10
theorem pi0 (s : ByteArray) : PI s [] 0 := ⟨by
  have e : s.extract (linesB []).size s.size = s := ext_L (by rw [exL]; show (s.data.toList.take s.size).drop 0 = _; rw [List.drop_zero, List.take_of_length_le (by rw [lenL]; exact Nat.le_refl _)])
  rw [e]; exact parsed0 s, Nat.zero_le _, Nat.zero_le _, fun j _ h => absurd h (Nat.not_lt_zero j)⟩
theorem PI.skip {s : ByteArray} {ts : List ByteArray} {i : Nat} (h : PI s ts i) (hi : i < s.size) (hb : byteAt s i ≠ 10) : PI s ts (i + 1) :=
  ⟨h.at_, Nat.le_succ_of_le h.le, hi, fun j h1 h2 => by
    rcases Nat.lt_or_ge j i with h3 | h3
    · exact h.no j h1 h3
    · have : j = i := by omega
      subst this; exact hb⟩
theorem PI.lf {s : ByteArray} {ts : List ByteArray} {i : Nat} (h : PI s ts i) (hi : i < s.size) (hb : byteAt s i = 10) : Jr.lf (s.extract (linesB ts).size s.size) = ((i - (linesB ts).size : Nat) : Int) := by
  have := h.le
  refine bIdx_eq (by omega) (by omega) (by rw [ByteArray.size_extract]; omega) ?_ fun j hj => ?_
  · rw [byte_ext, show (linesB ts).size + (i - (linesB ts).size) = i by omega]; exact hb
  · rw [byte_ext]; exact h.no _ (by omega) (by omega)
theorem PI.end_ {s : ByteArray} {ts : List ByteArray} {i : Nat} (h : PI s ts i) (hi : i = s.size) : parseB s = (ts, s.extract (linesB ts).size s.size) := by
  subst hi
  refine parsed_end h.at_ (cut_none1 (noLf_iff.2 (noLf_of fun j hj => ?_)))
  have := h.le
  rw [ByteArray.size_extract] at hj
  rw [byte_ext]; exact h.no _ (by omega) (by omega)
def badB (s : ByteArray) (a i : Nat) : Bool := (decide ((i : Int) - (a : Int) < 17) || !((lineB (s.extract (a + 17) i)).toList == (s.extract a (i + 1)).toList)) || !rightJ (s.extract (a + 17) i)
theorem PI.seg {s : ByteArray} {ts : List ByteArray} {i : Nat} (h : PI s ts i) (hi : i < s.size) (hb : byteAt s i = 10) : (s.extract (linesB ts).size s.size).extract 0 (Jr.lf (s.extract (linesB ts).size s.size)).toNat = s.extract (linesB ts).size i := by
  have := h.le
  rw [h.lf hi hb, Int.toNat_natCast, ex_ex s (by omega), Nat.add_zero, show (linesB ts).size + (i - (linesB ts).size) = i by omega]
theorem ok_bad {s : ByteArray} {a i : Nat} (ha : a ≤ i) (hi : i < s.size) (hb : byteAt s i = 10) : okB (s.extract a i) = !badB s a i := by
  have hz : (s.extract a i).size = i - a := by rw [ByteArray.size_extract]; omega
  have he := ex_lf ha hi hb
  unfold okB badB
  rcases Nat.lt_or_ge (i - a) 17 with h | h
  · rw [if_pos (by rw [hz]; omega), decide_eq_true (show (i : Int) - (a : Int) < 17 by omega)]; rfl
  · rw [if_neg (by rw [hz]; omega), decide_eq_false (show ¬ (i : Int) - (a : Int) < 17 by omega), hz, ex_ex s (Nat.le_refl _), show a + (i - a) = i by omega, show (s.extract a i ++ ByteArray.mk #[10]) = s.extract a (i + 1) from he]
    cases rightJ (s.extract (a + 17) i) <;> cases ((lineB (s.extract (a + 17) i)).toList == (s.extract a (i + 1)).toList) <;> rfl
theorem PI.bad {s : ByteArray} {ts : List ByteArray} {i : Nat} (h : PI s ts i) (hi : i < s.size) (hb : byteAt s i = 10) (hx : badB s (linesB ts).size i = true) : parseB s = (ts, s.extract (linesB ts).size s.size) := by
  refine parsed_end h.at_ (cut_none2 (by rw [h.lf hi hb]; omega) ?_)
  rw [h.seg hi hb, ok_bad h.le hi hb, hx]; rfl
theorem PI.good {s : ByteArray} {ts : List ByteArray} {i : Nat} (h : PI s ts i) (hi : i < s.size) (hb : byteAt s i = 10) (hx : badB s (linesB ts).size i = false) :
    PI s (ts ++ [s.extract ((linesB ts).size + 17) i]) (i + 1) ∧ (linesB (ts ++ [s.extract ((linesB ts).size + 17) i])).size = i + 1 := by
  have hle := h.le
  have hz : (s.extract (linesB ts).size i).size = i - (linesB ts).size := by rw [ByteArray.size_extract]; omega
  have hok : okB (s.extract (linesB ts).size i) = true := by rw [ok_bad h.le hi hb, hx]; rfl
  have h17 : 17 ≤ i - (linesB ts).size := by
    unfold badB at hx
    simp only [Bool.or_eq_false_iff, decide_eq_false_iff_not] at hx
    have := hx.1.1; omega
  have ht : textB (s.extract (linesB ts).size i) = s.extract ((linesB ts).size + 17) i := by
    unfold textB
    rw [if_neg (by rw [hz]; omega), hz, ex_ex s (Nat.le_refl _), show (linesB ts).size + (i - (linesB ts).size) = i by omega]
  have h1 := parsed1 h.at_ (by rw [h.lf hi hb]; omega) (by rw [h.seg hi hb]; exact hok)
  rw [h.seg hi hb, ht, h.lf hi hb, Int.toNat_natCast] at h1
  have e : (s.extract (linesB ts).size s.size).extract (i - (linesB ts).size + 1) (s.extract (linesB ts).size s.size).size = s.extract (i + 1) s.size := by
    have e1 : (s.extract (linesB ts).size s.size).size = s.size - (linesB ts).size := by rw [ByteArray.size_extract]; omega
    rw [e1, ex_ex s (Nat.le_refl _), show (linesB ts).size + (i - (linesB ts).size + 1) = i + 1 by omega, show (linesB ts).size + (s.size - (linesB ts).size) = s.size by omega]
  rw [e] at h1
  have hs : (linesB (ts ++ [s.extract ((linesB ts).size + 17) i])).size = i + 1 := by
    have := h1.sz
    rw [ByteArray.size_extract] at this; omega
  refine ⟨⟨by rw [hs]; exact h1, by rw [hs]; exact Nat.le_refl _, hi, fun j h2 h3 => ?_⟩, hs⟩
  rw [hs] at h2; omega
end Go.Jr
namespace Go.Proofs.YtlaoeiaaeifidaaGreat
open Go.Sw Go.Sha Go.Lib Go.Jr
theorem hx_bd (x : Int) (h : 0 ≤ x ∧ x < 256) : 0 ≤ IntKind.wrap .u8 (Int.tdiv x 16) ∧ IntKind.wrap .u8 (Int.tdiv x 16) ≤ IntKind.wrap .u8 (IntKind.wrap .u8 (Int.tdiv x 16) + 1) ∧ IntKind.wrap .u8 (IntKind.wrap .u8 (Int.tdiv x 16) + 1) ≤ 16 ∧ 0 ≤ Int.tmod x 16 ∧ Int.tmod x 16 ≤ IntKind.wrap .u8 (Int.tmod x 16 + 1) ∧ IntKind.wrap .u8 (Int.tmod x 16 + 1) ≤ 16 := by
  have e : ∀ y : Int, IntKind.wrap .u8 y = y % 256 := fun y => by first | rfl | simp [IntKind.wrap, IntKind.bits, IntKind.signed]
  obtain ⟨h0, h1⟩ := h
  rw [e, e, e, Int.tdiv_eq_ediv_of_nonneg h0, Int.tmod_eq_emod_of_nonneg h0]
  omega
theorem lit16 : (ByteArray.mk #[48, 49, 50, 51, 52, 53, 54, 55, 56, 57, 97, 98, 99, 100, 101, 102]).size = 16 := rfl
theorem bad_def (s : ByteArray) (a i : Nat) (p q : Nat) (hp : p = a + 17) (hq : q = i + 1) : ((decide ((i : Int) - (a : Int) < 17) || !((lineB (s.extract p i)).toList == (s.extract a q).toList)) || !rightJ (s.extract p i)) = badB s a i := by subst hp; subst hq; rfl
theorem bad17 {s : ByteArray} {a i : Nat} (h : badB s a i = false) : a + 17 ≤ i := by
  unfold badB at h
  have h8 := (Bool.or_eq_false_iff.1 (Bool.or_eq_false_iff.1 h).1).1
  simp only [decide_eq_false_iff_not] at h8; omega
theorem rhex_ (ba : Option Addr) (bc : Nat) (S : Nat → Obj → Prop) (l : List UInt8) (hrd : Rd S ba (u8s l)) (hn : l.length ≤ 1000) (W0 : World) (H : List Grp) (hS : ∀ y o, S y o → At W0 H y o) : Tri Tryz.prog 80 #[.slice ba l.length bc] W0 H (fun v H' => v = .string (hxs l l.length) ∧ H' = H) := by
 refine Tri_of (args := [.slice ba l.length bc]) (n := 32) Tryz.func80 rfl rfl (Nat.le_of_ble_eq_true rfl) ?_
 refine G_seq ?_
 refine G_pure (E':=[⟨0,[],.slice ba l.length bc⟩]) [0] [0] rfl kr ?_
 refine N_then ?_
 refine G_seq ?_
 refine G_pure (E':=[⟨0,[],.slice ba l.length bc⟩,⟨3,[],.string (ByteArray.mk #[])⟩]) [0] [0,3] rfl kr ?_
 refine N_env (E':=[⟨0,[],.slice ba l.length bc⟩,⟨3,[],.string (hxs l 0)⟩]) kr ?_
 refine N_then ?_
 refine G_seq ?_
 refine G_seq ?_
 refine G_pure (E':=[⟨3,[],.string (hxs l 0)⟩,⟨7,[],.slice ba l.length bc⟩,⟨8,[],.int .i64 ((l.length : Nat) : Int)⟩,⟨9,[],.int .i64 0⟩]) [0,0,0] [3,7,8,9] rfl kr ?_
 refine N_then ?_
 refine G_block ?_
 refine G_loop (EI:=(fun ξ : Nat=>[⟨3,[],.string (hxs l ξ)⟩,⟨7,[],.slice ba l.length bc⟩,⟨8,[],.int .i64 ((l.length : Nat) : Int)⟩,⟨9,[],.int .i64 ((ξ : Nat) : Int)⟩])) (HI:=(fun ξ : Nat=>H)) (Φ:=(fun ξ : Nat=>(ξ ≤ l.length))) (μ:=(fun ξ : Nat=>l.length - ξ)) (s0:=(0)) [3,7,8,9] kr rfl (by omega) ?_
 rintro k hk
 have hxz := hxs_size l hk
 refine G_seq ?_
 refine G_pure (E':=[⟨3,[],.string (hxs l k)⟩,⟨7,[],.slice ba l.length bc⟩,⟨8,[],.int .i64 ((l.length : Nat) : Int)⟩,⟨9,[],.int .i64 ((k : Nat) : Int)⟩,⟨10,[],.bool (decide (((k : Nat) : Int) < ((l.length : Nat) : Int)))⟩]) [0] [3,7,8,9,10] rfl kr ?_
 refine N_then ?_
 refine G_seq ?_
 refine G_cond (b:=decide (((k : Nat) : Int) < ((l.length : Nat) : Int))) kr (fun hc1=>?_) (fun hc1=>?_)
 ·
  have hlt : k < l.length := by (have h9 := of_decide_eq_true hc1; omega)
  refine G_skip ?_
  refine N_then ?_
  refine G_seq ?_
  refine G_block ?_
  refine G_seq ?_
  refine G_region ?_
  refine GL_indexAddr (i:=0) (ch:=[]) (a:=ba) (len:=l.length) (cap:=bc) (kd:=.i64) (j:=((k : Nat) : Int)) (e:=5) (sz:=1) (S:=S) (cs:=(u8s l)) rfl rfl kr kr kr kr kr kr kr hrd (fun _=>by exact ⟨by omega,by omega,by intro h; have h2:=congrArg List.length h; simp only [u8s,List.length_map,List.length_nil] at h2; omega⟩) ?_
  refine GL_loadS (i:=1) (ch:=[]) (a:=ba) (q:=k * 1) (S:=S) (cs:=(u8s l)) (v:=.int .u8 (byt l k)) rfl rfl kr kr kr kr kr hrd (fun y o h=>(hS y o h)) (fun _=>(byt_at (by omega) (by omega))) ?_
  refine GL_fin (E':=[⟨3,[],.string (hxs l k)⟩,⟨5,[],.int .u8 (byt l k)⟩,⟨7,[],.slice ba l.length bc⟩,⟨8,[],.int .i64 ((l.length : Nat) : Int)⟩,⟨9,[],.int .i64 ((k : Nat) : Int)⟩]) [0] [3,5,7,8,9] rfl kr ?_
  refine N_then ?_
  refine G_seq ?_
  refine G_pure (E':=[⟨3,[],.string (hxs l k)⟩,⟨5,[],.int .u8 (byt l k)⟩,⟨6,[],.string (ByteArray.mk #[48,49,50,51,52,53,54,55,56,57,97,98,99,100,101,102])⟩,⟨7,[],.slice ba l.length bc⟩,⟨8,[],.int .i64 ((l.length : Nat) : Int)⟩,⟨9,[],.int .i64 ((k : Nat) : Int)⟩]) [0] [3,5,6,7,8,9] rfl kr ?_
  refine N_then ?_
  refine G_regionD kr kr ?_
  refine GL_p [0,0,0,0,0,0,0] kr (j:=7) rfl ?_
  refine GL_sliceS (i:=7) (ch:=[]) (s:=(ByteArray.mk #[48,49,50,51,52,53,54,55,56,57,97,98,99,100,101,102])) (vl:=(some (.int .u8 (IntKind.wrap .u8 (Int.tdiv (byt l k) 16))))) (vh:=(some (.int .u8 (IntKind.wrap .u8 ((IntKind.wrap .u8 (Int.tdiv (byt l k) 16))+1))))) (l:=IntKind.wrap .u8 (Int.tdiv (byt l k) 16)) (h:=IntKind.wrap .u8 ((IntKind.wrap .u8 (Int.tdiv (byt l k) 16))+1)) rfl rfl kr kr kr kr kr kr kr kr kr (by have hbd:=hx_bd (byt l k) (byt_rng l k); have:=lit16; first | omega | (simp only [ByteArray.size_append,ByteArray.size_extract]; omega)) ?_
  refine GL_p [0,0,0,0,0,0] kr (j:=14) rfl ?_
  refine GL_sliceS (i:=14) (ch:=[]) (s:=(ByteArray.mk #[48,49,50,51,52,53,54,55,56,57,97,98,99,100,101,102])) (vl:=(some (.int .u8 (Int.tmod (byt l k) 16)))) (vh:=(some (.int .u8 (IntKind.wrap .u8 ((Int.tmod (byt l k) 16)+1))))) (l:=Int.tmod (byt l k) 16) (h:=IntKind.wrap .u8 ((Int.tmod (byt l k) 16)+1)) rfl rfl kr kr kr kr kr kr kr kr kr (by have hbd:=hx_bd (byt l k) (byt_rng l k); have:=lit16; first | omega | (simp only [ByteArray.size_append,ByteArray.size_extract]; omega)) ?_
  refine GL_concat (i:=15) (ch:=[]) (s:=(ByteArray.mk #[48,49,50,51,52,53,54,55,56,57,97,98,99,100,101,102]).extract (Int.toNat (IntKind.wrap .u8 (Int.tdiv (byt l k) 16))) (Int.toNat (IntKind.wrap .u8 ((IntKind.wrap .u8 (Int.tdiv (byt l k) 16))+1)))) (u:=(ByteArray.mk #[48,49,50,51,52,53,54,55,56,57,97,98,99,100,101,102]).extract (Int.toNat (Int.tmod (byt l k) 16)) (Int.toNat (IntKind.wrap .u8 ((Int.tmod (byt l k) 16)+1)))) rfl rfl kr kr kr kr kr (by have hbd:=hx_bd (byt l k) (byt_rng l k); have:=lit16; first | omega | (simp only [ByteArray.size_append,ByteArray.size_extract]; omega)) ?_
  refine GL_concat (i:=16) (ch:=[]) (s:=hxs l k) (u:=((ByteArray.mk #[48,49,50,51,52,53,54,55,56,57,97,98,99,100,101,102]).extract (Int.toNat (IntKind.wrap .u8 (Int.tdiv (byt l k) 16))) (Int.toNat (IntKind.wrap .u8 ((IntKind.wrap .u8 (Int.tdiv (byt l k) 16))+1))))++((ByteArray.mk #[48,49,50,51,52,53,54,55,56,57,97,98,99,100,101,102]).extract (Int.toNat (Int.tmod (byt l k) 16)) (Int.toNat (IntKind.wrap .u8 ((Int.tmod (byt l k) 16)+1))))) rfl rfl kr kr kr kr kr (by have hbd:=hx_bd (byt l k) (byt_rng l k); have:=lit16; first | omega | (simp only [ByteArray.size_append,ByteArray.size_extract]; omega)) ?_
  refine GL_fin (E':=[⟨3,[],.string ((hxs l k)++(((ByteArray.mk #[48,49,50,51,52,53,54,55,56,57,97,98,99,100,101,102]).extract (Int.toNat (IntKind.wrap .u8 (Int.tdiv (byt l k) 16))) (Int.toNat (IntKind.wrap .u8 ((IntKind.wrap .u8 (Int.tdiv (byt l k) 16))+1))))++((ByteArray.mk #[48,49,50,51,52,53,54,55,56,57,97,98,99,100,101,102]).extract (Int.toNat (Int.tmod (byt l k) 16)) (Int.toNat (IntKind.wrap .u8 ((Int.tmod (byt l k) 16)+1))))))⟩,⟨7,[],.slice ba l.length bc⟩,⟨8,[],.int .i64 ((l.length : Nat) : Int)⟩,⟨9,[],.int .i64 ((k : Nat) : Int)⟩]) [0] [3,7,8,9] rfl kr ?_
  refine N_env (E':=[⟨3,[],.string (hxs l (k+1))⟩,⟨7,[],.slice ba l.length bc⟩,⟨8,[],.int .i64 ((l.length : Nat) : Int)⟩,⟨9,[],.int .i64 ((k : Nat) : Int)⟩]) (by rw [← hxs_succ l hlt]; kernel_rfl) ?_
  refine N_block ?_
  refine N_then ?_
  refine G_region ?_
  refine GL_p [0] kr (j:=1) rfl ?_
  refine GL_wi 30 (((k : Nat) : Int)+1) (by omega) (by omega) kr ?_
  refine GL_fin (E':=[⟨3,[],.string (hxs l (k+1))⟩,⟨7,[],.slice ba l.length bc⟩,⟨8,[],.int .i64 ((l.length : Nat) : Int)⟩,⟨9,[],.int .i64 (((k : Nat) : Int)+1)⟩]) [0] [3,7,8,9] rfl kr ?_
  refine N_round (s':=(k+1)) [3,7,8,9] kr rfl (by omega) (by omega)
 ·
  have hke : k = l.length := by (have h9 := of_decide_eq_false hc1; omega)
  refine G_exit ?_
  refine N_then_exit ?_
  refine N_then_exit ?_
  refine N_block_exit ?_
  refine N_then ?_
  refine G_seq ?_
  refine G_pure (E':=[⟨2,[],.string (hxs l k)⟩]) [0,0] [2] rfl kr ?_
  refine N_then ?_
  refine G_ret ?_
  refine N_ret [.tmp 2] [.string (hxs l k)] rfl kr rfl ?_
  exact ⟨by rw [hke]; rfl, rfl⟩
theorem rhexM (t : List UInt8) (ba : Option Addr) (bc : Nat) (S : Nat → Obj → Prop) (hrd : Rd S ba (u8s (sumB t))) (W0 : World) (H : List Grp) (hS : ∀ y o, S y o → At W0 H y o) :
    Tri Tryz.prog 80 #[.slice ba 32 bc] W0 H (fun v H' => v = .string (hexM t) ∧ H' = H) := rhex_ ba bc S (sumB t) hrd (show 32 ≤ 1000 by omega) W0 H hS
theorem rline_ (s : ByteArray) (hs : s.size ≤ 1099511627776) (W0 : World) (H : List Grp) : Tri Tryz.prog 43 #[.string s] W0 H (fun v H' => v = .string (lineB s) ∧ H' = H) := by
 refine Tri_of (args := [.string s]) (n := 12) Tryz.func43 rfl rfl (Nat.le_of_ble_eq_true rfl) ?_
 refine G_seq ?_
 refine G_pure (E':=[⟨0,[],.string s⟩]) [0] [0] rfl kr ?_
 refine N_then ?_
 refine G_seq ?_
 refine G_region ?_
 refine GL_p [0] kr (j:=1) rfl ?_
 refine GL_strBytes (i:=1) (ch:=[]) (src:=9) (dst:=22) (e:=5) (s:=s) rfl rfl kr kr kr kr kr kr kr (fun b1 cap2 g3 hcap4 hrd5=>?_)
 refine GL_call (i:=2) (ch:=[]) (f:=81) (fst:=#[]) (caps:=#[]) (vs:=[.slice (some ⟨b1,0,none⟩) s.size cap2]) rfl rfl rfl kr kr Tryz.func81 rfl rfl kr kr (chSure_of kr) (rsum_ (some ⟨b1,0,none⟩) cap2 (inG g3) s.data.toList hrd5 (fun h=>by cases h) (by rw [Array.length_toList]; show ByteArray.size _ ≤ _; omega) _ _ (at_inG 0 rfl)) ?_
 rintro v H' ⟨a8, cap9, g6, rfl, hO7, rfl⟩
 refine GL_callQ (i:=3) (ch:=[]) (f:=80) (fst:=#[]) (caps:=#[]) (vs:=[.slice a8 32 cap9]) (v:=.string (hexM s.data.toList)) rfl rfl rfl kr kr Tryz.func80 rfl rfl kr kr kr (fun _=>rhexM s.data.toList a8 cap9 (inG g6) (own_rd hO7) _ _ (at_inG 0 rfl)) ?_
 refine GL_sliceS (i:=4) (ch:=[]) (s:=hexM s.data.toList) (vl:=none) (vh:=(some (.int .i64 16))) (l:=0) (h:=16) rfl rfl kr kr kr kr kr kr kr kr kr (by have:=hexM_size s.data.toList; first | (simp only [ByteArray.size_append,ByteArray.size_extract]; (try rw [this]); (try simp only [show ∀ x : UInt8,(ByteArray.mk #[x]).size = 1 from fun _=>rfl]); omega) | omega) ?_
 refine GL_concat (i:=5) (ch:=[]) (s:=(hexM s.data.toList).extract 0 16) (u:=(ByteArray.mk #[32])) rfl rfl kr kr kr kr kr (by have:=hexM_size s.data.toList; first | (simp only [ByteArray.size_append,ByteArray.size_extract]; (try rw [this]); (try simp only [show ∀ x : UInt8,(ByteArray.mk #[x]).size = 1 from fun _=>rfl]); omega) | omega) ?_
 refine GL_p [0] kr (j:=7) rfl ?_
 refine GL_concat (i:=7) (ch:=[]) (s:=((hexM s.data.toList).extract 0 16)++(ByteArray.mk #[32])) (u:=s) rfl rfl kr kr kr kr kr (by have:=hexM_size s.data.toList; first | (simp only [ByteArray.size_append,ByteArray.size_extract]; (try rw [this]); (try simp only [show ∀ x : UInt8,(ByteArray.mk #[x]).size = 1 from fun _=>rfl]); omega) | omega) ?_
 refine GL_concat (i:=8) (ch:=[]) (s:=(((hexM s.data.toList).extract 0 16)++(ByteArray.mk #[32]))++s) (u:=(ByteArray.mk #[10])) rfl rfl kr kr kr kr kr (by have:=hexM_size s.data.toList; first | (simp only [ByteArray.size_append,ByteArray.size_extract]; (try rw [this]); (try simp only [show ∀ x : UInt8,(ByteArray.mk #[x]).size = 1 from fun _=>rfl]); omega) | omega) ?_
 refine GL_fin (E':=[⟨2,[],.string (((((hexM s.data.toList).extract 0 16)++(ByteArray.mk #[32]))++s)++(ByteArray.mk #[10]))⟩]) [0] [2] rfl kr ?_
 refine N_then ?_
 refine G_ret ?_
 refine N_heap (H':=(g6::H)) (fun w h=>h.erase 1) ?_
 refine N_heap (H':=H) (fun w h=>h.erase 0) ?_
 refine N_ret [.tmp 2] [.string (((((hexM s.data.toList).extract 0 16)++(ByteArray.mk #[32]))++s)++(ByteArray.mk #[10]))] rfl kr rfl ?_
 exact ⟨rfl, rfl⟩
theorem rright_ (s : ByteArray) (hs : s.size ≤ 1099511627776) (W0 : World) (H : List Grp) : Tri Tryz.prog 31 #[.string s] W0 H (fun v H' => v = .bool (rightJ s) ∧ H' = H) := by
 refine Tri_of (args := [.string s]) (n := 17) Tryz.func31 rfl rfl (Nat.le_of_ble_eq_true rfl) ?_
 refine G_seq ?_
 refine G_pure (E':=[⟨0,[],.string s⟩]) [0] [0] rfl kr ?_
 refine N_then ?_
 refine G_seq ?_
 refine G_seq ?_
 refine G_pure (E':=[⟨0,[],.string s⟩,⟨3,[],.int .i64 0⟩]) [0] [0,3] rfl kr ?_
 refine N_then ?_
 refine G_block ?_
 refine G_loop (EI:=(fun ξ : Nat=>[⟨0,[],.string s⟩,⟨3,[],.int .i64 ((ξ : Nat) : Int)⟩])) (HI:=(fun ξ : Nat=>H)) (Φ:=(fun ξ : Nat=>(ξ ≤ s.size)∧(noB s 10 ξ))) (μ:=(fun ξ : Nat=>s.size - ξ)) (s0:=(0)) [0,3] kr rfl ⟨(by omega),noB_zero⟩ ?_
 rintro k ⟨hk, hno⟩
 refine G_seq ?_
 refine G_seq ?_
 refine G_pure (E':=[⟨0,[],.string s⟩,⟨3,[],.int .i64 ((k : Nat) : Int)⟩,⟨7,[],.bool (decide (((k : Nat) : Int) < (s.size : Int)))⟩]) [0,0,0,0] [0,3,7] rfl kr ?_
 refine N_then ?_
 refine G_cond (b:=decide (((k : Nat) : Int) < (s.size : Int))) kr (fun hc1=>?_) (fun hc1=>?_)
 ·
  have hlt : k < s.size := by (have h9 := of_decide_eq_true hc1; omega)
  refine G_skip ?_
  refine N_then ?_
  refine G_seq ?_
  refine G_block ?_
  refine G_seq ?_
  refine G_region ?_
  refine GL_p [0,0] kr (j:=2) rfl ?_
  refine GL_index (i:=2) (ch:=[]) (s:=s) (kd:=.i64) (j:=((k : Nat) : Int)) rfl rfl kr kr kr kr kr kr (fun _=>by omega) ?_
  have hb2 := byteAt_rng s ((k : Nat) : Int)
  refine GL_fin (E':=[⟨0,[],.string s⟩,⟨3,[],.int .i64 ((k : Nat) : Int)⟩,⟨13,[],.bool ((byteAt s ((k : Nat) : Int)) == 10)⟩]) [0] [0,3,13] rfl kr ?_
  refine N_then ?_
  refine G_cond (b:=(byteAt s ((k : Nat) : Int)) == 10) kr (fun hc3=>?_) (fun hc3=>?_)
  ·
   have heq : byteAt s k = 10 := by simpa using hc3
   refine G_seq ?_
   refine G_pure (E':=[⟨2,[],.bool false⟩]) [0] [2] rfl kr ?_
   refine N_then ?_
   refine G_ret ?_
   refine N_block_ret ?_
   refine N_then_ret ?_
   refine N_then_ret ?_
   refine N_block_ret ?_
   refine N_then_ret ?_
   refine N_ret [.tmp 2] [.bool false] rfl kr rfl ?_
   exact ⟨by rw [right_hit hlt heq]; rfl, rfl⟩
  ·
   have hne : byteAt s k ≠ 10 := by simpa using hc3
   refine G_skip ?_
   refine N_block ?_
   refine N_then ?_
   refine G_region ?_
   refine GL_p [0,0] kr (j:=2) rfl ?_
   refine GL_wi 9 (((k : Nat) : Int)+1) (by omega) (by omega) kr ?_
   refine GL_fin (E':=[⟨0,[],.string s⟩,⟨3,[],.int .i64 (((k : Nat) : Int)+1)⟩]) [0] [0,3] rfl kr ?_
   refine N_round (s':=(k+1)) [0,3] kr rfl ⟨(by omega),(noB_succ hno hne)⟩ (by omega)
 ·
  have hke : k = s.size := by (have h9 := of_decide_eq_false hc1; omega)
  refine G_exit ?_
  refine N_then_exit ?_
  refine N_then_exit ?_
  refine N_block_exit ?_
  refine N_then ?_
  refine G_seq ?_
  refine G_pure (E':=[⟨2,[],.bool (decide ((s.size : Int) ≤ 1048576))⟩]) [0,0,0,0] [2] rfl kr ?_
  refine N_then ?_
  refine G_ret ?_
  refine N_ret [.tmp 2] [.bool (decide ((s.size : Int) ≤ 1048576))] rfl kr rfl ?_
  exact ⟨by rw [right_end (hke ▸ hno)]; rfl, rfl⟩
theorem rparse_ (s : ByteArray) (hs : s.size ≤ 1099511627776) (W0 : World) (H : List Grp) : Tri Tryz.prog 12 #[.string s] W0 H (fun v H' => ∃ a c g, v = .tuple #[.slice a (parseB s).1.length c, .int .i64 ((linesB (parseB s).1).size : Int)] ∧ Go.Sw.Own 9 1 (.slice a (parseB s).1.length c) g (parseB s).1.length (strs (parseB s).1) ∧ H' = g :: H) := by
 refine Tri_of (args := [.string s]) (n := 58) Tryz.func12 rfl rfl (Nat.le_of_ble_eq_true rfl) ?_
 refine G_seq ?_
 refine G_pure (E':=[⟨0,[],.string s⟩]) [0,0] [0] rfl kr ?_
 refine N_then ?_
 refine G_seq ?_
 refine G_pure (E':=[⟨0,[],.string s⟩,⟨4,[],.slice none 0 0⟩]) [0] [0,4] rfl kr ?_
 refine N_then ?_
 refine G_seq ?_
 refine G_pure (E':=[⟨0,[],.string s⟩,⟨4,[],.slice none 0 0⟩,⟨5,[],.int .i64 0⟩]) [0] [0,4,5] rfl kr ?_
 refine N_then ?_
 refine G_seq ?_
 refine G_seq ?_
 refine G_pure (E':=[⟨0,[],.string s⟩,⟨4,[],.slice none 0 0⟩,⟨5,[],.int .i64 0⟩,⟨6,[],.int .i64 0⟩]) [0] [0,4,5,6] rfl kr ?_
 refine N_then ?_
 refine G_block ?_
 refine G_heap (H':=([]::H)) (fun w h=>Sat.flat h (List.Perm.refl _)) ?_
 refine G_loop (EI:=(fun ξ : Nat × List ByteArray × Option Addr × Nat × Grp=>[⟨0,[],.string s⟩,⟨4,[],.slice ξ.2.2.1 ξ.2.1.length ξ.2.2.2.1⟩,⟨5,[],.int .i64 ((linesB ξ.2.1).size : Int)⟩,⟨6,[],.int .i64 ((ξ.1 : Nat) : Int)⟩])) (HI:=(fun ξ : Nat × List ByteArray × Option Addr × Nat × Grp=>(ξ.2.2.2.2::H))) (Φ:=(fun ξ : Nat × List ByteArray × Option Addr × Nat × Grp=>(PI s ξ.2.1 ξ.1)∧(Go.Sw.Own 9 1 (.slice ξ.2.2.1 ξ.2.1.length ξ.2.2.2.1) ξ.2.2.2.2 ξ.2.1.length (strs ξ.2.1)))) (μ:=(fun ξ : Nat × List ByteArray × Option Addr × Nat × Grp=>s.size - ξ.1)) (s0:=(0,[],none,0,[])) [0,4,5,6] kr rfl ⟨(pi0 s),Go.Sw.Own.nil⟩ ?_
 rintro ⟨i, ts, a, c, g⟩ ⟨hp, ho⟩
 dsimp only at hp ho
 have hle := hp.le
 have hile := hp.ile
 have hlen := hp.at_.len
 refine G_seq ?_
 refine G_seq ?_
 refine G_pure (E':=[⟨0,[],.string s⟩,⟨4,[],.slice a ts.length c⟩,⟨5,[],.int .i64 ((linesB ts).size : Int)⟩,⟨6,[],.int .i64 ((i : Nat) : Int)⟩,⟨10,[],.bool (decide (((i : Nat) : Int) < (s.size : Int)))⟩]) [0,0,0,0] [0,4,5,6,10] rfl kr ?_
 refine N_then ?_
 refine G_cond (b:=decide (((i : Nat) : Int) < (s.size : Int))) kr (fun hc1=>?_) (fun hc1=>?_)
 ·
  have hlt : i < s.size := by (have h9 := of_decide_eq_true hc1; omega)
  refine G_skip ?_
  refine N_then ?_
  refine G_seq ?_
  refine G_block ?_
  refine G_seq ?_
  refine G_seq ?_
  refine G_region ?_
  refine GL_p [0,0] kr (j:=2) rfl ?_
  refine GL_index (i:=2) (ch:=[]) (s:=s) (kd:=.i64) (j:=((i : Nat) : Int)) rfl rfl kr kr kr kr kr kr (by omega) ?_
  have hb2 := byteAt_rng s ((i : Nat) : Int)
  refine GL_fin (E':=[⟨0,[],.string s⟩,⟨4,[],.slice a ts.length c⟩,⟨5,[],.int .i64 ((linesB ts).size : Int)⟩,⟨6,[],.int .i64 ((i : Nat) : Int)⟩,⟨16,[],.bool ((byteAt s ((i : Nat) : Int)) != 10)⟩]) [0] [0,4,5,6,16] rfl kr ?_
  refine N_then ?_
  refine G_cond (b:=(byteAt s ((i : Nat) : Int)) != 10) kr (fun hc3=>?_) (fun hc3=>?_)
  ·
   have hne : byteAt s i ≠ 10 := by simpa using hc3
   refine G_exit ?_
   refine N_then_exit ?_
   refine N_block_exit ?_
   refine N_then ?_
   refine G_region ?_
   refine GL_p [0,0] kr (j:=2) rfl ?_
   refine GL_wi 12 (((i : Nat) : Int)+1) (by omega) (by omega) kr ?_
   refine GL_fin (E':=[⟨0,[],.string s⟩,⟨4,[],.slice a ts.length c⟩,⟨5,[],.int .i64 ((linesB ts).size : Int)⟩,⟨6,[],.int .i64 (((i : Nat) : Int)+1)⟩]) [0] [0,4,5,6] rfl kr ?_
   refine N_round (s':=(i+1,ts,a,c,g)) [0,4,5,6] kr rfl ⟨(hp.skip hlt hne),ho⟩ (by dsimp only; omega)
  ·
   have heq : byteAt s i = 10 := by simpa using hc3
   refine G_skip ?_
   refine N_then ?_
   refine G_seq ?_
   refine G_seq ?_
   refine G_regionD kr kr ?_
   refine GL_p [0,0,0] kr (j:=3) rfl ?_
   refine GL_wi 19 (((i : Nat) : Int) - ((linesB ts).size : Int)) (by omega) (by omega) kr ?_
   have hw6 : IntKind.wrap .i64 (((linesB ts).size : Int) + 17) = ((linesB ts).size : Int) + 17 := w64 (by omega) (by omega)
   refine GL_pure (E':=[⟨25,[(21,false)],.int .i64 ((i : Nat) : Int)⟩,⟨24,[(21,false)],.int .i64 (((linesB ts).size : Int)+17)⟩,⟨22,[(21,false)],.string s⟩,⟨21,[],.bool (decide ((((i : Nat) : Int) - ((linesB ts).size : Int)) < 17))⟩,⟨0,[],.string s⟩,⟨4,[],.slice a ts.length c⟩,⟨5,[],.int .i64 ((linesB ts).size : Int)⟩,⟨6,[],.int .i64 ((i : Nat) : Int)⟩]) [0,0,0,0,0,0] (Eq.trans (b:=some [⟨25,[(21,false)],.int .i64 ((i : Nat) : Int)⟩,⟨24,[(21,false)],.int .i64 (IntKind.wrap .i64 (((linesB ts).size : Int)+17))⟩,⟨22,[(21,false)],.string s⟩,⟨21,[],.bool (decide ((((i : Nat) : Int) - ((linesB ts).size : Int)) < 17))⟩,⟨0,[],.string s⟩,⟨4,[],.slice a ts.length c⟩,⟨5,[],.int .i64 ((linesB ts).size : Int)⟩,⟨6,[],.int .i64 ((i : Nat) : Int)⟩]) kr (by simp only [hw6])) (j:=9) rfl ?_
   refine GL_sliceS (i:=9) (ch:=[(21,false)]) (s:=s) (vl:=(some (.int .i64 (((linesB ts).size : Int)+17)))) (vh:=(some (.int .i64 ((i : Nat) : Int)))) (l:=((linesB ts).size : Int)+17) (h:=((i : Nat) : Int)) rfl rfl kr kr kr kr kr kr kr kr kr (fun hc=>by have hg0:=chB_hd (t:=21) (c:=[]) (b:=decide ((((i : Nat) : Int) - ((linesB ts).size : Int)) < 17)) hc kr; first | omega | (simp only [decide_eq_false_iff_not] at hg0; omega) | (have h8:=(Bool.or_eq_false_iff.1 hg0).1; simp only [decide_eq_false_iff_not] at h8; omega)) ?_
   refine GL_callQ (i:=10) (ch:=[(21,false)]) (f:=43) (fst:=#[]) (caps:=#[]) (vs:=[.string (s.extract (Int.toNat (((linesB ts).size : Int)+17)) i)]) (v:=.string (lineB (s.extract (Int.toNat (((linesB ts).size : Int)+17)) i))) rfl rfl rfl kr kr Tryz.func43 rfl rfl kr kr kr (fun hc=>rline_ (s.extract (Int.toNat (((linesB ts).size : Int)+17)) i) (by simp only [ByteArray.size_extract]; omega) _ _) ?_
   have hw7 : IntKind.wrap .i64 (((i : Nat) : Int) + 1) = ((i : Nat) : Int) + 1 := w64 (by omega) (by omega)
   refine GL_pure (E':=[⟨31,[(21,false)],.int .i64 (((i : Nat) : Int)+1)⟩,⟨29,[(21,false)],.int .i64 ((linesB ts).size : Int)⟩,⟨28,[(21,false)],.string s⟩,⟨27,[(21,false)],.string (lineB (s.extract (Int.toNat (((linesB ts).size : Int)+17)) i))⟩,⟨21,[],.bool (decide ((((i : Nat) : Int) - ((linesB ts).size : Int)) < 17))⟩,⟨0,[],.string s⟩,⟨4,[],.slice a ts.length c⟩,⟨5,[],.int .i64 ((linesB ts).size : Int)⟩,⟨6,[],.int .i64 ((i : Nat) : Int)⟩]) [0,0,0,0] (Eq.trans (b:=some [⟨31,[(21,false)],.int .i64 (IntKind.wrap .i64 (((i : Nat) : Int)+1))⟩,⟨29,[(21,false)],.int .i64 ((linesB ts).size : Int)⟩,⟨28,[(21,false)],.string s⟩,⟨27,[(21,false)],.string (lineB (s.extract (Int.toNat (((linesB ts).size : Int)+17)) i))⟩,⟨21,[],.bool (decide ((((i : Nat) : Int) - ((linesB ts).size : Int)) < 17))⟩,⟨0,[],.string s⟩,⟨4,[],.slice a ts.length c⟩,⟨5,[],.int .i64 ((linesB ts).size : Int)⟩,⟨6,[],.int .i64 ((i : Nat) : Int)⟩]) kr (by simp only [hw7])) (j:=15) rfl ?_
   refine GL_sliceS (i:=15) (ch:=[(21,false)]) (s:=s) (vl:=(some (.int .i64 ((linesB ts).size : Int)))) (vh:=(some (.int .i64 (((i : Nat) : Int)+1)))) (l:=((linesB ts).size : Int)) (h:=((i : Nat) : Int)+1) rfl rfl kr kr kr kr kr kr kr kr kr (fun hc=>by have hg0:=chB_hd (t:=21) (c:=[]) (b:=decide ((((i : Nat) : Int) - ((linesB ts).size : Int)) < 17)) hc kr; first | omega | (simp only [decide_eq_false_iff_not] at hg0; omega) | (have h8:=(Bool.or_eq_false_iff.1 hg0).1; simp only [decide_eq_false_iff_not] at h8; omega)) ?_
   have hw8 : IntKind.wrap .i64 (((linesB ts).size : Int) + 17) = ((linesB ts).size : Int) + 17 := w64 (by omega) (by omega)
   refine GL_pure (E':=[⟨39,[(35,false)],.int .i64 ((i : Nat) : Int)⟩,⟨38,[(35,false)],.int .i64 (((linesB ts).size : Int)+17)⟩,⟨36,[(35,false)],.string s⟩,⟨35,[],.bool ((decide ((((i : Nat) : Int) - ((linesB ts).size : Int)) < 17))||(!((lineB (s.extract (Int.toNat (((linesB ts).size : Int)+17)) i)).toList == (s.extract (linesB ts).size (Int.toNat (((i : Nat) : Int)+1))).toList)))⟩,⟨0,[],.string s⟩,⟨4,[],.slice a ts.length c⟩,⟨5,[],.int .i64 ((linesB ts).size : Int)⟩,⟨6,[],.int .i64 ((i : Nat) : Int)⟩]) [0,5,0,0,0,0,0] (Eq.trans (b:=some [⟨39,[(35,false)],.int .i64 ((i : Nat) : Int)⟩,⟨38,[(35,false)],.int .i64 (IntKind.wrap .i64 (((linesB ts).size : Int)+17))⟩,⟨36,[(35,false)],.string s⟩,⟨35,[],.bool ((decide ((((i : Nat) : Int) - ((linesB ts).size : Int)) < 17))||(!((lineB (s.extract (Int.toNat (((linesB ts).size : Int)+17)) i)).toList == (s.extract (linesB ts).size (Int.toNat (((i : Nat) : Int)+1))).toList)))⟩,⟨0,[],.string s⟩,⟨4,[],.slice a ts.length c⟩,⟨5,[],.int .i64 ((linesB ts).size : Int)⟩,⟨6,[],.int .i64 ((i : Nat) : Int)⟩]) kr (by simp only [hw8])) (j:=23) rfl ?_
   refine GL_sliceS (i:=23) (ch:=[(35,false)]) (s:=s) (vl:=(some (.int .i64 (((linesB ts).size : Int)+17)))) (vh:=(some (.int .i64 ((i : Nat) : Int)))) (l:=((linesB ts).size : Int)+17) (h:=((i : Nat) : Int)) rfl rfl kr kr kr kr kr kr kr kr kr (fun hc=>by have hg0:=chB_hd (t:=35) (c:=[]) (b:=(decide ((((i : Nat) : Int) - ((linesB ts).size : Int)) < 17))||(!((lineB (s.extract (Int.toNat (((linesB ts).size : Int)+17)) i)).toList == (s.extract (linesB ts).size (Int.toNat (((i : Nat) : Int)+1))).toList))) hc kr; first | omega | (simp only [decide_eq_false_iff_not] at hg0; omega) | (have h8:=(Bool.or_eq_false_iff.1 hg0).1; simp only [decide_eq_false_iff_not] at h8; omega)) ?_
   refine GL_callQ (i:=24) (ch:=[(35,false)]) (f:=31) (fst:=#[]) (caps:=#[]) (vs:=[.string (s.extract (Int.toNat (((linesB ts).size : Int)+17)) i)]) (v:=.bool (rightJ (s.extract (Int.toNat (((linesB ts).size : Int)+17)) i))) rfl rfl rfl kr kr Tryz.func31 rfl rfl kr kr kr (fun hc=>rright_ (s.extract (Int.toNat (((linesB ts).size : Int)+17)) i) (by simp only [ByteArray.size_extract]; omega) _ _) ?_
   refine GL_fin (E':=[⟨0,[],.string s⟩,⟨4,[],.slice a ts.length c⟩,⟨5,[],.int .i64 ((linesB ts).size : Int)⟩,⟨6,[],.int .i64 ((i : Nat) : Int)⟩,⟨43,[],.bool (((decide ((((i : Nat) : Int) - ((linesB ts).size : Int)) < 17))||(!((lineB (s.extract (Int.toNat (((linesB ts).size : Int)+17)) i)).toList == (s.extract (linesB ts).size (Int.toNat (((i : Nat) : Int)+1))).toList)))||(!(rightJ (s.extract (Int.toNat (((linesB ts).size : Int)+17)) i))))⟩]) [0,5] [0,4,5,6,43] rfl kr ?_
   refine N_then ?_
   refine G_cond (b:=((decide ((((i : Nat) : Int) - ((linesB ts).size : Int)) < 17))||(!((lineB (s.extract (Int.toNat (((linesB ts).size : Int)+17)) i)).toList == (s.extract (linesB ts).size (Int.toNat (((i : Nat) : Int)+1))).toList)))||(!(rightJ (s.extract (Int.toNat (((linesB ts).size : Int)+17)) i)))) kr (fun hc9=>?_) (fun hc9=>?_)
   ·
    have hpe := hp.bad hlt heq ((bad_def s _ i _ _ (by omega) (by omega)).symm.trans hc9)
    refine G_seq ?_
    refine G_pure (E':=[⟨2,[],.slice a ts.length c⟩,⟨3,[],.int .i64 ((linesB ts).size : Int)⟩]) [0,0,0,0] [2,3] rfl kr ?_
    refine N_then ?_
    refine G_ret ?_
    refine N_then_ret ?_
    refine N_block_ret ?_
    refine N_then_ret ?_
    refine N_then_ret ?_
    refine N_block_ret ?_
    refine N_then_ret ?_
    refine N_ret [.tmp 2,.tmp 3] [.slice a ts.length c,.int .i64 ((linesB ts).size : Int)] rfl kr rfl ?_
    rw [hpe]
    exact ⟨_, _, _, rfl, ho, rfl⟩
   ·
    have hbf := (bad_def s (linesB ts).size i _ _ (by omega) (by omega)).symm.trans hc9
    have hg := hp.good hlt heq hbf
    have h17 := bad17 hbf
    refine G_skip ?_
    refine N_then ?_
    refine G_seq ?_
    refine G_region ?_
    refine GL_p [0,0,0,0] kr (j:=4) rfl ?_
    refine GL_wi 49 (((linesB ts).size : Int)+17) (by omega) (by omega) kr ?_
    refine GL_p [0] kr (j:=5) rfl ?_
    refine GL_sliceS (i:=5) (ch:=[]) (s:=s) (vl:=(some (.int .i64 (((linesB ts).size : Int)+17)))) (vh:=(some (.int .i64 ((i : Nat) : Int)))) (l:=((linesB ts).size : Int)+17) (h:=((i : Nat) : Int)) rfl rfl kr kr kr kr kr kr kr kr kr (by first | omega | (have:=hg.2; omega)) ?_
    refine GL_buildSlice (i:=6) (ch:=[]) (e:=9) (l:=[(0,.string (s.extract (Int.toNat (((linesB ts).size : Int)+17)) i))]) (c:=[.string (s.extract (Int.toNat (((linesB ts).size : Int)+17)) i)]) rfl rfl kr kr kr kr kr (fun b11=>?_)
    refine GL_append (i:=7) (ch:=[]) (t:=32) (tx:=32) (e:=9) (inf:=Tryz.t9) (s:=.slice a ts.length c) (x:=.slice (some ⟨b11,0,none⟩) 1 1) (n:=ts.length) (m:=1) (j:=1) (cs:=(strs ts)) (news:=[.string (s.extract (Int.toNat (((linesB ts).size : Int)+17)) i)]) (g:=g) (S:=(inG [(b11,.cells #[.string (s.extract (Int.toNat (((linesB ts).size : Int)+17)) i)] 9 (0,0))])) rfl rfl rfl rfl kr kr kr rfl rfl (.inl ⟨9,kr⟩) (fun ⟨_,h⟩=>by cases h) (fun _=>⟨9,kr⟩) kr kr kr rfl ho (SrcOf.slice _ _ _ _ Rd.lit (fun h=>by cases h)) (at_inG 0 rfl) rfl (strs_one (ts:=[s.extract ((linesB ts).size+17) i])) (by omega) (by show (ts.length+1) * 16 ≤ 140737488355328; omega) (fun v12 g13 hO14=>?_)
    obtain ⟨a15, cap16, rfl, hcap17, hrd18⟩ := hO14.shape
    refine GL_fin (E':=[⟨0,[],.string s⟩,⟨4,[],.slice a15 (ts.length+1) cap16⟩,⟨6,[],.int .i64 ((i : Nat) : Int)⟩]) [0] [0,4,6] rfl kr ?_
    refine N_then ?_
    refine G_region ?_
    refine GL_p [0,0] kr (j:=2) rfl ?_
    refine GL_wi 55 (((i : Nat) : Int)+1) (by omega) (by omega) kr ?_
    refine GL_fin (E':=[⟨0,[],.string s⟩,⟨4,[],.slice a15 (ts.length+1) cap16⟩,⟨5,[],.int .i64 (((i : Nat) : Int)+1)⟩,⟨6,[],.int .i64 ((i : Nat) : Int)⟩]) [0] [0,4,5,6] rfl kr ?_
    refine N_block ?_
    refine N_then ?_
    refine G_region ?_
    refine GL_p [0,0] kr (j:=2) rfl ?_
    refine GL_wi 12 (((i : Nat) : Int)+1) (by omega) (by omega) kr ?_
    refine GL_fin (E':=[⟨0,[],.string s⟩,⟨4,[],.slice a15 (ts.length+1) cap16⟩,⟨5,[],.int .i64 (((i : Nat) : Int)+1)⟩,⟨6,[],.int .i64 (((i : Nat) : Int)+1)⟩]) [0] [0,4,5,6] rfl kr ?_
    refine N_env (E':=[⟨0,[],.string s⟩,⟨4,[],.slice a15 ((ts++[s.extract ((linesB ts).size+17) i]).length) cap16⟩,⟨5,[],.int .i64 ((linesB (ts++[s.extract ((linesB ts).size+17) i])).size : Int)⟩,⟨6,[],.int .i64 (((i : Nat) : Int)+1)⟩]) (by rw [hg.2,List.length_append]; rfl) ?_
    refine N_heap (H':=(g13::H)) (fun w h=>(h.erase 0)) ?_
    refine N_round (s':=(i+1,(ts++[s.extract ((linesB ts).size+17) i]),a15,cap16,g13)) [0,4,5,6] kr rfl ⟨hg.1,(own_addS hO14)⟩ (by dsimp only; omega)
 ·
  have hie : i = s.size := by (have h9 := of_decide_eq_false hc1; omega)
  have hpe := hp.end_ hie
  refine G_exit ?_
  refine N_then_exit ?_
  refine N_then_exit ?_
  refine N_block_exit ?_
  refine N_then ?_
  refine G_seq ?_
  refine G_pure (E':=[⟨2,[],.slice a ts.length c⟩,⟨3,[],.int .i64 ((linesB ts).size : Int)⟩]) [0,0,0,0] [2,3] rfl kr ?_
  refine N_then ?_
  refine G_ret ?_
  refine N_ret [.tmp 2,.tmp 3] [.slice a ts.length c,.int .i64 ((linesB ts).size : Int)] rfl kr rfl ?_
  rw [hpe]
  exact ⟨_, _, _, rfl, ho, rfl⟩
end Go.Proofs.YtlaoeiaaeifidaaGreat
namespace Go.Jr
open Go.Sw Go.Lib Go.Vf Go.Sha Go.Proofs.YtlaoeiaaeifidaaGreat
def qJn : ByteArray := pathJ dJ newB
def nm (a b : Option Nat) : List Nm := (match a with | some k => [(pJl, (k : Int))] | none => []) ++ (match b with | some k => [(qJn, (k : Int))] | none => [])
theorem crashB_at : ∀ {Bs : List Body} {ks : List Int} {k : Nat} {B : Body}, Bs[k]? = some B → ∃ x, (crashB Bs ks).1[k]? = some ⟨x, x⟩ ∧ ((B.now.size ≤ B.kept.size ∧ x = B.kept) ∨ ∃ m, B.kept.size ≤ m ∧ x = B.now.extract 0 m)
  | [], _, _, _, h => by simp at h
  | b :: r, ks, 0, B, h => by
    have e : b = B := by simpa using h
    subst e
    unfold crashB
    by_cases hc : (b.now.size : Int) - (b.kept.size : Int) > 0
    · rw [if_pos hc]; exact ⟨_, rfl, .inr ⟨_, Nat.le_add_right _ _, rfl⟩⟩
    · rw [if_neg hc]; exact ⟨_, rfl, .inl ⟨by omega, rfl⟩⟩
  | b :: r, ks, k + 1, B, h => by
    have h' : r[k]? = some B := by simpa using h
    unfold crashB
    by_cases hc : (b.now.size : Int) - (b.kept.size : Int) > 0
    · rw [if_pos hc]; exact crashB_at (ks := ks.drop 1) h'
    · rw [if_neg hc]; exact crashB_at (ks := ks) h'
theorem ext_self {c : ByteArray} {m : Nat} (h : c.size ≤ m) : c.extract 0 m = c := ext_L (by
  rw [exL, List.drop_zero, List.take_of_length_le (by rw [lenL]; exact h)])
theorem crashB_same' {Bs : List Body} {ks : List Int} {k : Nat} {c : ByteArray} (h : Bs[k]? = some ⟨c, c⟩) : (crashB Bs ks).1[k]? = some ⟨c, c⟩ := by
  obtain ⟨x, h1, h2⟩ := crashB_at (ks := ks) h
  have : x = c := by
    rcases h2 with ⟨_, h2⟩ | ⟨m, h2, h3⟩
    · exact h2
    · rw [h3]; exact ext_self h2
  rw [h1, this]
structure Base (lg : Option ByteArray) (M : DM) : Prop where
  room : M.room = 1048576
  once : M.fails = true → M.once = false
  ex : ∃ a b : Option Nat, M.names = nm a b ∧ M.kept = nm a b ∧ M.changes = [] ∧
    (match lg, a with | none, none => True | some c, some k => M.bodies[k]? = some ⟨c, c⟩ ∧ c.size ≤ 60000 | _, _ => False) ∧
    (∀ k, b = some k → ∃ B, M.bodies[k]? = some B ∧ B.now.size ≤ 60000 ∧ B.kept.size ≤ 60000)
theorem crash_none {M : DM} {ks : List Int} (h : M.changes = []) : crashM M ks = { M with bodies := (crashB M.bodies ks).1, names := M.kept, kept := M.kept, changes := [], fails := false } := by
  unfold crashM
  rw [h]
  simp [dirsOf, onceL, sortB, crashD]
theorem Base.crash {lg : Option ByteArray} {M : DM} (h : Base lg M) (ks : List Int) : Base lg (crashM M ks) := by
  obtain ⟨a, b, h1, h2, h3, h4, h5⟩ := h.ex
  rw [crash_none h3]
  refine ⟨h.room, (fun h => by cases h), a, b, h2, h2, rfl, ?_, fun k hk => ?_⟩
  · cases lg <;> cases a <;> simp only at h4 ⊢
    exact ⟨crashB_same' h4.1, h4.2⟩
  · obtain ⟨B, hB, hz⟩ := h5 k hk
    obtain ⟨x, hx, hx2⟩ := crashB_at (ks := ks) hB
    have : x.size ≤ 60000 := by
      rcases hx2 with ⟨h6, rfl⟩ | ⟨m, _, rfl⟩
      · exact hz.2
      · rw [ByteArray.size_extract]; have := hz.1; omega
    exact ⟨_, hx, this, this⟩
theorem app_old {l : List Body} {k : Nat} {B x : Body} (h : l[k]? = some B) : (l ++ [x])[k]? = some B := by
  obtain ⟨hk, _⟩ := List.getElem?_eq_some_iff.1 h
  rw [List.getElem?_append_left hk]; exact h
def LogIn (lg : Option ByteArray) (a : Option Nat) (bs : List Body) : Prop := match lg, a with | none, none => True | some c, some k => bs[k]? = some ⟨c, c⟩ ∧ c.size ≤ 60000 | _, _ => False
def NewIn (b : Option Nat) (bs : List Body) : Prop := ∀ k, b = some k → ∃ B, bs[k]? = some B ∧ B.now.size ≤ 60000 ∧ B.kept.size ≤ 60000
theorem LogIn.app {lg : Option ByteArray} {a : Option Nat} {bs : List Body} (h : LogIn lg a bs) (x : Body) : LogIn lg a (bs ++ [x]) := by
  cases lg <;> cases a <;> simp only [LogIn] at h ⊢
  exact ⟨app_old h.1, h.2⟩
theorem NewIn.app {b : Option Nat} {bs : List Body} (h : NewIn b bs) (x : Body) : NewIn b (bs ++ [x]) := fun k hk => by
  obtain ⟨B, hB, hz⟩ := h k hk
  exact ⟨B, app_old hB, hz⟩
theorem LogIn.crash {lg : Option ByteArray} {a : Option Nat} {bs : List Body} (h : LogIn lg a bs) (ks : List Int) : LogIn lg a (crashB bs ks).1 := by
  cases lg <;> cases a <;> simp only [LogIn] at h ⊢
  exact ⟨crashB_same' h.1, h.2⟩
theorem new_crash {bs : List Body} {k : Nat} {B : Body} (h : bs[k]? = some B) (hz : B.now.size ≤ 60000 ∧ B.kept.size ≤ 60000) (ks : List Int) : ∃ B', (crashB bs ks).1[k]? = some B' ∧ B'.now.size ≤ 60000 ∧ B'.kept.size ≤ 60000 := by
  obtain ⟨x, hx, hx2⟩ := crashB_at (ks := ks) h
  have : x.size ≤ 60000 := by
    rcases hx2 with ⟨h6, rfl⟩ | ⟨m, _, rfl⟩
    · exact hz.2
    · rw [ByteArray.size_extract]; have := hz.1; omega
  exact ⟨_, hx, this, this⟩
theorem NewIn.crash {b : Option Nat} {bs : List Body} (h : NewIn b bs) (ks : List Int) : NewIn b (crashB bs ks).1 := fun k hk => by
  obtain ⟨B, hB, hz⟩ := h k hk
  exact new_crash hB hz ks
theorem Base.of {lg : Option ByteArray} {M : DM} {a b : Option Nat} (h1 : M.room = 1048576) (h2 : M.fails = true → M.once = false) (h3 : M.names = nm a b) (h4 : M.kept = nm a b) (h5 : M.changes = []) (h6 : LogIn lg a M.bodies) (h7 : NewIn b M.bodies) : Base lg M := ⟨h1, h2, a, b, h3, h4, h5, h6, h7⟩
theorem Base.parts {lg : Option ByteArray} {M : DM} (h : Base lg M) : ∃ a b : Option Nat, M.names = nm a b ∧ M.kept = nm a b ∧ M.changes = [] ∧ LogIn lg a M.bodies ∧ NewIn b M.bodies := h.ex
theorem LogIn.set {c : ByteArray} {k : Nat} {bs : List Body} (h : LogIn (some c) (some k) bs) : k < bs.length := (List.getElem?_eq_some_iff.1 h.1).1
theorem NewIn.set {b : Option Nat} {bs : List Body} (h : NewIn b bs) (k : Nat) {x : Body} (hz : x.now.size ≤ 60000 ∧ x.kept.size ≤ 60000) : NewIn b (bs.set k x) := fun j hj => by
  obtain ⟨B, hB, hBz⟩ := h j hj
  by_cases e : k = j
  · subst e
    have := (List.getElem?_eq_some_iff.1 hB).1
    exact ⟨x, by simp [this], hz⟩
  · exact ⟨B, by rw [List.getElem?_set_ne e]; exact hB, hBz⟩
end Go.Jr
namespace Go.Jr
open Go.Sw Go.Lib Go.Vf Go.Sha Go.Proofs.YtlaoeiaaeifidaaGreat
theorem split_lf {all : ByteArray} (h : ¬ lf all < 0) : (all.extract 0 (lf all).toNat ++ lfB) ++ all.extract ((lf all).toNat + 1) all.size = all := by
  rcases bIdx_spec all (c := 10) (by omega) (by omega) with ⟨k, hk, he, hb, _⟩ | ⟨he, _⟩
  · have e : lf all = k := he
    rw [e, Int.toNat_natCast]
    rw [byteAt_lt hk] at hb
    have h10 := u8_10 hb
    refine ext_L ?_
    have hk' : k < all.data.toList.length := by rw [lenL]; exact hk
    rw [toL, toL, exL, exL, List.drop_zero, show all.size = all.data.toList.length from (lenL all).symm, List.take_length]
    show (all.data.toList.take k ++ [10]) ++ all.data.toList.drop (k + 1) = all.data.toList
    rw [List.append_assoc, ← h10]
    rw [show [all.data.toList[k]] ++ all.data.toList.drop (k + 1) = all.data.toList.drop k from (List.drop_eq_getElem_cons hk').symm, List.take_append_drop]
  · exact absurd (show lf all < 0 by rw [lf, he]; omega) h
theorem cut_eq {all t r : ByteArray} (h : cutL all = some (t, r)) : rightJ t = true ∧ lineB t ++ r = all := by
  unfold cutL at h
  split at h
  · simp at h
  · rename_i h1
    split at h
    · rename_i h2
      simp only [Option.some.injEq, Prod.mk.injEq] at h
      obtain ⟨rfl, rfl⟩ := h
      refine ⟨(ok_line h2).2, ?_⟩
      rw [(ok_line h2).1]
      exact split_lf h1
    · simp at h
theorem parse_eq : ∀ (n : Nat) (all : ByteArray), all.size ≤ n → (∀ t ∈ (parseB all).1, rightJ t = true) ∧ linesB (parseB all).1 ++ (parseB all).2 = all := by
  intro n
  induction n with
  | zero =>
    intro all h
    cases hc : cutL all with
    | none => rw [parseB_none hc]; exact ⟨fun _ h => absurd h List.not_mem_nil, ByteArray.empty_append⟩
    | some x => have := cutL_lt (t := x.1) (r := x.2) hc; omega
  | succ n ih =>
    intro all h
    cases hc : cutL all with
    | none => rw [parseB_none hc]; exact ⟨fun _ h => absurd h List.not_mem_nil, ByteArray.empty_append⟩
    | some x =>
      obtain ⟨t, r⟩ := x
      have h1 := cutL_lt hc
      obtain ⟨h2, h3⟩ := ih r (by omega)
      obtain ⟨h4, h5⟩ := cut_eq hc
      rw [parseB_some hc]
      refine ⟨fun u hu => ?_, ?_⟩
      · rcases List.mem_cons.1 hu with rfl | hu
        · exact h4
        · exact h2 u hu
      · show (lineB t ++ linesB (parseB r).1) ++ (parseB r).2 = all
        rw [ByteArray.append_assoc, h3, h5]
theorem parse_right (c : ByteArray) : ∀ t ∈ (parseB c).1, rightJ t = true := (parse_eq c.size c (Nat.le_refl _)).1
theorem parse_back (c : ByteArray) : linesB (parseB c).1 ++ (parseB c).2 = c := (parse_eq c.size c (Nat.le_refl _)).2
theorem parse_size (c : ByteArray) : (linesB (parseB c).1).size ≤ c.size := by
  have := congrArg ByteArray.size (parse_back c)
  rw [ByteArray.size_append] at this; omega
theorem sI_sdir {z w i : Nat} {M : DM} (h : ScrI z w i M) (d : ByteArray) : ScrI z w i (syncDirM M d).2 := by
  have hc := scr_call h (dirR d)
  by_cases he : errM M (dirR d) = 0
  · rw [syncDirM_ok he]
    have e1 := fold_len (chOf M.changes d) M.kept
    have e2 := addsC_split M.changes d
    have e3 : M.kept.length + addsC M.changes ≤ w := hc.kept
    have e4 : M.changes.length ≤ w := hc.changes
    have e5 := List.length_filter_le (fun c : Ch => !(d == c.dir)) M.changes
    refine ⟨hc.bodies, hc.size, hc.names, ?_, ?_, hc.calls, hc.rn, right_fold hc.rk fun x hx => ?_, fun c hm => hc.rc c (List.mem_filter.1 hm).1⟩
    · show ((chOf M.changes d).foldl applyN M.kept).length + addsC (M.changes.filter _) ≤ w
      omega
    · show (M.changes.filter _).length ≤ w
      omega
    · obtain ⟨c, hm, rfl⟩ := chOf_mem hx
      exact (hc.rc c hm).1
  · rw [syncDirM_err he]; exact hc
theorem sI_try {z w i : Nat} {f : DM → Int × DM} {r : List (DM → Int × DM)} {M : DM} (h1 : ScrI z w i (f M).2) (h2 : ScrI z w i (tryM r (f M).2).2) : ScrI z w i (tryM (f :: r) M).2 := by
  rw [tryM_cons]; split
  · exact h1
  · exact h2
theorem sI_repl {z w i : Nat} {M : DM} (h : ScrI z w i M) (dir : ByteArray) {b : ByteArray} (hb : b.size ≤ z) : ScrI z (w + 2) (i + 1) (tryM (repSteps dir b) M).2 := by
  have h1 := ScrI.up (sI_write h (pathJ dir newB) hb) (Nat.le_refl _) (show w + 1 ≤ w + 2 by omega) (Nat.le_refl _)
  have h1' := sI_write h (pathJ dir newB) hb
  have h2' := sI_sync h1' (pathJ dir newB)
  have h2 := sI_sync h1 (pathJ dir newB)
  have h3 := sI_rename h2' (pathJ dir newB) (pathJ dir logB)
  have h4 := sI_sdir h3 dir
  exact sI_try h1 (sI_try h2 (sI_try h3 (sI_try h4 h4)))
theorem sI_repM {z w i : Nat} {M : DM} (h : ScrI z w i M) (j : JM) {ts : List ByteArray} (hz : (linesB ts).size ≤ z) : ScrI z (w + 2) (i + 1) (replaceM j M ts).2.2 := by
  have hup := ScrI.up h (Nat.le_refl z) (show w ≤ w + 2 by omega) (show i ≤ i + 1 by omega)
  unfold replaceM
  split
  · exact hup
  · split
    · exact hup
    · have hs := sI_repl h j.dir hz
      simp only
      split <;> exact hs
theorem sI_openM {z w i : Nat} {M : DM} (h : ScrI z w i M) (dir : ByteArray) : ScrI z (w + 2) (i + 1) (openM M dir).2.2 := by
  have hup := ScrI.up h (Nat.le_refl z) (show w ≤ w + 2 by omega) (show i ≤ i + 1 by omega)
  unfold openM
  split
  · exact hup
  · split
    · exact hup
    · simp only
      split
      · have hs := sI_repM (ts := (parseB (readM M (pathJ dir logB)).1).1) h ⟨dir, (parseB (readM M (pathJ dir logB)).1).1, ((linesB (parseB (readM M (pathJ dir logB)).1).1).size : Int), false, true⟩ (Nat.le_trans (parse_size _) (read_le h _))
        split <;> exact hs
      · exact hup
end Go.Jr
namespace Go.Jr
open Go.Sw Go.Lib Go.Vf Go.Sha Go.Proofs.YtlaoeiaaeifidaaGreat
theorem part_no47 {d : ByteArray} (h : partB d = true) : noB d 47 d.size := fun j hj e => by
  unfold partB at h
  simp only [Bool.and_eq_true] at h
  have := List.all_eq_true.1 h.1.1.1.1 j (List.mem_range.2 hj)
  rw [e] at this
  exact absurd this (by decide)
theorem part_size {d : ByteArray} (h : partB d = true) : d.size ≤ 80 := by
  unfold partB at h
  simp only [Bool.and_eq_true, decide_eq_true_eq] at h
  have := h.1.1.2; omega
theorem no47_slash {d : ByteArray} (h : noB d 47 d.size) : slash d < 0 := by
  rcases bIdx_spec d (c := 47) (by omega) (by omega) with ⟨k, hk, _, hb, _⟩ | ⟨he, _⟩
  · exact absurd hb (h k hk)
  · show bIdx d 47 < 0; omega
theorem good_part (d : ByteArray) : (!rightB d || decide (slash d ≥ 0)) = !partB d := by
  rcases Int.lt_or_le (slash d) 0 with h | h
  · unfold rightB
    rw [if_pos h, show decide (slash d ≥ 0) = false from decide_eq_false (by omega), Bool.or_false]
  · rw [show decide (slash d ≥ 0) = true from decide_eq_true h, Bool.or_true]
    cases hp : partB d with
    | false => rfl
    | true => exact absurd (no47_slash (part_no47 hp)) (by omega)
def slB : ByteArray := ByteArray.mk #[47]
theorem no47_of {s : ByteArray} (h : noB s 47 s.size) : ∀ x ∈ s.data.toList, ((x.toNat : Nat) : Int) ≠ 47 := fun x hx e => by
  obtain ⟨j, hj, rfl⟩ := List.getElem_of_mem hx
  have hj' : j < s.size := by rw [Array.length_toList] at hj; exact hj
  refine h j hj' ?_
  rw [byteAt_lt hj']; exact e
theorem slash_at {a b : ByteArray} (h : noB a 47 a.size) : slash ((a ++ slB) ++ b) = a.size := by
  have hz : a.size < ((a ++ slB) ++ b).size := by simp only [ByteArray.size_append]; show a.size < a.size + 1 + b.size; omega
  have hs := no47_of h
  refine bIdx_eq (by omega) (by omega) hz ?_ ?_
  · rw [byteAt_lt hz]
    simp only [toL]
    rw [List.getElem_append_left (by rw [List.length_append, lenL]; show a.size < a.size + 1; omega), List.getElem_append_right (by rw [lenL]; omega)]
    simp only [lenL, Nat.sub_self]; rfl
  · intro j hj e
    rw [byteAt_lt (show j < ((a ++ slB) ++ b).size by omega)] at e
    simp only [toL] at e
    rw [List.getElem_append_left (by rw [List.length_append, lenL]; omega), List.getElem_append_left (by rw [lenL]; omega)] at e
    exact hs _ (List.getElem_mem _) e
theorem cut_head {a b : ByteArray} : ((a ++ slB) ++ b).extract 0 a.size = a := ext_L (by
  rw [exL, toL, toL, List.drop_zero, List.append_assoc, ← lenL, List.take_left])
theorem cut_tail {a b : ByteArray} : ((a ++ slB) ++ b).extract (a.size + 1) ((a ++ slB) ++ b).size = b := ext_L (by
  rw [exL, ← lenL ((a ++ slB) ++ b), List.take_length, toL, toL]
  rw [show a.size + 1 = (a.data.toList ++ slB.data.toList).length by rw [List.length_append, lenL]; rfl, List.drop_left])
theorem path_right {d n : ByteArray} (h : partB d = true) (hn : partB n = true) : rightB (pathJ d n) = true := by
  unfold rightB pathJ
  have e : slash ((d ++ ByteArray.mk #[47]) ++ n) = d.size := slash_at (part_no47 h)
  rw [e, if_neg (by omega), Int.toNat_natCast]
  have e1 : ((d ++ ByteArray.mk #[47]) ++ n).extract 0 d.size = d := cut_head
  have e2 : ((d ++ ByteArray.mk #[47]) ++ n).extract (d.size + 1) ((d ++ ByteArray.mk #[47]) ++ n).size = n := cut_tail
  rw [e1, e2, h, hn]; rfl
theorem path_dir {d n : ByteArray} (h : partB d = true) : dirB (pathJ d n) = d := by
  unfold dirB pathJ
  have e : slash ((d ++ ByteArray.mk #[47]) ++ n) = d.size := slash_at (part_no47 h)
  rw [e, if_neg (by omega), Int.toNat_natCast]
  exact cut_head
theorem pth_of {d : ByteArray} (h : partB d = true) : Pth d := by
  have h1 : partB logB = true := by decide +kernel
  have h2 : partB newB = true := by decide +kernel
  refine ⟨path_right h h1, path_right h h2, path_dir h, path_dir h, by unfold dirR; rw [h, Bool.or_true], ?_⟩
  rw [beq_eq_false_iff_ne]
  intro e
  have e1 := congrArg (fun x : ByteArray => x.data.toList) e
  simp only [pathJ, toL] at e1
  exact absurd (List.append_cancel_left e1) (by decide +kernel)
theorem lit_log (d : ByteArray) : d ++ ByteArray.mk #[47, 108, 111, 103] = pathJ d logB := ext_L (by
  unfold pathJ; rw [toL, toL, toL, List.append_assoc]; rfl)
def rdM (d b : ByteArray) : DM := (writeM (newM 1048576) (d ++ ByteArray.mk #[47, 108, 111, 103]) b).2
def rdE (d b : ByteArray) : Int := (writeM (newM 1048576) (d ++ ByteArray.mk #[47, 108, 111, 103]) b).1
theorem rd_write (d b : ByteArray) : writeM (newM 1048576) (d ++ ByteArray.mk #[47, 108, 111, 103]) b = (rdE d b, rdM d b) := rfl
theorem rd_scr {d b : ByteArray} (h : b.size ≤ 3000) : ScrI 3000 1 1 (rdM d b) := sI_write (ScrI.up (scr_new 0 1048576) (by omega) (Nat.le_refl _) (Nat.le_refl _)) _ h
theorem rd_room {d b : ByteArray} (h : b.size ≤ 3000) : RoomM (rdM d b) := RoomM.of (rd_scr h) (by omega) (by omega) (by omega)
theorem new_room : RoomM (newM 1048576) := RoomM.of (scr_new 0 1048576) (by omega) (by omega) (by omega)
theorem rd_bad {d b : ByteArray} (h : partB d = false) : openM (rdM d b) d = (2, none, rdM d b) := open_bad (by rw [good_part, h]; rfl)
def jR (d b : ByteArray) : JM := ⟨d, (parseB b).1, ((linesB (parseB b).1).size : Int), false, true⟩
theorem jR_small {d b : ByteArray} (hd : d.size ≤ 200) (h : b.size ≤ 3000) : JSmall (jR d b) := by
  have h1 := parse_size b
  have h2 := lines_len (parseB b).1
  exact ⟨by show d.size ≤ _; omega, by show (parseB b).1.length ≤ _; omega, by show (0 : Int) ≤ ((linesB (parseB b).1).size : Int) ∧ ((linesB (parseB b).1).size : Int) ≤ _; omega⟩
theorem reads_ok {d b : ByteArray} (h : partB d = true) (hb : b.size ≤ 3000) : ∃ M2, openM (rdM d b) d = (0, some (jR d b), M2) ∧ readM M2 (d ++ ByteArray.mk #[47, 108, 111, 103]) = (linesB (parseB b).1, 0) ∧ RoomM M2 := by
  have hp := pth_of h
  have hn := new0 (room := 1048576) (by decide)
  have hw : rdM d b = wr1 ⟨1048576, [], [], [], [], false, false, 0⟩ (pathJ d logB) b := by
    unfold rdM
    rw [lit_log, hn, write_run hp.rp rfl (by show ((0 : Nat) : Int) - ((0 : Nat) : Int) + (b.size : Int) ≤ 1048576; omega)]
  have hl : lookN (rdM d b).names (pathJ d logB) = some 0 := by rw [hw]; exact look_with (l := []) (Int.natCast_nonneg 0)
  have hbd : bodyAt (rdM d b) 0 = ⟨b, ByteArray.mk #[]⟩ := by rw [hw]; rfl
  have hr : readM (rdM d b) (pathJ d logB) = (b, 0) := by rw [readM_ok hl, hbd]
  have hg : (!rightB d || decide (slash d ≥ 0)) = false := by rw [good_part, h]; rfl
  have hscr : ScrI 3000 3 2 (openM (rdM d b) d).2.2 := sI_openM (rd_scr hb) d
  have hM : RoomM (openM (rdM d b) d).2.2 := RoomM.of hscr (by omega) (by omega) (by omega)
  have he0 : ((readM (rdM d b) (pathJ d logB)).2 != 0) = false := by rw [hr]; rfl
  have hpe : parseB (readM (rdM d b) (pathJ d logB)).1 = ((parseB b).1, (parseB b).2) := by rw [hr]
  cases ha : (!((parseB b).2.toList == (ByteArray.mk #[]).toList)) with
  | false =>
    have ho := open_whole hg he0 hpe ha
    refine ⟨rdM d b, ho, ?_, rd_room hb⟩
    rw [lit_log, hr]
    have : (parseB b).2 = ByteArray.mk #[] := by
      have : (parseB b).2.toList = (ByteArray.mk #[]).toList := by simpa using ha
      rw [toList_data, toList_data] at this
      exact ByteArray.ext (Array.toList_inj.1 this)
    have hbk := parse_back b
    rw [this] at hbk
    rw [show (linesB (parseB b).1 ++ ByteArray.mk #[]) = linesB (parseB b).1 from ByteArray.append_empty] at hbk
    rw [hbk]
  | true =>
    have hsz := parse_size b
    have hrep := rep_good (M := rdM d b) (dir := d) (L := (parseB b).1) (ts := (parseB b).1) (z := ((linesB (parseB b).1).size : Int)) (th := true) hp (by rw [hw]; rfl) (parse_right b) (by
      have hu : usedM (rdM d b) = b.size := by rw [hw]; show (bodyAt _ _).now.size + 0 = _; rw [Nat.add_zero]; rfl
      have hwas : wasM (rdM d b) (pathJ d newB) = 0 := by
        unfold wasM
        rw [hw]
        show (match lookN (withN [] (pathJ d logB, 0)) (pathJ d newB) with | none => 0 | some k => sizeAt _ k) = 0
        rw [look_with' hp.ne]; rfl
      have hrm : (rdM d b).room = 1048576 := by rw [hw]; rfl
      rw [hu, hwas, hrm]; omega)
    have ho := open_ok hg he0 hpe ha (by rw [hrep]; rfl)
    rw [hrep] at ho
    refine ⟨repD (rdM d b) d (linesB (parseB b).1), ho, ?_, ?_⟩
    · rw [lit_log]
      have hk : (0 : Int) ≤ ((rdM d b).bodies.length : Int) := Int.natCast_nonneg _
      have hl2 : lookN (repD (rdM d b) d (linesB (parseB b).1)).names (pathJ d logB) = some ((rdM d b).bodies.length : Int) := by
        unfold repD repN applyN
        simp only [List.foldl_cons, List.foldl_nil]
        exact look_with hk
      rw [readM_ok hl2]
      unfold bodyAt repD
      rw [Int.toNat_natCast, getD_snoc]
    · rw [ho] at hM; exact hM
theorem reads_eq {b : ByteArray} : b.extract 0 (linesB (parseB b).1).size = linesB (parseB b).1 := ext_L (by
  have h := congrArg (fun x : ByteArray => x.data.toList) (parse_back b)
  simp only [toL] at h
  rw [exL, List.drop_zero]
  generalize (parseB b).1 = ts at *
  rw [← h, ← lenL, List.take_left])
end Go.Jr
namespace Go.Proofs.YtlaoeiaaeifidaaGreat
open Go.Sw Go.Lib Go.Vf Go.Sha Go.Jr Go.RowKit
theorem rd_cut0b {S : Nat → Obj → Prop} {a : Option Addr} {x : ByteArray} {c m : Nat} (h : Rd S a (u8s x.data.toList)) (hc : x.size ≤ c) (hm : m ≤ x.size) : Rd S (cutA a c 0 1) (u8s (x.extract 0 m).data.toList) := by
  have h1 := h.cut (cap := c) (l := 0) (sz := 1) (m := m) (fun e => by omega)
  rw [exL, List.drop_zero]
  simpa [u8s, List.map_take] using h1
theorem partQ {d : ByteArray} {v : Bool} (h : partB d = v) (hs : d.size ≤ 9223372036854775807) (W0 : World) (H : List Grp) : Tri Tryz.prog 11 #[.string d] W0 H (fun u H' => u = .bool v ∧ H' = H) := by
  subst h; exact refPart d hs W0 H
theorem b_cut (b : ByteArray) : (b.extract 0 (linesB (parseB b).1).size).size = (linesB (parseB b).1).size - 0 := by
  have := parse_size b
  rw [ByteArray.size_extract]; omega
set_option maxRecDepth 4000 in
set_option maxHeartbeats 2000000 in
theorem journalReads_ (ba : Option Addr) (bc : Nat) (b dir : ByteArray) (So : Nat → Obj → Prop) (W0 : World) (hba : BytesA W0 [] ba bc So b) (hbz : b.size ≤ 9223372036854775807) (hbc : b.size ≤ bc) (hdz : dir.size ≤ 9223372036854775807) (H : List Grp) : Tri Tryz.prog 3 #[.slice ba b.size bc, .string dir] W0 H (fun v H' => v = .bool true ∧ ∃ G, H' = G ++ H) := by
 have hbv := hba.v
 have hro := hba.rd
 have hSo := hba.at_
 refine Tri_of (args := [.slice ba b.size bc, .string dir]) (n := 103) Tryz.func3 rfl rfl (Nat.le_of_ble_eq_true rfl) ?_
 refine G_seq ?_
 refine G_pure (E':=[⟨0,[],.slice ba b.size bc⟩,⟨1,[],.string dir⟩]) [0] [0,1] rfl kr ?_
 refine N_then ?_
 refine G_seq ?_
 refine G_seq ?_
 refine G_region ?_
 refine GL_call (i:=0) (ch:=[]) (f:=7) (fst:=#[]) (caps:=#[]) (vs:=[]) rfl rfl rfl kr kr Tryz.func7 rfl rfl kr kr (chSure_of kr) (jFirst _ _) ?_
 rintro v H' ⟨rfl, G, rfl⟩
 refine GL_fin (E':=[⟨0,[],.slice ba b.size bc⟩,⟨1,[],.string dir⟩,⟨14,[],.bool false⟩]) [0] [0,1,14] rfl kr ?_
 refine N_then ?_
 refine G_condf kr ?_
 refine G_skip ?_
 refine N_then ?_
 refine G_seq ?_
 refine G_seq ?_
 refine G_pure (E':=[⟨0,[],.slice ba b.size bc⟩,⟨1,[],.string dir⟩,⟨22,[],.bool ((decide (((b.size : Nat) : Int) > 3000))||(decide ((dir.size : Int) > 200)))⟩]) [0,0,0,0,0,0,0,5] [0,1,22] rfl kr ?_
 refine N_then ?_
 refine G_cond (b:=(decide (((b.size : Nat) : Int) > 3000))||(decide ((dir.size : Int) > 200))) kr (fun hc1=>?_) (fun hc1=>?_)
 ·
  skip
  refine G_seq ?_
  refine G_pure (E':=[⟨4,[],.bool true⟩]) [0] [4] rfl kr ?_
  refine N_then ?_
  refine G_ret ?_
  refine N_then_ret ?_
  refine N_ret [.tmp 4] [.bool true] rfl kr rfl ?_
  exact ⟨rfl, G, rfl⟩
 ·
  have hbd : b.size ≤ 3000 ∧ dir.size ≤ 200 := by (revert hc1; simp; omega)
  have hb := hbd.1
  refine G_skip ?_
  refine N_then ?_
  refine G_seq ?_
  refine G_region ?_
  refine GL_call (i:=0) (ch:=[]) (f:=8) (fst:=#[]) (caps:=#[]) (vs:=[.int .i64 1048576]) rfl rfl rfl kr kr Tryz.func8 rfl rfl kr kr (chSure_of kr) (dNew 1048576 (M:=(newM 1048576)) _ _ rfl) ?_
  rintro v H' ⟨d2, rfl, s1, hs1, rfl⟩
  refine GL_fin (E':=[⟨0,[],.slice ba b.size bc⟩,⟨1,[],.string dir⟩,⟨5,[],pt d2⟩]) [0] [0,1,5] rfl kr ?_
  refine N_then ?_
  refine G_seq ?_
  refine G_seq ?_
  refine G_pure (E':=[⟨0,[],.slice ba b.size bc⟩,⟨1,[],.string dir⟩,⟨5,[],pt d2⟩,⟨25,[],.bool (dir.toList == (ByteArray.mk #[]).toList)⟩]) [0,0] [0,1,5,25] rfl kr ?_
  refine N_then ?_
  refine G_join (T:=ByteArray) (fun ξ : ByteArray=>[⟨0,[],.slice ba b.size bc⟩,⟨1,[],.string ξ⟩,⟨5,[],pt d2⟩]) (fun ξ : ByteArray=>(s1.G d2 (newM 1048576)++(G++H))) (fun ξ : ByteArray=>(ξ.size ≤ 200)) ?_ ?_
  ·
   refine G_cond (b:=dir.toList == (ByteArray.mk #[]).toList) kr (fun hc3=>?_) (fun hc3=>?_)
   ·
    simp at hc3
    refine G_pure (E':=[⟨0,[],.slice ba b.size bc⟩,⟨1,[],.string (ByteArray.mk #[106])⟩,⟨5,[],pt d2⟩]) [0] [0,1,5] rfl kr ?_
    refine N_join ((ByteArray.mk #[106])) [0,1,5] kr (fun w h=>h) (by decide)
   ·
    simp at hc3
    refine G_skip ?_
    refine N_join (dir) [0,1,5] kr (fun w h=>h) hbd.2
  ·
   rintro dd hdd
   refine N_then ?_
   refine G_seq ?_
   refine G_region ?_
   refine GL_p [0,0] kr (j:=2) rfl ?_
   refine GL_concat (i:=2) (ch:=[]) (s:=dd) (u:=(ByteArray.mk #[47,108,111,103])) rfl rfl kr kr kr kr kr (by intro _; show dd.size+4 ≤ _; omega) ?_
   refine GL_p [0] kr (j:=4) rfl ?_
   refine GL_call (i:=4) (ch:=[]) (f:=9) (fst:=#[]) (caps:=#[]) (vs:=[pt d2,.string (dd++(ByteArray.mk #[47,108,111,103])),.slice ba b.size bc]) rfl rfl rfl kr kr Tryz.func9 rfl rfl kr kr (chSure_of kr) (dWrite hs1 new_room.small d2 (dd++(ByteArray.mk #[47,108,111,103])) b (by rw [ByteArray.size_append]; show _+4 ≤ _; omega) (by omega) [] _ (G++H) (BytesV.up hbv) (rd_write dd b)) ?_
   rintro v H' ⟨rfl, s2, hs2, rfl⟩
   refine GL_fin (E':=[⟨0,[],.slice ba b.size bc⟩,⟨1,[],.string dd⟩,⟨5,[],pt d2⟩]) [] [0,1,5] rfl kr ?_
   refine N_then ?_
   refine G_seq ?_
   rcases hpt : partB dd with _ | _
   ·
    refine G_region ?_
    refine GL_p [0,0] kr (j:=2) rfl ?_
    refine GL_call (i:=2) (ch:=[]) (f:=10) (fst:=#[]) (caps:=#[]) (vs:=[pt d2,.string dd]) rfl rfl rfl kr kr Tryz.func10 rfl rfl kr kr (chSure_of kr) (jOpenNo hs2 (rd_room hb) (by omega) (rd_bad hpt) ([] : List Grp) d2 _ (G++H)) ?_
    rintro v H' ⟨rfl, s3, hs3, rfl⟩
    refine GL_fin (E':=[⟨0,[],.slice ba b.size bc⟩,⟨1,[],.string dd⟩,⟨5,[],pt d2⟩,⟨6,[],.pointer none⟩,⟨7,[],.int .i64 2⟩]) [0,0,0,0,0] [0,1,5,6,7] rfl kr ?_
    refine N_then ?_
    refine G_seq ?_
    refine G_seq ?_
    refine G_region ?_
    refine GL_p [0] kr (j:=1) rfl ?_
    refine GL_callQ (i:=1) (ch:=[]) (f:=11) (fst:=#[]) (caps:=#[]) (vs:=[.string dd]) (v:=.bool false) rfl rfl rfl kr kr Tryz.func11 rfl rfl kr kr kr (fun _=>partQ hpt (by omega) _ _) ?_
    refine GL_fin (E':=[⟨0,[],.slice ba b.size bc⟩,⟨1,[],.string dd⟩,⟨5,[],pt d2⟩,⟨6,[],.pointer none⟩,⟨7,[],.int .i64 2⟩,⟨39,[],.bool true⟩]) [0] [0,1,5,6,7,39] rfl kr ?_
    refine N_then ?_
    refine G_condt kr ?_
    refine G_seq ?_
    refine G_pure (E':=[⟨4,[],.bool true⟩]) [0,0,0,0,0,2,0] [4] rfl kr ?_
    refine N_then ?_
    refine G_ret ?_
    refine N_then_ret ?_
    refine N_ret [.tmp 4] [.bool true] rfl kr rfl ?_
    exact ⟨rfl, [] ++ (s3.G d2 (rdM dd b) ++ G), by simp⟩
   ·
    obtain ⟨M2, ho2, hr2, hrm⟩ := reads_ok hpt hb
    refine G_region ?_
    refine GL_p [0,0] kr (j:=2) rfl ?_
    refine GL_call (i:=2) (ch:=[]) (f:=10) (fst:=#[]) (caps:=#[]) (vs:=[pt d2,.string dd]) rfl rfl rfl kr kr Tryz.func10 rfl rfl kr kr (chSure_of kr) (jOpen hs2 (rd_room hb) (by omega) ho2 ([] : List Grp) d2 _ (G++H)) ?_
    rintro v H' ⟨jb4, ja5, jc6, jr7, s4, rfl, ho8, hs4, rfl⟩
    refine GL_fin (E':=[⟨0,[],.slice ba b.size bc⟩,⟨1,[],.string dd⟩,⟨5,[],pt d2⟩,⟨6,[],pt jb4⟩,⟨7,[],.int .i64 0⟩]) [0,0,0,0,0] [0,1,5,6,7] rfl kr ?_
    refine N_then ?_
    refine G_seq ?_
    refine G_seq ?_
    refine G_region ?_
    refine GL_p [0] kr (j:=1) rfl ?_
    refine GL_callQ (i:=1) (ch:=[]) (f:=11) (fst:=#[]) (caps:=#[]) (vs:=[.string dd]) (v:=.bool true) rfl rfl rfl kr kr Tryz.func11 rfl rfl kr kr kr (fun _=>partQ hpt (by omega) _ _) ?_
    refine GL_fin (E':=[⟨0,[],.slice ba b.size bc⟩,⟨1,[],.string dd⟩,⟨5,[],pt d2⟩,⟨6,[],pt jb4⟩,⟨7,[],.int .i64 0⟩,⟨39,[],.bool false⟩]) [0] [0,1,5,6,7,39] rfl kr ?_
    refine N_then ?_
    refine G_condf kr ?_
    refine G_skip ?_
    refine N_then ?_
    refine G_seq ?_
    refine G_region ?_
    refine GL_p [0] kr (j:=1) rfl ?_
    refine GL_bytesB (i:=1) (ch:=[]) (a:=ba) (cap:=bc) (e:=5) (S:=So) b rfl rfl kr kr kr kr kr kr kr hro (fun y o h=>at_up (hSo y o h)) ?_
    refine GL_call (i:=2) (ch:=[]) (f:=12) (fst:=#[]) (caps:=#[]) (vs:=[.string b]) rfl rfl rfl kr kr Tryz.func12 rfl rfl kr kr (chSure_of kr) (rparse_ b (by omega) _ _) ?_
    rintro v H' ⟨la9, lc10, g11, rfl, hO12, rfl⟩
    refine GL_fin (E':=[⟨0,[],.slice ba b.size bc⟩,⟨1,[],.string dd⟩,⟨5,[],pt d2⟩,⟨6,[],pt jb4⟩,⟨7,[],.int .i64 0⟩,⟨8,[],.slice la9 ((parseB b).1.length) lc10⟩,⟨9,[],.int .i64 ((linesB (parseB b).1).size : Int)⟩]) [0,0,0,0,0] [0,1,5,6,7,8,9] rfl kr ?_
    refine N_then ?_
    refine G_seq ?_
    refine G_region ?_
    refine GL_p [0,0] kr (j:=2) rfl ?_
    refine GL_concat (i:=2) (ch:=[]) (s:=dd) (u:=(ByteArray.mk #[47,108,111,103])) rfl rfl kr kr kr kr kr (by intro _; show dd.size+4 ≤ _; omega) ?_
    refine GL_call (i:=3) (ch:=[]) (f:=13) (fst:=#[]) (caps:=#[]) (vs:=[pt d2,.string (dd++(ByteArray.mk #[47,108,111,103]))]) rfl rfl rfl kr kr Tryz.func13 rfl rfl kr kr (chSure_of kr) (dRead hs4 hrm.sizes d2 (dd++(ByteArray.mk #[47,108,111,103])) [g11,(jAt jb4 d2 (jR dd b) ja5 jc6),jr7] _ (G++H) hr2) ?_
    rintro v H' ⟨ra13, rc14, g15, rfl, hrc16, hrd17, rfl⟩
    refine GL_fin (E':=[⟨0,[],.slice ba b.size bc⟩,⟨6,[],pt jb4⟩,⟨7,[],.int .i64 0⟩,⟨8,[],.slice la9 ((parseB b).1.length) lc10⟩,⟨9,[],.int .i64 ((linesB (parseB b).1).size : Int)⟩,⟨10,[],.slice ra13 ((linesB (parseB b).1).size) rc14⟩]) [0,0,0,0,0] [0,6,7,8,9,10] rfl kr ?_
    refine N_then ?_
    refine G_seq ?_
    refine G_pure (E':=[⟨0,[],.slice ba b.size bc⟩,⟨6,[],pt jb4⟩,⟨7,[],.int .i64 0⟩,⟨8,[],.slice la9 ((parseB b).1.length) lc10⟩,⟨9,[],.int .i64 ((linesB (parseB b).1).size : Int)⟩,⟨10,[],.slice ra13 ((linesB (parseB b).1).size) rc14⟩,⟨12,[],.pointer none⟩]) [0] [0,6,7,8,9,10,12] rfl kr ?_
    refine N_then ?_
    refine G_seq ?_
    refine G_regionH (g15::g11::(jAt jb4 d2 (jR dd b) ja5 jc6)::jr7::(s4.G d2 M2++(G++H))) kr ?_
    refine GH_p (fuel:=40) [(0,0),(1,0),(2,0),(3,0),(5,0)] (fun w h=>h) kr rfl ?_
    refine GH_eff 4 kr kr kr ?_
    refine GL_heap rfl (H':=((jAt jb4 d2 (jR dd b) ja5 jc6)::jr7::g15::g11::(s4.G d2 M2++(G++H)))) (fun w h=>((h.front (j:=3) rfl).front (j:=3) rfl)) ?_
    refine GL_call (i:=4) (ch:=[(61,true)]) (f:=15) (fst:=#[]) (caps:=#[]) (vs:=[pt jb4]) rfl rfl rfl kr kr Tryz.func15 rfl rfl kr kr (chSure_of kr) (jRecords (jR_small hdd hb) jb4 d2 ho8 _ _) ?_
    rintro v H' ⟨la18, lc19, lg20, rfl, hrd21, rfl⟩
    refine GH_back kr (fun w h=>(((((h.front (j:=2) rfl).front (j:=2) rfl).front (j:=4) rfl).front (j:=4) rfl).erase 4)) ?_
    refine GH_more (lg20::(jAt jb4 d2 (jR dd b) ja5 jc6)::jr7::g15::g11::(s4.G d2 M2++(G++H))) (fun w h=>(((((h.front (j:=2) rfl).front (j:=2) rfl).front (j:=4) rfl).front (j:=4) rfl).erase 4)) ?_
    refine GH_eff 6 kr kr kr ?_
    refine GL_callQ (i:=6) (ch:=[(61,true)]) (f:=14) (fst:=#[]) (caps:=#[]) (vs:=[.slice la18 ((parseB b).1.length) lc19,.slice la9 ((parseB b).1.length) lc10]) (v:=.bool (decide ((parseB b).1 = (parseB b).1))) rfl rfl rfl kr kr Tryz.func14 rfl rfl kr kr kr (fun hc=>same_ la18 lc19 ((parseB b).1) (inG lg20) hrd21 (by have:=lines_len (parseB b).1; have:=parse_size b; omega) la9 lc10 ((parseB b).1) (inG g11) (own_rd hO12) (by have:=lines_len (parseB b).1; have:=parse_size b; omega) _ _ (at_inG 0 rfl) (at_inG 4 rfl)) ?_
    refine GH_back kr (fun w h=>h) ?_
    refine GH_pure (E':=[⟨66,[],.bool (decide ((parseB b).1 = (parseB b).1))⟩,⟨0,[],.slice ba b.size bc⟩,⟨6,[],pt jb4⟩,⟨9,[],.int .i64 ((linesB (parseB b).1).size : Int)⟩,⟨10,[],.slice ra13 ((linesB (parseB b).1).size) rc14⟩,⟨12,[],.pointer none⟩]) 7 2 kr (fun w h=>h) kr ?_
    refine GH_env (E':=[⟨66,[],.bool true⟩,⟨0,[],.slice ba b.size bc⟩,⟨6,[],pt jb4⟩,⟨9,[],.int .i64 ((linesB (parseB b).1).size : Int)⟩,⟨10,[],.slice ra13 ((linesB (parseB b).1).size) rc14⟩,⟨12,[],.pointer none⟩]) (by rw [show decide ((parseB b).1 = (parseB b).1) = true from decide_eq_true rfl]) ?_
    refine GH_p (fuel:=35) [(8,0),(9,0)] (fun w h=>h) kr rfl ?_
    refine GH_take' 10 kr (fun w h=>h) (GL_bytesB (i:=10) (ch:=[(67,true)]) (a:=ra13) (cap:=rc14) (e:=5) (S:=(inG g15)) (linesB (parseB b).1) rfl rfl kr kr kr kr kr kr kr hrd17 (at_inG 3 rfl) (GL_yend kr rfl)) ?_
    refine GH_p (fuel:=32) [(11,0),(12,0)] (fun w h=>h) kr rfl ?_
    refine GH_take' (E':=[⟨72,[(67,true)],.slice (cutA ba bc 0 1) ((linesB (parseB b).1).size - 0) (bc - 0)⟩,⟨71,[(67,true)],.int .i64 ((linesB (parseB b).1).size : Int)⟩,⟨70,[(67,true)],.slice ba b.size bc⟩,⟨69,[(67,true)],.string (linesB (parseB b).1)⟩,⟨68,[(67,true)],.slice ra13 ((linesB (parseB b).1).size) rc14⟩,⟨67,[],.bool true⟩,⟨66,[],.bool true⟩,⟨0,[],.slice ba b.size bc⟩,⟨6,[],pt jb4⟩,⟨9,[],.int .i64 ((linesB (parseB b).1).size : Int)⟩,⟨10,[],.slice ra13 ((linesB (parseB b).1).size) rc14⟩,⟨12,[],.pointer none⟩]) 13 kr (fun w h=>h) ?_ ?_
    ·
     refine GL_sliceL (i:=13) (ch:=[(67,true)]) (a:=ba) (len:=b.size) (cap:=bc) (e:=5) (sz:=1) (vl:=none) (vh:=(some (.int .i64 ((linesB (parseB b).1).size : Int)))) (l:=0) (h:=((linesB (parseB b).1).size : Int)) rfl rfl kr kr kr kr kr kr kr kr kr kr (fun hc=>by have:=parse_size b; omega) ?_
     exact GL_yend kr kr
    refine GH_env (E':=[⟨72,[(67,true)],.slice (cutA ba bc 0 1) ((b.extract 0 (linesB (parseB b).1).size).size) (bc - 0)⟩,⟨71,[(67,true)],.int .i64 ((linesB (parseB b).1).size : Int)⟩,⟨70,[(67,true)],.slice ba b.size bc⟩,⟨69,[(67,true)],.string (linesB (parseB b).1)⟩,⟨68,[(67,true)],.slice ra13 ((linesB (parseB b).1).size) rc14⟩,⟨67,[],.bool true⟩,⟨66,[],.bool true⟩,⟨0,[],.slice ba b.size bc⟩,⟨6,[],pt jb4⟩,⟨9,[],.int .i64 ((linesB (parseB b).1).size : Int)⟩,⟨10,[],.slice ra13 ((linesB (parseB b).1).size) rc14⟩,⟨12,[],.pointer none⟩]) (by rw [b_cut]) ?_
    refine GH_take' 14 kr (fun w h=>h) (GL_bytesB (i:=14) (ch:=[(67,true)]) (a:=(cutA ba bc 0 1)) (cap:=(bc - 0)) (e:=5) (S:=So) (b.extract 0 (linesB (parseB b).1).size) rfl rfl kr kr kr kr kr kr kr (rd_cut0b hro hbc (parse_size b)) (fun y o h=>at_up (hSo y o h)) (GL_yend kr rfl)) ?_
    refine GH_pure (E':=[⟨74,[(67,true)],.bool ((linesB (parseB b).1).toList == (b.extract 0 (linesB (parseB b).1).size).toList)⟩,⟨67,[],.bool true⟩,⟨6,[],pt jb4⟩,⟨9,[],.int .i64 ((linesB (parseB b).1).size : Int)⟩,⟨12,[],.pointer none⟩]) 15 0 kr (fun w h=>h) kr ?_
    refine GH_env (E':=[⟨74,[(67,true)],.bool true⟩,⟨67,[],.bool true⟩,⟨6,[],pt jb4⟩,⟨9,[],.int .i64 ((linesB (parseB b).1).size : Int)⟩,⟨12,[],.pointer none⟩]) (by rw [show ((linesB (parseB b).1).toList == (b.extract 0 (linesB (parseB b).1).size).toList) = true from by rw [reads_eq]; exact beq_self_eq_true _]) ?_
    refine GH_p (fuel:=25) [(16,2),(17,0),(18,0),(20,0)] (fun w h=>h) kr rfl ?_
    refine GH_eff 19 kr kr kr ?_
    refine GL_heap rfl (H':=((jAt jb4 d2 (jR dd b) ja5 jc6)::lg20::jr7::g15::g11::(s4.G d2 M2++(G++H)))) (fun w h=>(h.front (j:=1) rfl)) ?_
    refine GL_call (i:=19) (ch:=[(76,true)]) (f:=16) (fst:=#[]) (caps:=#[]) (vs:=[pt jb4]) rfl rfl rfl kr kr Tryz.func16 rfl rfl kr kr (chSure_of kr) (jSize jb4 d2 (a:=ja5) (c:=jc6) _ _) ?_
    rintro v H' ⟨rfl, rfl⟩
    refine GH_back kr (fun w h=>(((((h.front (j:=4) rfl).front (j:=4) rfl).front (j:=4) rfl).front (j:=3) rfl).front (j:=4) rfl)) ?_
    refine GH_pure (E':=[⟨80,[(76,true)],.bool (((linesB (parseB b).1).size : Int) == ((linesB (parseB b).1).size : Int))⟩,⟨76,[],.bool true⟩,⟨12,[],.pointer none⟩]) 21 0 kr (fun w h=>(((((h.front (j:=4) rfl).front (j:=4) rfl).front (j:=4) rfl).front (j:=3) rfl).front (j:=4) rfl)) kr ?_
    refine GH_env (E':=[⟨80,[(76,true)],.bool true⟩,⟨76,[],.bool true⟩,⟨12,[],.pointer none⟩]) (by rw [show (((linesB (parseB b).1).size : Int) == ((linesB (parseB b).1).size : Int)) = true from beq_self_eq_true _]) ?_
    refine GH_p (fuel:=20) [(22,2),(23,0),(24,0)] (fun w h=>(((((h.front (j:=4) rfl).front (j:=4) rfl).front (j:=4) rfl).front (j:=3) rfl).front (j:=4) rfl)) kr rfl ?_
    refine GH_eff 25 kr kr kr ?_
    refine GL_call (i:=25) (ch:=[(82,true)]) (f:=17) (fst:=#[]) (caps:=#[]) (vs:=[.pointer none,.string (ByteArray.mk #[])]) rfl rfl rfl kr kr Tryz.func17 rfl rfl kr kr (chSure_of kr) (addNil_ (ByteArray.mk #[]) _ _) ?_
    rintro v H' ⟨rfl, rfl⟩
    refine GH_back kr (fun w h=>(((((h.front (j:=4) rfl).front (j:=4) rfl).front (j:=4) rfl).front (j:=3) rfl).front (j:=4) rfl)) ?_
    refine GH_p (fuel:=15) [(26,0),(27,2),(28,0),(29,0)] (fun w h=>(((((h.front (j:=4) rfl).front (j:=4) rfl).front (j:=4) rfl).front (j:=3) rfl).front (j:=4) rfl)) kr rfl ?_
    refine GH_eff 30 kr kr kr ?_
    refine GL_call (i:=30) (ch:=[(87,true)]) (f:=18) (fst:=#[]) (caps:=#[]) (vs:=[.pointer none,.slice none 0 0]) rfl rfl rfl kr kr Tryz.func18 rfl rfl kr kr (chSure_of kr) (repNil_ _ _ _ _ _) ?_
    rintro v H' ⟨rfl, rfl⟩
    refine GH_back kr (fun w h=>(((((h.front (j:=4) rfl).front (j:=4) rfl).front (j:=4) rfl).front (j:=3) rfl).front (j:=4) rfl)) ?_
    refine GH_p (fuel:=10) [(31,0),(32,2),(33,0),(34,0)] (fun w h=>(((((h.front (j:=4) rfl).front (j:=4) rfl).front (j:=4) rfl).front (j:=3) rfl).front (j:=4) rfl)) kr rfl ?_
    refine GH_eff 35 kr kr kr ?_
    refine GL_call (i:=35) (ch:=[(92,true)]) (f:=15) (fst:=#[]) (caps:=#[]) (vs:=[.pointer none]) rfl rfl rfl kr kr Tryz.func15 rfl rfl kr kr (chSure_of kr) (recordsNil_ _ _) ?_
    rintro v H' ⟨rfl, rfl⟩
    refine GH_back kr (fun w h=>(((((h.front (j:=4) rfl).front (j:=4) rfl).front (j:=4) rfl).front (j:=3) rfl).front (j:=4) rfl)) ?_
    refine GH_eff 36 kr kr kr ?_
    refine GL_pure (E':=[⟨95,[(92,true)],.int .i64 0⟩,⟨94,[(92,true)],.slice none 0 0⟩,⟨93,[(92,true)],.pointer none⟩,⟨92,[],.bool true⟩,⟨91,[],.bool true⟩,⟨90,[(87,true)],.bool true⟩,⟨89,[(87,true)],.int .i64 1⟩,⟨88,[(87,true)],.pointer none⟩,⟨87,[],.bool true⟩,⟨86,[],.bool true⟩,⟨85,[(82,true)],.bool true⟩,⟨84,[(82,true)],.int .i64 1⟩,⟨83,[(82,true)],.pointer none⟩,⟨82,[],.bool true⟩,⟨81,[],.bool true⟩,⟨80,[(76,true)],.bool true⟩,⟨76,[],.bool true⟩,⟨12,[],.pointer none⟩]) [0] kr (j:=37) rfl ?_
    refine GH_back kr (fun w h=>(((((h.front (j:=4) rfl).front (j:=4) rfl).front (j:=4) rfl).front (j:=3) rfl).front (j:=4) rfl)) ?_
    refine GH_p (fuel:=4) [(37,0),(38,2),(39,0),(40,0)] (fun w h=>(((((h.front (j:=4) rfl).front (j:=4) rfl).front (j:=4) rfl).front (j:=3) rfl).front (j:=4) rfl)) kr rfl ?_
    refine GH_eff 41 kr kr kr ?_
    refine GL_call (i:=41) (ch:=[(98,true)]) (f:=16) (fst:=#[]) (caps:=#[]) (vs:=[.pointer none]) rfl rfl rfl kr kr Tryz.func16 rfl rfl kr kr (chSure_of kr) (sizeNil_ _ _) ?_
    rintro v H' ⟨rfl, rfl⟩
    refine GH_back kr (fun w h=>(((((h.front (j:=4) rfl).front (j:=4) rfl).front (j:=4) rfl).front (j:=3) rfl).front (j:=4) rfl)) ?_
    refine GH_p (fuel:=0) [(42,0),(43,2),(44,0)] (fun w h=>(((((h.front (j:=4) rfl).front (j:=4) rfl).front (j:=4) rfl).front (j:=3) rfl).front (j:=4) rfl)) kr rfl ?_
    refine GH_done (E':=[⟨4,[],.bool true⟩]) [4] kr kr ?_
    refine N_then ?_
    refine G_ret ?_
    refine N_ret [.tmp 4] [.bool true] rfl kr rfl ?_
    exact ⟨rfl, [(jAt jb4 d2 (jR dd b) ja5 jc6), lg20, jr7, g15, g11] ++ (s4.G d2 M2 ++ G), by simp⟩
end Go.Proofs.YtlaoeiaaeifidaaGreat
namespace Go.Proofs.YtlaoeiaaeifidaaGreat
open Go Go.ChangeShapes Go.WideShapes Go.ChangeAt Go.RowKit Go.Sw Go.Vf
set_option maxRecDepth 100000 in
theorem journalReads_lifted (os : Os) (started : os.Started) (H : Type) (enc : TypeId × Value → H) :
    ReturnsInHanded {} Tryz.checked os 3 .any (Rows.journalReadsSpec.pre6 enc Tryz.prog Tryz.f3 Rows.journalReadsRow.domain false) (Rows.journalReadsSpec.post enc Tryz.prog Tryz.f3 false true false false) := by
  refine returnsInHanded_of_change (C := Tryz.checked) ownKnob_ started (by kernel_rfl) Tryz.func3
    (ChangeSpec.witness6 (enc := enc) (C := Tryz.checked) false ⟨#[], #[.slice none 0 0, .string (ByteArray.mk #[])], []⟩ 8 (by kernel_rfl) (by kernel_rfl) (by kernel_rfl) (by kernel_rfl)) ?_
  intro W base args ds gs before hval0 hW hcnd _
  have hval : ∀ (j : Nat) t v, Tryz.f3.params[j]? = some t → args[j]? = some v → Value.okWide Tryz.prog W .any base t v := hval0
  have hW' := hW
  obtain ⟨p, q, hA0, hV, rfl, _, _⟩ := hW
  have hA : DataW.TrodAll enc Tryz.prog W 0 (fun _ => true) true Tryz.f3.params.toList args.toList ds p := hA0
  rw [Tryz.params3] at hA hval
  obtain ⟨v0, v1, d0, d1, q0, q1, rfl, rfl, rfl, h0, h1⟩ := trodAll_two hA
  obtain ⟨rfl, rfl⟩ := trodVars_none hV
  obtain ⟨ba, bc, b, rfl, hb1, hb2, hb3⟩ := open_bytesC (hval 0 22 v0 rfl rfl) h0
  have h1' := h1
  obtain ⟨x, rfl, _, _, wx⟩ := Go.ChangeMaps.open_string Tryz.underlying9 (hval 1 9 v1 rfl rfl) h1
  simp only [List.append_nil] at hW'
  have hlt : ∀ x ∈ q0 ++ q1, x.block < W.heap.size := fun x hx => by simpa using hW'.lt x hx
  refine (journalReads_ ba bc b x (SW W) W hb1 hb2 hb3 (Nat.le_trans wx (by decide)) [] W (sat_nil W)).mono fun e W' ⟨v, H', he, ⟨hv, G, hH⟩, hs⟩ => ?_
  subst he; subst hv; subst hH
  have hb := hs.below
  refine ⟨_, rfl, ⟨_, _, _, [], q0 ++ q1, [], hW', trodAll_mk1 (shut_bool Tryz.underlying4 _), ?_, rfl, hb.frame _, fun h => by cases h⟩⟩
  have k0 := Below.trod laidOut_ (by kernel_rfl) (of_decide_eq_true (by kernel_rfl)) h0 hb (fun x hx => hlt x (by simp [hx]))
  have k1 := Below.trod laidOut_ (by kernel_rfl) (of_decide_eq_true (by kernel_rfl)) h1' hb (fun x hx => hlt x (by simp [hx]))
  exact trodAll_mk2 k0 k1
theorem journalReads_said : Rows.JournalReadsSaid :=
  OpenClaim.holds_of_wide 3 Tryz.f3 rfl rfl rfl rfl rfl rfl rfl ⟨rfl, rfl, rfl, rfl, rfl⟩ rfl rfl rfl rfl rfl (by kernel_rfl) Tryz.func3 (by kernel_rfl)
    (of_decide_eq_true (by kernel_rfl)) (by unfold Func.isWrapper; first | (rw [if_pos (by decide +kernel)]; kernel_rfl) | (rw [if_neg (by decide +kernel)]; exact ⟨rfl, rfl⟩))
    (fun os started H enc _ => journalReads_lifted os started H enc)
#print axioms journalReads_said
end Go.Proofs.YtlaoeiaaeifidaaGreat
