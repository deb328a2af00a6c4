/- How a law's arguments of bytes and of numbers lie in memory. No program is in sight but for its name. -/
import Derived.Test.YtbmieiffboenbaaVlaw
import Derived.Test.YtbmieiffboenbaaDw
import Derived.ChangeSlices
import Derived.Carry
namespace Go.Proofs.Ytbmieiffboenbaa
open Go Go.ChangeShapes Go.WideShapes Go.ChangeAt Go.RowKit Go.Sw Go.Vf

theorem laidOut_ : laidOutB Try.prog = true := by kernel_rfl
/-- what lies in a start's world -/
def SW (W : World) (y : Nat) (o : Obj) : Prop := y < W.heap.size ∧ W.heap[y]? = some o
theorem sw_at {W : World} {y : Nat} {o : Obj} (h : SW W y o) : At W [] y o := .inl h
theorem rd_cells {W : World} {a : Addr} {cs : List Value} (hn : cs ≠ []) (h : ∀ j u, cs[j]? = some u → W.cell? (a.add j) = some u) : (∃ b off, a = ⟨b, off, none⟩) ∧ Rd (SW W) (some a) cs := by
  obtain ⟨b, off, sp⟩ := a
  cases cs with
  | nil => exact absurd rfl hn
  | cons v r =>
    have h0 := h 0 v rfl
    unfold World.cell? at h0
    rw [show (Addr.add ⟨b, off, sp⟩ 0) = ⟨b, off, sp⟩ from rfl] at h0
    cases hb : W.heap[b]? with
    | none => rw [show (⟨b, off, sp⟩ : Addr).block = b from rfl, hb] at h0; cases h0
    | some o =>
      rw [show (⟨b, off, sp⟩ : Addr).block = b from rfl, hb] at h0
      cases o with
      | cells c e fz =>
        cases sp with
        | some s => simp at h0
        | none =>
          refine ⟨⟨b, off, rfl⟩, .inr ⟨b, off, c, e, fz, rfl, ⟨?_, hb⟩, fun j u hu => ?_⟩⟩
          · rcases Nat.lt_or_ge b W.heap.size with h | h
            · exact h
            · rw [Array.getElem?_eq_none h] at hb; cases hb
          · have hj := h j u hu
            rw [addr_add] at hj
            unfold World.cell? at hj
            rw [show (⟨b, off + j, none⟩ : Addr).block = b from rfl, hb] at hj
            simpa using hj
      | _ => cases h0
theorem wf_u8 {n : Int} (h : (Lit.int .u8 n).wf = true) : 0 ≤ n ∧ n < 256 := by
  simp [Lit.wf, IntKind.min, IntKind.max, IntKind.bits, IntKind.signed] at h
  omega
theorem wf_i64 {n : Int} (h : (Lit.int .i64 n).wf = true) : -9223372036854775808 ≤ n ∧ n ≤ 9223372036854775807 := by
  simp [Lit.wf, IntKind.min, IntKind.max, IntKind.bits, IntKind.signed] at h
  omega
def bytesZ (zs : List Int) : ByteArray := ⟨(zs.map fun z => UInt8.ofNat z.toNat).toArray⟩
theorem u8s_bytesZ {zs : List Int} (h : ∀ n ∈ zs, 0 ≤ n ∧ n < 256) : u8s (bytesZ zs).data.toList = zs.map (Value.int .u8) := by
  unfold u8s bytesZ
  simp only [List.map_map]
  refine List.map_congr_left fun z hz => ?_
  obtain ⟨h0, h1⟩ := h z hz
  simp only [Function.comp]
  congr 1
  rw [UInt8.toNat_ofNat']
  omega
theorem bytesZ_size (zs : List Int) : (bytesZ zs).size = zs.length := by
  show (zs.map fun z => UInt8.ofNat z.toNat).toArray.size = _
  simp
theorem cells_u8 : Try.prog.cellsOf 5 = 1 := by kernel_rfl
theorem cells_int : Try.prog.cellsOf 3 = 1 := by kernel_rfl
set_option maxRecDepth 100000 in
theorem open_bytesA {H : Type} {enc : TypeId × Value → H} {W : World} {v : Value} {d : DataW H} {p : List MemPlace} {r : Reach} {b0 : Nat} (hval : Value.okWide Try.prog W r b0 24 v) (h0 : DataW.Trod enc Try.prog W 0 (fun _ => true) true 24 v d p) :
    ∃ (a : Option Addr) (c : Nat) (b : ByteArray), v = .slice a b.size c ∧ BytesA W [] a c (SW W) b ∧ b.size ≤ 9223372036854775807 := by
  obtain ⟨a0, len, cap, rfl⟩ := okWide_slice Try.underlying24 hval
  obtain ⟨fuel, hf⟩ := h0
  rcases open_ints Try.underlying24 Try.underlying5 cells_u8 hf with ⟨hcs, hx⟩ | ⟨a, len', cap', zs, hcs, _, hl, hm, hz, hx, hcell, hwz⟩
  · simp [Value.cells] at hcs
    obtain ⟨rfl, rfl, rfl⟩ := hcs
    exact ⟨none, 0, ByteArray.mk #[], rfl, ⟨.inl ⟨rfl, rfl, rfl⟩, .inl rfl, fun y o h => sw_at h⟩, by decide⟩
  · simp [Value.cells] at hcs
    obtain ⟨rfl, rfl, rfl⟩ := hcs
    simp only [if_true] at hz
    have hlen : (zs.take len).length = len := by rw [List.length_take]; omega
    have hu : u8s (bytesZ (zs.take len)).data.toList = (zs.take len).map (Value.int .u8) := u8s_bytesZ fun n hn => wf_u8 (hwz n (List.mem_of_mem_take hn))
    have hml : maxLen ≤ 9223372036854775807 := by decide
    refine ⟨some a, cap, bytesZ (zs.take len), by rw [bytesZ_size, hlen], ?_, by rw [bytesZ_size, hlen]; omega⟩
    by_cases h0 : len = 0
    · subst h0
      exact ⟨.inr (.inl ⟨a, rfl, by rw [bytesZ_size]; simp⟩), .inl (by rw [hu]; simp), fun y o h => sw_at h⟩
    · obtain ⟨⟨b, off, rfl⟩, hrd⟩ := rd_cells (W := W) (a := a) (cs := (zs.take len).map (Value.int .u8)) (by intro he; rw [List.map_eq_nil_iff] at he; rw [he] at hlen; simp at hlen; omega) (fun j u hu => by
        rw [List.getElem?_map] at hu
        obtain ⟨z, hz1, rfl⟩ := Option.map_eq_some_iff.1 hu
        have hj : j < len := by
          rcases Nat.lt_or_ge j (zs.take len).length with h | h
          · omega
          · rw [List.getElem?_eq_none h] at hz1; cases hz1
        rw [List.getElem?_take_of_lt hj] at hz1
        rw [hcell j (by omega), List.getD_eq_getElem?_getD, hz1]; rfl)
      exact ⟨.inr (.inr ⟨b, off, rfl⟩), by rw [hu]; exact hrd, fun y o h => sw_at h⟩
set_option maxRecDepth 100000 in
theorem open_intsA {H : Type} {enc : TypeId × Value → H} {W : World} {v : Value} {d : DataW H} {p : List MemPlace} {r : Reach} {b0 : Nat} (hval : Value.okWide Try.prog W r b0 25 v) (h0 : DataW.Trod enc Try.prog W 0 (fun _ => true) true 25 v d p) :
    ∃ (a : Option Addr) (c : Nat) (l : List Int), v = .slice a l.length c ∧ Rd (SW W) a (l.map (Value.int .i64)) ∧ l.length ≤ c ∧ (∀ x ∈ l, -9223372036854775808 ≤ x ∧ x ≤ 9223372036854775807) ∧ l.length ≤ 9223372036854775807 := by
  obtain ⟨a0, len, cap, rfl⟩ := okWide_slice Try.underlying25 hval
  obtain ⟨fuel, hf⟩ := h0
  rcases open_ints Try.underlying25 Try.underlying3 cells_int hf with ⟨hcs, hx⟩ | ⟨a, len', cap', zs, hcs, _, hl, hm, hz, hx, hcell, hwz⟩
  · simp [Value.cells] at hcs
    obtain ⟨rfl, rfl, rfl⟩ := hcs
    exact ⟨none, 0, [], rfl, .inl rfl, Nat.le_refl _, fun _ h => absurd h List.not_mem_nil, by decide⟩
  · simp [Value.cells] at hcs
    obtain ⟨rfl, rfl, rfl⟩ := hcs
    simp only [if_true] at hz
    have hlen : (zs.take len).length = len := by rw [List.length_take]; omega
    have hml : maxLen ≤ 9223372036854775807 := by decide
    refine ⟨some a, cap, zs.take len, by rw [hlen], ?_, by rw [hlen]; exact hl, fun x hx => wf_i64 (hwz x (List.mem_of_mem_take hx)), by rw [hlen]; omega⟩
    by_cases h0 : len = 0
    · subst h0; exact .inl (by simp)
    · exact (rd_cells (W := W) (a := a) (cs := (zs.take len).map (Value.int .i64)) (by intro he; rw [List.map_eq_nil_iff] at he; rw [he] at hlen; simp at hlen; omega) (fun j u hu => by
        rw [List.getElem?_map] at hu
        obtain ⟨z, hz1, rfl⟩ := Option.map_eq_some_iff.1 hu
        have hj : j < len := by
          rcases Nat.lt_or_ge j (zs.take len).length with h | h
          · omega
          · rw [List.getElem?_eq_none h] at hz1; cases hz1
        rw [List.getElem?_take_of_lt hj] at hz1
        rw [hcell j (by omega), List.getD_eq_getElem?_getD, hz1]; rfl)).2
end Go.Proofs.Ytbmieiffboenbaa
