/- Bytes turned into bytes of the same type: the row is marked as a text's. No condition. -/
import Derived.Test.YtbmieiffboenbaaMem2
namespace Go.Sw

theorem frozen_end {w : World} {b : Nat} {c : Array Value} {e : TypeId} (h : w.heap[b]? = some (.cells c e (0, 0))) : Wr b (.cells c e (c.size, c.size + 1)) w (w.freeze ⟨b, c.size, none⟩ 1) := by
  have hlt : b < w.heap.size := by
    rcases Nat.lt_or_ge b w.heap.size with h' | h'
    · exact h'
    · rw [Array.getElem?_eq_none h'] at h; cases h
  have hb : w.heap[b] = .cells c e (0, 0) := by rw [Array.getElem?_eq_getElem hlt] at h; exact Option.some.inj h
  unfold World.freeze
  rw [if_neg (by decide)]
  refine ⟨rfl, rfl, rfl, Array.size_modify, ?_, fun k hk => ?_⟩
  · show (w.heap.modify b _)[b]? = _
    rw [Array.getElem?_modify, if_pos rfl, h]
    rfl
  · show (w.heap.modify b _)[k]? = _
    rw [Array.getElem?_modify, if_neg (by omega)]
theorem GL_sameBytes {P : Program} {ops : Array Oper} {i : Nat} {Q : Post} {n : Nat} {E : Env} {W0 : World} {H H' : List Grp} {o : Oper} {ch : List (Nat × Bool)} {t e : TypeId} {x : Operand} {b off l cap : Nat} {c : Array Value} {e' : TypeId} {g : Grp} {j m : Nat}
    (ho : ops[i]? = some o) (hop : o.op = .convert t t x) (hx : evO E ch x = some (.slice (some ⟨b, off, none⟩) l cap)) (ht : P.underlying t = some (.slice e)) (he : P.underlying e = some (.int .u8))
    (hch : chainOf ops E o.guard = some ch) (hd : dstOk n ch o.dst = true) (hsure : chSure E ch = true)
    (hj : H[j]? = some g) (hi : g[m]? = some (b, .cells c e' (0, 0))) (hH' : H.set j (g.set m (b, .cells c e' (c.size, c.size + 1))) = H')
    (k : GL false P ops (i + 1) Q n (Env.put E o.dst ch (.slice (some ⟨b, off, none⟩) l cap)) W0 H') : GL false P ops i Q n E W0 H := by
  refine GL_eff (R := fun v H1 => v = .slice (some ⟨b, off, none⟩) l cap ∧ H1 = H') ho hch hd hsure (fun r hr w hs => ?_) (by rintro v H1 ⟨rfl, rfl⟩; exact k)
  have hblk := hs.has _ (List.mem_flatten.2 ⟨g, List.mem_of_getElem? hj, List.mem_of_getElem? hi⟩)
  have hw := frozen_end hblk
  have hsh : w.shape? b = some (e', c.size) := by unfold World.shape?; rw [hblk]
  refine ⟨_, w.freeze ⟨b, c.size, none⟩ 1, H', ⟨rfl, rfl⟩, ?_, .inl ?_⟩
  · have := hs.wr hj hi hw
    rw [hH'] at this; exact this
  · unfold execOp
    simp only [hop]
    rw [hr _ _ hx]
    simp [convert, run_underlying ht, run_underlying he, markStringish, hsh]
end Go.Sw
