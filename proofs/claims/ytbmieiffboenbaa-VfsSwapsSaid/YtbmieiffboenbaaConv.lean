/- Bytes to texts and back. No condition. -/
import Derived.Test.YtbmieiffboenbaaHeld
import Derived.Laws.IdiomStrings
namespace Go.Sw

def u8s (l : List UInt8) : List Value := l.map fun b => Value.int .u8 (b.toNat : Int)

theorem GL_bytesStr {d : Bool} {P : Program} {ops : Array Oper} {i : Nat} {Q : Post} {n : Nat} {E : Env} {W0 : World} {H : List Grp} {o : Oper} {ch : List (Nat × Bool)} {src dst e : TypeId} {x : Operand} {a : Addr} {cap : Nat} {S : Nat → Obj → Prop} (l : List UInt8)
    (ho : ops[i]? = some o) (hop : o.op = .convert src dst x) (hx : evO E ch x = some (.slice (some a) l.length cap)) (hs : P.underlying src = some (.slice e)) (he : P.underlying e = some (.int .u8)) (hds : P.underlying dst = some .string)
    (hch : chainOf ops E o.guard = some ch) (hd : dstOk n ch o.dst = true) (hk : chKnown E ch = true)
    (hrd : Rd S (some a) (u8s l)) (hS : ∀ b o, S b o → At W0 H b o)
    (k : GL d P ops (i + 1) Q n (Env.put E o.dst ch (.string ⟨l.toArray⟩)) W0 H) : GL d P ops i Q n E W0 H := by
  refine GL_quiet ho hch hd hk (fun r hr _ w hsat => ?_) k
  unfold execOp
  simp only [hop]
  rw [hr _ _ hx]
  have := Go.run_convert_bytes_back (P := P) w src dst e a cap l hs he hds (fun j hj => by
    have hv : (u8s l)[j]? = some (.int .u8 (l[j].toNat : Int)) := by simp [u8s, hj]
    obtain ⟨b, off, c, t, fz, h1, h2, h3, h4⟩ := hrd.elt hv
    have ha : a.add j = ⟨b, off + j, none⟩ := h3
    rw [ha]
    exact cell_of (hsat.at (hS _ _ h2)) h4)
  simp only [Sem.run_bind, Sem.run_pure, this, Result.andThen_ok]
  exact ⟨rfl, rfl⟩

/-- an element of an array that lies in a block -/
theorem GL_indexArr {d : Bool} {P : Program} {ops : Array Oper} {i : Nat} {Q : Post} {n : Nat} {E : Env} {W0 : World} {H : List Grp} {o : Oper} {ch : List (Nat × Bool)} {t e : TypeId} {x ix : Operand} {b off len sz : Nat} {kd : IntKind} {j : Int}
    (ho : ops[i]? = some o) (hop : o.op = .indexAddr t x ix) (hx : evO E ch x = some (.pointer (some ⟨b, off, none⟩))) (hix : evO E ch ix = some (.int kd j)) (hu : P.underlying t = some (.array len e)) (hsz : sizeV P e = some sz)
    (hch : chainOf ops E o.guard = some ch) (hd : dstOk n ch o.dst = true) (hk : chKnown E ch = true)
    (hb : chB E ch → 0 ≤ j ∧ j < len)
    (k : GL d P ops (i + 1) Q n (Env.put E o.dst ch (.pointer (some ⟨b, off + j.toNat * sz, none⟩))) W0 H) : GL d P ops i Q n E W0 H := by
  refine GL_quiet ho hch hd hk (fun r hr hcb w _ => ?_) k
  obtain ⟨h0, h1⟩ := hb hcb
  unfold execOp
  simp only [hop]
  rw [hr _ _ hx, hr _ _ hix]
  simp only [Instr.indexAt, asIntOf, Instr.sureAddr, Sem.run_bind, Sem.run_pure, Result.andThen_ok, run_underlying hu, if_pos (⟨h0, h1⟩ : 0 ≤ j ∧ j < (len : Int)), sizeV_sound hsz, addr_add]
  exact ⟨rfl, rfl⟩

end Go.Sw
