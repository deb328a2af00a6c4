/- Bytes that lie in memory, nil or not, turned into a text. No condition. -/
import Derived.Test.YtbmieiffboenbaaMem2
namespace Go.Sw
open Go.RowKit

theorem GL_bytesB {d : Bool} {P : Program} {ops : Array Oper} {i : Nat} {Q : Post} {n : Nat} {E : Env} {W0 : World} {H : List Grp} {o : Oper} {ch : List (Nat × Bool)} {src dst e : TypeId} {x : Operand} {a : Option Addr} {cap : Nat} {S : Nat → Obj → Prop} (b : ByteArray)
    (ho : ops[i]? = some o) (hop : o.op = .convert src dst x) (hx : evO E ch x = some (.slice a b.size cap)) (hs : P.underlying src = some (.slice e)) (he : P.underlying e = some (.int .u8)) (hds : P.underlying dst = some .string)
    (hch : chainOf ops E o.guard = some ch) (hd : dstOk n ch o.dst = true) (hk : chKnown E ch = true)
    (hrd : Rd S a (u8s b.data.toList)) (hS : ∀ b o, S b o → At W0 H b o)
    (k : GL d P ops (i + 1) Q n (Env.put E o.dst ch (.string b)) W0 H) : GL d P ops i Q n E W0 H := by
  cases a with
  | some a =>
    refine GL_bytesStr (cap := cap) b.data.toList ho hop ?_ hs he hds hch hd hk hrd hS ?_
    · rw [hx, show b.data.toList.length = b.size from Array.length_toList]
    · have : (⟨b.data.toList.toArray⟩ : ByteArray) = b := by cases b; simp
      rw [this]; exact k
  | none =>
    have h0 : b = ByteArray.empty := by
      rcases hrd with h | ⟨_, _, _, _, _, h, _⟩
      · have h1 := congrArg List.length h
        unfold u8s at h1
        rw [List.length_map] at h1
        cases b with | mk d =>
        have : d = #[] := Array.eq_empty_of_size_eq_zero (by simpa using h1)
        rw [this]; rfl
      · cases h
    refine GL_quiet ho hch hd hk (fun r hr _ w _ => ?_) k
    unfold execOp
    simp only [hop]
    rw [hr _ _ hx, h0]
    have := run_convert_bytes_string (P := P) w src dst e none ByteArray.empty.size cap hs he hds
    simp only [Sem.run_bind, this]
    exact ⟨rfl, rfl⟩
theorem i64_in (x : Int) : -9223372036854775808 ≤ IntKind.wrap .i64 x ∧ IntKind.wrap .i64 x ≤ 9223372036854775807 := by
  simp only [IntKind.wrap, IntKind.bits, IntKind.signed]
  simp only [show (2 : Int) ^ 64 = 18446744073709551616 from by decide, show (2 : Int) ^ (64 - 1) = 9223372036854775808 from by decide]
  split <;> rename_i h <;> simp at h <;> omega
end Go.Sw
