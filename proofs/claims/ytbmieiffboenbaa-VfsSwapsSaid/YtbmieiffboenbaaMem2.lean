/- Rules for memory that is made: a map cloned, a slice made, a text's bytes; an interface taken apart. No condition. -/
import Derived.Test.YtbmieiffboenbaaMap2
import Derived.Test.YtbmieiffboenbaaLib
import Derived.Test.YtbmieiffboenbaaConv
import Derived.Laws.MakeOwn
import Derived.Laws.IdiomStrings
namespace Go.Sw
open Go.RowKit

theorem run_clone {P : Program} {w : World} {r : Nat} {es : Array MapEntry} {clock : Nat} (t : TypeId) (hb : w.heap[r]? = some (.map es clock)) :
    (Extern.MapsClone.clone #[.iface t (.map (some r))]).run P w = .ok (.iface t (.map (some w.heap.size))) (w.alloc (.map es clock)) := by
  have e : Extern.MapsClone.clone #[.iface t (.map (some r))] = (getObj r >>= fun o => match o with
      | .map entries clock => (newObj (.map entries clock) >>= fun n => pure (.iface t (.map (some n))))
      | _ => stuck "maps.clone: a map expected") := rfl
  rw [e]
  simp only [Sem.run_bind, run_getObj_map hb, Result.andThen_ok, run_newObj, Sem.run_pure]
  rfl
theorem GL_cloneX {P : Program} {ops : Array Oper} {i : Nat} {Q : Post} {n : Nat} {E : Env} {W0 : World} {H : List Grp} {o : Oper} {ch : List (Nat × Bool)} {c : Call} {fo : Operand} {f : FuncId} {t : TypeId} {r clock : Nat} {es : Array MapEntry} {fn : Func}
    (ho : ops[i]? = some o) (hop : o.op = .call c) (hce : c.callee = .value fo) (hfo : evO E ch fo = some (.func (.func f) #[] #[])) (hargs : evL (evO E ch) c.args.toList = some [.iface t (.map (some r))])
    (hf : P.funcs[f]? = some fn) (hrt : (fn.name == "runtime.NumGoroutine") = false) (hbody : fn.body.isNone = true) (hn : Extern.findNext fn = none) (he : Extern.find fn = some Extern.MapsClone.clone)
    (hch : chainOf ops E o.guard = some ch) (hd : dstOk n ch o.dst = true) (hsure : chSure E ch = true) (hA : At W0 H r (.map es clock))
    (k : ∀ b, GL false P ops (i + 1) Q n (Env.put E o.dst ch (.iface t (.map (some b)))) W0 ([(b, .map es clock)] :: H)) : GL false P ops i Q n E W0 H := by
  refine GL_eff (R := fun v H1 => ∃ b, v = .iface t (.map (some b)) ∧ H1 = [(b, .map es clock)] :: H) ho hch hd hsure (fun rr hr w hs => ?_) (by rintro v H1 ⟨b, rfl, rfl⟩; exact k b)
  refine ⟨_, w.alloc (.map es clock), _, ⟨w.heap.size, rfl, rfl⟩, hs.new rfl rfl rfl rfl, .inl ?_⟩
  unfold execOp
  simp only [hop]
  simp only [resolve, hce]
  rw [hr _ _ hfo, arr_map hr hargs]
  simp only [Deferred.ofValue, Sem.run_bind, Sem.run_pure, Result.andThen_ok, invoke]
  have := run_callFunc_extern hf hrt hbody hn he #[.iface t (.map (some r))] w
  simp only [Array.empty_append, Array.append_empty, this, run_clone t (hs.at hA), Result.andThen_ok]

theorem GL_assert {d : Bool} {P : Program} {ops : Array Oper} {i : Nat} {Q : Post} {n : Nat} {E : Env} {W0 : World} {H : List Grp} {o : Oper} {ch : List (Nat × Bool)} {x : Operand} {xt t k e : TypeId} {v : Value}
    (ho : ops[i]? = some o) (hop : o.op = .typeAssert x xt t false) (hx : evO E ch x = some (.iface t v)) (hu : P.underlying t = some (.map k e))
    (hch : chainOf ops E o.guard = some ch) (hd : dstOk n ch o.dst = true) (hk : chKnown E ch = true)
    (kk : GL d P ops (i + 1) Q n (Env.put E o.dst ch v) W0 H) : GL d P ops i Q n E W0 H := by
  refine GL_quiet ho hch hd hk (fun r hr _ w _ => ?_) kk
  unfold execOp
  simp only [hop]
  rw [hr _ _ hx]
  simp [Instr.typeAssert, run_underlying hu, Result.andThen]
  exact ⟨rfl, rfl⟩

theorem GL_makeS {P : Program} {ops : Array Oper} {i : Nat} {Q : Post} {n : Nat} {E : Env} {W0 : World} {H : List Grp} {o : Oper} {ch : List (Nat × Bool)} {t e : TypeId} {x y : Operand} {inf : TypeInfo} {z : Value} {l : Nat} {c : List Value}
    (ho : ops[i]? = some o) (hop : o.op = .makeSlice t x y) (hx : evO E ch x = some (.int .i64 (l : Int))) (hy : evO E ch y = some (.int .i64 (l : Int))) (ht : P.underlying t = some (.slice e)) (hi : P.info? e = some inf) (hz : inf.zero = some z)
    (hb : (inf.bytes : Int) * (l : Int) ≤ 281474976710656) (hl : l ≤ 9223372036854775807) (hm : l * inf.size ≤ 16777216) (hc : madeCells z.cells (l * inf.size) = c.toArray)
    (hch : chainOf ops E o.guard = some ch) (hd : dstOk n ch o.dst = true) (hsure : chSure E ch = true)
    (k : ∀ b, GL false P ops (i + 1) Q n (Env.put E o.dst ch (.slice (some ⟨b, 0, none⟩) l l)) W0 ([(b, .cells c.toArray e)] :: H)) : GL false P ops i Q n E W0 H :=
  GL_new (f := fun b => .slice (some ⟨b, 0, none⟩) l l) ho hch hd hsure (fun r hr w => by
    unfold execOp; simp only [hop]
    rw [hr _ _ hx, hr _ _ hy]
    have := run_makeSlice (P := P) w t e inf z ht hi hz .i64 .i64 (l : Int) (l : Int) (by omega) (Int.le_refl _) (by simpa using hm) hb (by omega)
    simp only [Int.toNat_natCast, hc] at this
    simp only [Sem.run_bind, this, Result.andThen_ok]
    rfl) k

/-- a text's bytes: a row of its own; what lies behind its end is not told -/
theorem GL_strBytes {P : Program} {ops : Array Oper} {i : Nat} {Q : Post} {n : Nat} {E : Env} {W0 : World} {H : List Grp} {o : Oper} {ch : List (Nat × Bool)} {src dst e : TypeId} {x : Operand} {s : ByteArray}
    (ho : ops[i]? = some o) (hop : o.op = .convert src dst x) (hx : evO E ch x = some (.string s)) (hs' : P.underlying src = some .string) (hds : P.underlying dst = some (.slice e)) (he : P.underlying e = some (.int .u8))
    (hch : chainOf ops E o.guard = some ch) (hd : dstOk n ch o.dst = true) (hsure : chSure E ch = true)
    (k : ∀ b cap g, s.size ≤ cap → Rd (inG g) (some ⟨b, 0, none⟩) (u8s s.data.toList) → GL false P ops (i + 1) Q n (Env.put E o.dst ch (.slice (some ⟨b, 0, none⟩) s.size cap)) W0 (g :: H)) : GL false P ops i Q n E W0 H := by
  refine GL_eff (R := fun v H1 => ∃ b cap g, v = .slice (some ⟨b, 0, none⟩) s.size cap ∧ s.size ≤ cap ∧ Rd (inG g) (some ⟨b, 0, none⟩) (u8s s.data.toList) ∧ H1 = g :: H) ho hch hd hsure (fun rr hr w hs => ?_) (by rintro v H1 ⟨b, cap, g, rfl, h1, h2, rfl⟩; exact k b cap g h1 h2)
  have hrun := run_bytes_of_string (P := P) w src dst e s hs' hds he
  refine ⟨_, w.drew.alloc (.cells (bytesRow s (grownCap w s.size 0 e)) e ((bytesRow s (grownCap w s.size 0 e)).size, (bytesRow s (grownCap w s.size 0 e)).size + 1)), _, ⟨w.heap.size, grownCap w s.size 0 e, _, rfl, by have := grownCap_ge w s.size 0 e; omega, ?_, rfl⟩, (hs.drew).new rfl rfl rfl rfl, .inl ?_⟩
  · refine .inr ⟨_, 0, _, _, _, rfl, List.mem_singleton.2 rfl, fun j u hu => ?_⟩
    unfold u8s at hu
    rw [List.getElem?_map] at hu
    cases hj : s.data.toList[j]? with
    | none => rw [hj] at hu; simp at hu
    | some b =>
      rw [hj] at hu
      simp only [Option.map_some, Option.some.injEq] at hu
      obtain ⟨hlt, hb⟩ := List.getElem?_eq_some_iff.1 hj
      have hlt' : j < s.data.size := by simpa using hlt
      rw [Nat.zero_add, bytesRow_at s _ j hlt', ← hu, ← hb]
      simp
  · unfold execOp
    simp only [hop]
    rw [hr _ _ hx]
    simp only [Sem.run_bind, Sem.run_pure, hrun, Result.andThen_ok]
end Go.Sw
