/- A slice clipped; bytes appended to a full slice that is read only: they lie anew. No condition. -/
import Derived.Test.YtbmieiffboenbaaMem2
namespace Go.Sw
open Go.RowKit

theorem run_bounds3 {P : Program} {n cap : Nat} {kd kd' : IntKind} (h : n ≤ cap) (w : World) :
    (Instr.sliceBounds true n cap none (some (.int kd (n : Int))) (some (.int kd' (n : Int)))).run P w = .ok (0, n, n) w := by
  have h1 : (Instr.sliceBound (.int kd' (n : Int)) cap .slice3Acap).run P w = .ok n w := run_sliceBound rfl (by omega) (by omega) w
  have h2 : (Instr.sliceBound (.int kd (n : Int)) n .slice3B).run P w = .ok n w := run_sliceBound rfl (by omega) (by omega) w
  simp only [Instr.sliceBounds, Sem.run_bind, if_true, h1, Result.andThen_ok, h2, Sem.run_pure]
theorem GL_clip {d : Bool} {P : Program} {ops : Array Oper} {i : Nat} {Q : Post} {n : Nat} {E : Env} {W0 : World} {H : List Grp} {o : Oper} {ch : List (Nat × Bool)} {t e : TypeId} {x hi mx : Operand} {a : Option Addr} {len cap sz : Nat} {kd kd' : IntKind}
    (ho : ops[i]? = some o) (hop : o.op = .slice t x none (some hi) (some mx)) (hx : evO E ch x = some (.slice a len cap)) (hhi : evO E ch hi = some (.int kd (len : Int))) (hmx : evO E ch mx = some (.int kd' (len : Int))) (hu : P.underlying t = some (.slice e)) (hsz : sizeV P e = some sz)
    (hch : chainOf ops E o.guard = some ch) (hd : dstOk n ch o.dst = true) (hk : chKnown E ch = true)
    (hb : chB E ch → len ≤ cap) (ha : len = 0 ∨ ∃ b off, a = some ⟨b, off, none⟩)
    (k : GL d P ops (i + 1) Q n (Env.put E o.dst ch (.slice a len len)) W0 H) : GL d P ops i Q n E W0 H := by
  refine GL_quiet ho hch hd hk (fun r hr hcb w _ => ?_) k
  have h0 := hb hcb
  unfold execOp
  simp only [hop]
  rw [hr _ _ hx]
  simp only [Option.map_some, hr _ _ hhi, hr _ _ hmx, Option.map_none, Instr.sliceAt, Instr.slice, Sem.run_bind, run_underlying hu, Result.andThen_ok, run_bounds3 (P := P) (kd := kd) (kd' := kd') h0, sizeV_sound hsz, Sem.run_pure, Nat.zero_mul]
  refine ⟨rfl, ?_⟩
  have e1 : (if len = 0 then a else a.map (·.add 0)) = a := by
    rcases ha with h | ⟨b, off, rfl⟩
    · rw [if_pos h]
    · split
      · rfl
      · simp [addr_add]
  rw [e1]; rfl

theorem GL_appendFull {P : Program} {ops : Array Oper} {i : Nat} {Q : Post} {q : Nat} {E : Env} {W0 : World} {H : List Grp} {o : Oper} {ch : List (Nat × Bool)} {c : Call} {t tx e : TypeId} {inf : TypeInfo} {z x : Value} {a : Option Addr} {n m : Nat} {cs news : List Value} {S S2 : Nat → Obj → Prop}
    (ho : ops[i]? = some o) (hop : o.op = .call c) (hce : c.callee = .builtin .append) (hat : c.argTypes = #[t, tx]) (hargs : evL (evO E ch) c.args.toList = some [.slice a n n, x])
    (ht : P.underlying t = some (.slice e)) (hi : P.info? e = some inf) (hz : inf.zero = some z) (hi1 : inf.size = 1)
    (hkind : (∃ e', P.underlying tx = some (.slice e')) ∨ (P.underlying tx = some .string ∧ inf.size = 1))
    (hks : (∃ s, x = .string s) → inf.size = 1 ∧ P.underlying tx = some .string) (hkl : (∃ a n c, x = .slice a n c) → ∃ e', P.underlying tx = some (.slice e'))
    (hch : chainOf ops E o.guard = some ch) (hd : dstOk q ch o.dst = true) (hsure : chSure E ch = true)
    (hrd : Rd S a cs) (hcs : cs.length = n) (hna : (a = none ∧ n = 0) ∨ ∃ b off, a = some ⟨b, off, none⟩) (hsrc : SrcOf S2 x m news) (hS : ∀ b o, S b o → At W0 H b o) (hS2 : ∀ b o, S2 b o → At W0 H b o) (hl : news.length = m) (h1 : ∀ u ∈ news, u.oneCell' = true)
    (hmax : n + m ≤ 9223372036854775807) (hbytes : (n + m) * inf.bytes ≤ 140737488355328)
    (k : ∀ a' cap' g, n + m ≤ cap' → ((a' = none ∧ n + m = 0 ∧ cap' = 0) ∨ ∃ b off, a' = some ⟨b, off, none⟩) → Rd (fun b o => S b o ∨ inG g b o) a' (cs ++ news) → GL false P ops (i + 1) Q q (Env.put E o.dst ch (.slice a' (n + m) cap')) W0 (g :: H)) : GL false P ops i Q q E W0 H := by
  refine GL_eff (R := fun v H1 => ∃ a' cap' g, v = .slice a' (n + m) cap' ∧ n + m ≤ cap' ∧ ((a' = none ∧ n + m = 0 ∧ cap' = 0) ∨ ∃ b off, a' = some ⟨b, off, none⟩) ∧ Rd (fun b o => S b o ∨ inG g b o) a' (cs ++ news) ∧ H1 = g :: H) ho hch hd hsure (fun r hr w hs => ?_) (by rintro v H1 ⟨a', cap', g, rfl, h2, h3, h4, rfl⟩; exact k a' cap' g h2 h3 h4)
  have hS' : ∀ b o, S b o → w.heap[b]? = some o := fun b o h => hs.at (hS b o h)
  have hsrc' : Src P inf.size tx x m news w := srcOf_run hsrc hkind hks hkl (by rw [hi1, Nat.mul_one]; exact hl) h1 (fun b o h => hs.at (hS2 b o h))
  have hexec : ∀ {v : Value} {w' : World}, (Builtin.append_ #[t, tx] o.type #[.slice a n n, x]).run P w = .ok v w' → (execOp r o).run P w = .ok (.value v) w' := by
    intro v w' h
    unfold execOp
    simp only [hop, resolve, hce, hat, arr_map hr hargs, Sem.run_bind, Sem.run_pure, Result.andThen_ok, invoke, Go.builtin, h]
  by_cases hm : m = 0
  · subst hm
    have hn : news = [] := by cases news with | nil => rfl | cons _ _ => simp at hl
    subst hn
    refine ⟨.slice a n n, w, [] :: H, ⟨a, n, [], rfl, Nat.le_refl _, hna.imp (fun h => ⟨h.1, h.2, h.2⟩) id, ?_, rfl⟩, hs.flat (by simp), .inl (hexec ?_)⟩
    · rw [List.append_nil]; exact hrd.mono fun _ _ => .inl
    · cases a with
      | none => rcases hsrc'.kind with ⟨e', hk⟩ | hk <;> simp [Builtin.append_, run_underlying ht, run_underlying hk, sizeOf, typeInfo, hi, hsrc'.len, hsrc'.cells]
      | some ad => rcases hsrc'.kind with ⟨e', hk⟩ | hk <;> simp [Builtin.append_, run_underlying ht, run_underlying hk, sizeOf, typeInfo, hi, hsrc'.len, hsrc'.cells, storeCells]
  · have hold : (Builtin.firstCells inf.size n (.slice a n n)).run P w.drew = .ok cs.toArray w.drew := by
      rcases hrd with h | ⟨b, off, c2, e2, fz, h2, h3, h4⟩
      · have h0 : n = 0 := by rw [h] at hcs; simpa using hcs.symm
        subst h0; rw [h]
        cases a with
        | none => exact run_firstCells_none w.drew _ 0 0 0
        | some ad => exact run_firstCells_some (P := P) w.drew inf.size 0 ad 0 0 [] (by simp) (fun j v hv => by simp at hv)
      · subst h2
        refine run_firstCells_some (P := P) w.drew inf.size n ⟨b, off, none⟩ n n cs (by rw [hi1, Nat.mul_one]; exact hcs) (fun j v hv => ?_)
        rw [addr_add]
        exact cell_of (w := w.drew) (hS' _ _ h3) (h4 j v hv)
    have hg := run_append_grow_src (P := P) w t tx o.type e inf z ht hi hz a n n cs hold x m news hsrc' (by omega) (by omega) (growslice_fits (by omega) hbytes)
    have hge := grownCap_ge w (n + m) n e
    refine ⟨_, _, [(w.heap.size, .cells ((cs ++ news) ++ (Builtin.zeroCells z.cells (grownCap w (n + m) n e - (n + m))).toList).toArray e (0, 0))] :: H, ⟨some ⟨w.heap.size, 0, none⟩, grownCap w (n + m) n e, _, rfl, hge, .inr ⟨_, _, rfl⟩, ?_, rfl⟩, ?_, .inl (hexec hg)⟩
    · refine .inr ⟨_, 0, _, _, _, rfl, .inr (List.mem_singleton.2 rfl), fun j u hu => ?_⟩
      have hlt : j < (cs ++ news).length := by
        rcases Nat.lt_or_ge j (cs ++ news).length with h | h
        · exact h
        · rw [List.getElem?_eq_none h] at hu; cases hu
      rw [List.getElem?_toArray, Nat.zero_add, List.getElem?_append_left hlt]
      exact hu
    · have h2 := (hs.drew).new (w' := w.drew.alloc (.cells ((cs ++ news).toArray ++ Builtin.zeroCells z.cells (grownCap w (n + m) n e - (n + m))) e)) (o := .cells ((cs ++ news).toArray ++ Builtin.zeroCells z.cells (grownCap w (n + m) n e - (n + m))) e) rfl rfl rfl rfl
      have e1 : ((cs ++ news) ++ (Builtin.zeroCells z.cells (grownCap w (n + m) n e - (n + m))).toList).toArray = (cs ++ news).toArray ++ Builtin.zeroCells z.cells (grownCap w (n + m) n e - (n + m)) := by apply Array.ext'; simp
      rw [e1]; exact h2
end Go.Sw
