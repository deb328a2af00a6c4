/- VfsSwaps: a rename is all or nothing, for all bytes and numbers. No condition beyond the given statement's. -/
import Derived.Test.YtbmieiffboenbaaVopen
import Derived.Test.YtbmieiffboenbaaVq
namespace Go.Proofs.Ytbmieiffboenbaa
open Go Go.ChangeShapes Go.WideShapes Go.ChangeAt Go.RowKit Go.Sw Go.Vf

set_option maxRecDepth 100000 in
theorem vfsSwaps_lifted (os : Os) (started : os.Started) (H : Type) (enc : TypeId × Value → H) :
    ReturnsInHanded {} Try.checked os 4 .any (Rows.vfsSwapsSpec.pre6 enc Try.prog Try.f4 Rows.vfsSwapsRow.domain false) (Rows.vfsSwapsSpec.post enc Try.prog Try.f4 false true false false) := by
  refine returnsInHanded_of_change (C := Try.checked) ownKnob_ started (by kernel_rfl) Try.func4
    (ChangeSpec.witness6 (enc := enc) (C := Try.checked) false ⟨#[], #[.slice none 0 0, .slice none 0 0, .slice none 0 0], []⟩ 8 (by kernel_rfl) (by kernel_rfl) (by kernel_rfl) (by kernel_rfl)) ?_
  intro W base args ds gs before hval0 hW hcnd _
  have hval : ∀ (j : Nat) t v, Try.f4.params[j]? = some t → args[j]? = some v → Value.okWide Try.prog W .any base t v := hval0
  have hW' := hW
  obtain ⟨p, q, hA0, hV, rfl, _, _⟩ := hW
  have hA : DataW.TrodAll enc Try.prog W 0 (fun _ => true) true Try.f4.params.toList args.toList ds p := hA0
  rw [Try.params4] at hA hval
  obtain ⟨v0, v1, v2, d0, d1, d2, q0, q1, q2, rfl, rfl, rfl, h0, h1, h2⟩ := trodAll_three hA
  obtain ⟨rfl, rfl⟩ := trodVars_none hV
  obtain ⟨aa, ca, a, rfl, hBA, hsa⟩ := open_bytesA (hval 0 24 v0 rfl rfl) h0
  obtain ⟨ab, cb, b, rfl, hBB, hsb⟩ := open_bytesA (hval 1 24 v1 rfl rfl) h1
  obtain ⟨ka, kc, l, rfl, hk1, hk2, hk3, hk4⟩ := open_intsA (hval 2 25 v2 rfl rfl) h2
  simp only [List.append_nil] at hW'
  have hlt : ∀ x ∈ q0 ++ q1 ++ q2, x.block < W.heap.size := fun x hx => by simpa using hW'.lt x hx
  refine (vfsSwaps_ aa ab ka ca cb kc (SW W) (SW W) (SW W) a b l W hBA hBB hk1 hk2 hk3 hk4 (fun y o h => sw_at h) hsa hsb [] W (sat_nil W)).mono fun e W' ⟨v, H', he, ⟨hv, G, hH⟩, hs⟩ => ?_
  subst he; subst hv; subst hH
  have hb := hs.below
  refine ⟨_, rfl, ⟨_, _, _, [], q0 ++ q1 ++ q2, [], hW', trodAll_mk1 (shut_bool Try.underlying4 _), ?_, rfl, hb.frame _, fun h => by cases h⟩⟩
  have k0 := Below.trod laidOut_ (by kernel_rfl) (of_decide_eq_true (by kernel_rfl)) h0 hb (fun x hx => hlt x (by simp [hx]))
  have k1 := Below.trod laidOut_ (by kernel_rfl) (of_decide_eq_true (by kernel_rfl)) h1 hb (fun x hx => hlt x (by simp [hx]))
  have k2 := Below.trod laidOut_ (by kernel_rfl) (of_decide_eq_true (by kernel_rfl)) h2 hb (fun x hx => hlt x (by simp [hx]))
  have k := trodAll_mk3 k0 k1 k2
  rw [← List.append_assoc] at k
  exact k

theorem vfsSwaps_said : Rows.VfsSwapsSaid :=
  OpenClaim.holds_of_wide 4 Try.f4 rfl rfl rfl rfl rfl rfl rfl ⟨rfl, rfl, rfl, rfl, rfl⟩ rfl rfl rfl rfl rfl (by kernel_rfl) Try.func4 (by kernel_rfl)
    (of_decide_eq_true (by kernel_rfl)) (by unfold Func.isWrapper; first | (rw [if_pos (by decide +kernel)]; kernel_rfl) | (rw [if_neg (by decide +kernel)]; exact ⟨rfl, rfl⟩))
    (fun os started H enc _ => vfsSwaps_lifted os started H enc)
#print axioms vfsSwaps_said
end Go.Proofs.Ytbmieiffboenbaa
