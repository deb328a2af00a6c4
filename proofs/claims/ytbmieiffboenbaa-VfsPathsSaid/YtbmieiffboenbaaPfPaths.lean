/- VfsPaths: which texts are paths, for every text. No condition beyond the given statement's. -/
import Derived.Test.YtbmieiffboenbaaVlaw
namespace Go.Proofs.Ytbmieiffboenbaa
open Go Go.ChangeShapes Go.WideShapes Go.ChangeAt Go.RowKit Go.Sw

set_option maxRecDepth 100000 in
theorem vfsPaths_lifted (os : Os) (started : os.Started) (H : Type) (enc : TypeId × Value → H) :
    ReturnsInHanded {} Try.checked os 3 .any (Rows.vfsPathsSpec.pre6 enc Try.prog Try.f3 Rows.vfsPathsRow.domain false) (Rows.vfsPathsSpec.post enc Try.prog Try.f3 false true false false) := by
  refine returnsInHanded_of_change (C := Try.checked) ownKnob_ started (by kernel_rfl) Try.func3
    (ChangeSpec.witness6 (enc := enc) (C := Try.checked) false ⟨#[], #[.string (ByteArray.mk #[])], []⟩ 8 (by kernel_rfl) (by kernel_rfl) (by kernel_rfl) (by kernel_rfl)) ?_
  intro W base args ds gs before hval0 hW hcnd _
  have hval : ∀ (j : Nat) t v, Try.f3.params[j]? = some t → args[j]? = some v → Value.okWide Try.prog W .any base t v := hval0
  have hW' := hW
  obtain ⟨p, q, hA0, hV, rfl, _, _⟩ := hW
  have hA : DataW.TrodAll enc Try.prog W 0 (fun _ => true) true Try.f3.params.toList args.toList ds p := hA0
  rw [Try.params3] at hA hval
  obtain ⟨v0, d0, rfl, rfl, h0⟩ := trodAll_one hA
  obtain ⟨rfl, rfl⟩ := trodVars_none hV
  obtain ⟨x, rfl, rfl, rfl, wx⟩ := Go.ChangeMaps.open_string Try.underlying9 (hval 0 9 v0 rfl rfl) h0
  simp only [List.append_nil] at hW'
  refine (vfsPaths_ x (Nat.le_trans wx (by decide)) W [] W (sat_nil W)).mono fun e W' ⟨v, H', he, ⟨hv, G, hH⟩, hs⟩ => ?_
  subst he; subst hv; subst hH
  exact ⟨_, rfl, post_below (pa := []) (pv := []) hW' (fun _ _ _ => trodAll_mk1 (shut_bool Try.underlying4 _)) (fun sp _ => trodAll_mk1 (Go.ChangeMaps.shut_string Try.underlying9 wx)) (fun _ _ => rfl) rfl hs.below (ok_one (by kernel_rfl) rfl (okWide_bool_mk Try.underlying4 _))⟩

theorem vfsPaths_said : Rows.VfsPathsSaid :=
  OpenClaim.holds_of_wide 3 Try.f3 rfl rfl rfl rfl rfl rfl rfl ⟨rfl, rfl, rfl, rfl, rfl⟩ rfl rfl rfl rfl rfl (by kernel_rfl) Try.func3 (by kernel_rfl)
    (of_decide_eq_true (by kernel_rfl)) (by unfold Func.isWrapper; first | (rw [if_pos (by decide +kernel)]; kernel_rfl) | (rw [if_neg (by decide +kernel)]; exact ⟨rfl, rfl⟩))
    (fun os started H enc _ => vfsPaths_lifted os started H enc)
#print axioms vfsPaths_said
end Go.Proofs.Ytbmieiffboenbaa
