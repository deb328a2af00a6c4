/- XmlRemarks: remarks, instructions and blanks around a document change nothing, a second element behind it is wrong, for all bytes. The row, and its card, which ties what the library's tables hold to the program's text. No condition beyond the given statement's. -/
import Derived.Test.YtppgfiklmfoaeaaGreatDoorZ6
import Derived.ChangeMaps5
namespace Go.Proofs.YtppgfiklmfoaeaaGreatDoor
open Go Go.ChangeShapes Go.WideShapes Go.ChangeAt Go.RowKit Go.Sw Go.Esc Go.Json Go.Xml

theorem ownKnobXmlRemarks : ownKnob Tryz.prog.godebug = none := by kernel_rfl
set_option maxRecDepth 100000 in
theorem xmlRemarks_lifted (os : Os) (started : os.Started) (H : Type) (enc : TypeId × Value → H) :
    ReturnsInHanded {} Tryz.checked os 13 .any (fun w args => (Rows.xmlRemarksSpec.pre enc Tryz.prog Tryz.f13 Rows.xmlRemarksRow.domain false w args ∧ laidMetH Tryz.prog Rows.xmlRemarksRow.laid w) ∧ sizedMet enc Tryz.prog Tryz.f13 (OpenSpec.ofChange Rows.xmlRemarksSpec) false w args)
      (Rows.xmlRemarksSpec.post enc Tryz.prog Tryz.f13 false true false false) := by
  refine returnsIn_shaped (C := Tryz.checked) (X := fun w _ => laidMetH Tryz.prog Rows.xmlRemarksRow.laid w) (fun _ _ _ hh h => h.of_heap hh) ownKnobXmlRemarks started (by kernel_rfl) Tryz.func13
    (ChangeSpec.witness_shaped (enc := enc) (C := Tryz.checked) (os := os) (X := fun w _ => laidMetH Tryz.prog Rows.xmlRemarksRow.laid w) false (World.laidAll Tryz.prog os Rows.xmlRemarksRow.laid) #[.slice none 0 0, .int .u8 0] 8 (World.laidAll_os _ _ _)
      (World.shaped_of_ZipB (by kernel_rfl) (by kernel_rfl)) (by kernel_rfl) (by kernel_rfl) (by kernel_rfl)
      (by rw [MakeChecks.laidMetH_plain _ _ _ (by kernel_rfl)]; exact laidMet_laidAll _ (by kernel_rfl) (by kernel_rfl))) ?_
  intro W base args ds gs before hval0 hW hc hL hsh
  have hval : ∀ (j : Nat) t v, Tryz.f13.params[j]? = some t → args[j]? = some v → Value.okWide Tryz.prog W .any base t v := hval0
  have hW' := hW
  obtain ⟨p, q, hA0, hV, rfl, _, _⟩ := hW
  have hA : DataW.TrodAll enc Tryz.prog W 0 (fun _ => true) true Tryz.f13.params.toList args.toList ds p := hA0
  rw [Tryz.params13] at hA hval
  obtain ⟨v0, v1, d0, d1, q0, q1, rfl, rfl, rfl, h0, h1⟩ := trodAll_two hA
  obtain ⟨rfl, rfl⟩ := trodVars_none hV
  obtain ⟨a, c, l, rfl, hrd, hcap⟩ := open_bytesL (hval 0 22 v0 rfl rfl) h0
  obtain ⟨n, rfl⟩ := okWide_int Tryz.underlying5 (hval 1 5 v1 rfl rfl)
  obtain ⟨n', en, _, _, wn⟩ := open_int Tryz.underlying5 (hval 1 5 _ rfl rfl) h1
  injection en with _ en; subst en
  simp only [List.append_nil] at hW'
  rw [MakeChecks.laidMetH_plain _ _ _ (by kernel_rfl)] at hL
  have hB := baseX_of (base_of hL) hsh
  have hlt : ∀ x ∈ q0 ++ q1, x.block < W.heap.size := fun x hx => by simpa using hW'.lt x hx
  refine (xmlRemarks_ a c l (SW W) hrd hcap n (wf_u8 wn).1 (by have := (wf_u8 wn).2; omega) W [] (fun y o h => sw_at h) hB W (sat_nil W)).mono fun e W' ⟨v, H', he, ⟨hv, hH⟩, hs⟩ => ?_
  subst he; subst hv; subst hH
  have hb := hs.below
  exact ⟨_, rfl, post_below (pv := []) hW' (fun _ _ _ => trodAll_mk1 (shut_bool Tryz.underlying4 _)) (fun sp hsp => trodAll_mk2 (WideElems.Trod_stays laidOut_ (by kernel_rfl) (of_decide_eq_true (by kernel_rfl)) h0 (fun x hx => hb.same (hlt x (by simp [hx]))) (fun x hx => hsp x (by simp [hx]))) (WideElems.Trod_stays laidOut_ (by kernel_rfl) (of_decide_eq_true (by kernel_rfl)) h1 (fun x hx => hb.same (hlt x (by simp [hx]))) (fun x hx => hsp x (by simp [hx])))) (fun _ _ => rfl) (by simp) hb (ok_one (by kernel_rfl) rfl (okWide_bool_mk Tryz.underlying4 _))⟩
set_option maxHeartbeats 4000000 in
theorem xmlRemarks_closed : joinedFacts Tryz.prog 13 Tryz.f13 Rows.xmlRemarksSpec Rows.xmlRemarksRow = true := by
  unfold joinedFacts
  rw [cl_may, cl_lift, cl_make, cl_heard, cl_keys]
  iterate 31 (refine and_tt ?_ (by as_aux_lemma => kernel_rfl))
  as_aux_lemma => kernel_rfl
theorem xmlRemarks_said : Rows.XmlRemarksSaid :=
  OpenClaim.holds_of_wide 13 Tryz.f13 rfl rfl rfl rfl rfl rfl rfl ⟨rfl, rfl, rfl, rfl, rfl⟩ rfl rfl rfl rfl rfl (by as_aux_lemma => kernel_rfl) Tryz.func13 xmlRemarks_closed
    (of_decide_eq_true (by kernel_rfl)) (by unfold Func.isWrapper; first | (rw [if_pos (by decide +kernel)]; kernel_rfl) | (rw [if_neg (by decide +kernel)]; exact ⟨rfl, rfl⟩))
    (fun os started H enc _ => xmlRemarks_lifted os started H enc)
theorem xmlRemarks_card : Rows.XmlRemarksCardSaid :=
  Claim7.holds_tied_plain_at .later [] _ _ _ _ xmlRemarks_said (fun _ h => by cases h) (by as_aux_lemma => kernel_rfl) (fun _ h => by cases h) xmlRemarks_row_tie rfl ⟨rfl, rfl⟩ (by as_aux_lemma => kernel_rfl) rfl
    (fun f fn hf hfn => by
      obtain rfl : f = 13 := Option.some.inj ((show Tryz.prog.funcNamed "broadsheet/broadsheetlaw08.XmlRemarks" = some 13 by as_aux_lemma => kernel_rfl).symm.trans hf) |>.symm
      obtain rfl : fn = Tryz.f13 := (Option.some.inj (Tryz.func13.symm.trans hfn)).symm
      exact ⟨by as_aux_lemma => kernel_rfl, fun j t ht => by
        rw [Tryz.params13] at ht
        have hm : t ∈ [22, 5] := by simpa using Array.mem_of_getElem? ht
        have hall : ([22, 5].all fun u => !Tryz.prog.wantsStandIn u) = true := by as_aux_lemma => kernel_rfl
        exact (show Tryz.prog.wantsStandIn t = false by simpa using List.all_eq_true.1 hall t hm)⟩)
    (by as_aux_lemma => kernel_rfl)
#print axioms xmlRemarks_card
end Go.Proofs.YtppgfiklmfoaeaaGreatDoor
