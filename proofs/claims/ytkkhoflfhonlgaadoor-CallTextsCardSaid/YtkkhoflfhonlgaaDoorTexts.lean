/-
  'hazellaw15.CallTexts' returns true for every input, and its arguments read afterwards as they read before; the card.
  Conditions: none.
-/
import Derived.Test.YtkkhoflfhonlgaaDoorRc
import Derived.Test.YtkkhoflfhonlgaaDoorWo
namespace Go.Proofs.YtkkhoflfhonlgaaDoor
open Go.ChangeShapes Go.WideShapes Go.ChangeAt Go.RowKit Go.Proofs.Hz
set_option maxRecDepth 100000

theorem texts_lifted (os : Os) (started : os.Started) (H : Type) (enc : TypeId × Value → H) :
    ReturnsInHanded {} Tryd.checked os 4 .any (fun w args => (Rows.callTextsSpec.pre enc Tryd.prog Tryd.f4 Rows.callTextsRow.domain false w args ∧ laidMetH Tryd.prog laid w) ∧ sizedMet enc Tryd.prog Tryd.f4 (OpenSpec.ofChange Rows.callTextsSpec) false w args)
      (Rows.callTextsSpec.post enc Tryd.prog Tryd.f4 false true false false) := by
  refine returns_shaped (C := Tryd.checked) (X := fun w _ => laidMetH Tryd.prog laid w) (fun _ _ _ hh h => h.of_heap hh) own started (by kernel_rfl) Tryd.func4
    (ChangeSpec.witness_shaped (enc := enc) (C := Tryd.checked) (os := os) (X := fun w _ => laidMetH Tryd.prog laid w) false (World.laidAll Tryd.prog os laid) #[.slice none 0 0, .slice none 0 0, .string ⟨#[]⟩] 8 (World.laidAll_os _ _ _)
      (World.shaped_of_ZipB (by kernel_rfl) (by kernel_rfl)) (by kernel_rfl) (by kernel_rfl) (by kernel_rfl) (met15 os _)) ?_
  intro W base args ds gs before hval0 hW hL hsh
  have hval : ∀ (j : Nat) t v, Tryd.f4.params[j]? = some t → args[j]? = some v → Value.okWide Tryd.prog W .any base t v := hval0
  have hW' := hW
  obtain ⟨p, q, hA0, hV, rfl, hfz, hnd⟩ := hW
  have hA : DataW.TrodAll enc Tryd.prog W 0 (fun _ => true) true Tryd.f4.params.toList args.toList ds p := hA0
  have hA1 := hA
  rw [Tryd.params4] at hA hval
  obtain ⟨v0, v1, v2, d0, d1, d2, p0, p1, p2, rfl, rfl, rfl, h0, h1, h2⟩ := trodAll_three hA
  obtain ⟨rfl, rfl⟩ := trodVars_none hV
  obtain ⟨l0, b0, hR0⟩ := arg_calls (hval 0 37 v0 rfl rfl) h0
  obtain ⟨l1, b1, hR1⟩ := arg_calls (hval 1 37 v1 rfl rfl) h1
  obtain ⟨s2, hR2⟩ := arg_text (hval 2 9 v2 rfl rfl) h2
  simp only [List.append_nil] at hW'
  refine (law_calls (pu := puN) (F := FF) (fun f af h => h) hX15 (gok15 hL hsh) (texts_ok l0 l1 b0 b1 s2) (RL.cons hR0 (RL.cons hR1 (RL.cons hR2 RL.nil)))).mono fun e W' ⟨he, hw⟩ => ?_
  subst he
  exact ⟨_, rfl, law_post (P := Tryd.prog) laidOut rfl hW' (by simpa using hA1) rfl (by kernel_rfl) rfl u4 hw⟩

theorem texts_holds : Rows.CallTextsSaid :=
  OpenClaim.holds_of_wide 4 Tryd.f4 rfl rfl rfl rfl rfl rfl rfl ⟨rfl, rfl, rfl, rfl, rfl⟩ rfl rfl rfl rfl rfl (by kernel_rfl) Tryd.func4 (by kernel_rfl)
    (of_decide_eq_true (by kernel_rfl)) (by unfold Func.isWrapper; first | (rw [if_pos (by decide +kernel)]; kernel_rfl) | (rw [if_neg (by decide +kernel)]; exact ⟨rfl, rfl⟩))
    (fun os started H enc _ => texts_lifted os started H enc)
theorem texts_card : Rows.CallTextsCardSaid :=
  Claim7.holds_tied_plain_at .later [] [.data, .data, .data, .data, .sentinel, .sentinel, .pinned] true (true, "ff2b209905071b229394137ba148ab1a99276f0a9ec90b1862ed281ee95e50a6") true texts_holds (fun _ h => by cases h) (by kernel_rfl) (fun _ h => by cases h) callTexts_row_tie rfl ⟨rfl, rfl⟩ (by kernel_rfl) rfl
    (fun f fn hf hfn => by
      obtain rfl : f = 4 := Option.some.inj ((show Tryd.prog.funcNamed "hazel/hazellaw15.CallTexts" = some 4 by kernel_rfl).symm.trans hf) |>.symm
      obtain rfl : fn = Tryd.f4 := (Option.some.inj (Tryd.func4.symm.trans hfn)).symm
      exact ⟨by kernel_rfl, fun j t ht => by
        rw [Tryd.params4] at ht
        have hm : t ∈ [37, 37, 9] := by simpa using Array.mem_of_getElem? ht
        have hall : ([37, 37, 9].all fun u => !Tryd.prog.wantsStandIn u) = true := by kernel_rfl
        exact (show Tryd.prog.wantsStandIn t = false by simpa using List.all_eq_true.1 hall t hm)⟩)
    (by kernel_rfl)
#print axioms texts_card
end Go.Proofs.YtkkhoflfhonlgaaDoor
