/-
  'hazellaw15.CallKinds' returns true for every input, and its argument reads afterwards as it read before; the card.
  Conditions: none.
-/
import Derived.Test.YtkkhoflfhonlgaaDoorWz
import Derived.Test.YtkkhoflfhonlgaaDoorRc
open Go Go.Proofs
namespace Go.Proofs.Hz
def qKinds (c : Cl) (e : Int) (f : Int) : Option AV :=
  if (!(mayF c)) = true then
    some (.bool true)
  else
    if (kindF c.no (IntKind.wrap .i64 e)) = 0 then
      if c.no = 9 then
        if (kindF c.no 2) = 0 then
          if (kindF c.no 6) = 0 then
            some (.bool (decide ((kindF c.no 1) = 0)))
          else
            none
        else
          none
      else
        if (kindF c.no 2) = 0 then
          if (kindF c.no 6) = 0 then
            some (.bool (decide ((kindF c.no 1) = 0)))
          else
            none
        else
          none
    else
      if (kindF c.no (IntKind.wrap .i64 e)) = (kindF c.no (IntKind.wrap .i64 f)) then
        if e = f then
          if c.no = 9 then
            none
          else
            if (kindF c.no (IntKind.wrap .i64 e)) < 0 then
              none
            else
              if (kindF c.no (IntKind.wrap .i64 e)) > 12 then
                none
              else
                if (kindF c.no (IntKind.wrap .i64 e)) = 9 then
                  none
                else
                  if (kindF c.no 2) = 0 then
                    if (kindF c.no 6) = 0 then
                      some (.bool (decide ((kindF c.no 1) = 0)))
                    else
                      none
                  else
                    none
        else
          none
      else
        if c.no = 9 then
          none
        else
          if (kindF c.no (IntKind.wrap .i64 e)) < 0 then
            none
          else
            if (kindF c.no (IntKind.wrap .i64 e)) > 12 then
              none
            else
              if (kindF c.no (IntKind.wrap .i64 e)) = 9 then
                none
              else
                if (kindF c.no 2) = 0 then
                  if (kindF c.no 6) = 0 then
                    some (.bool (decide ((kindF c.no 1) = 0)))
                  else
                    none
                else
                  none
def qKindsW : List AV := [(.agg [(vt 0), (vt 1), (vt 2)]), (vt 3), (vt 4)]
def qKindsV (c : Cl) (e : Int) (f : Int) (σ : Nat → Nat) : Val := (valL ([.int .i64 c.no, .int .i64 c.a, .int .i64 c.b, .int .u8 e, .int .u8 f]) ([]) [] σ 0)
def qKindsX (c : Cl) (e : Int) (f : Int) (_σ : Nat → Nat) : List AV := [(.agg [(.int .i64 c.no), (.int .i64 c.a), (.int .i64 c.b)]), (.int .u8 e), (.int .u8 f)]
def qKindsY (_c : Cl) (_e : Int) (_f : Int) (_σ : Nat → Nat) : List Blk := []
theorem qKindsE (c : Cl) (e : Int) (f : Int) (σ : Nat → Nat) : qKindsW.map (gm (qKindsV c e f σ)) = qKindsX c e f σ := by kernel_rfl
theorem qKindsG (c : Cl) (e : Int) (f : Int) (σ : Nat → Nat) : ([] : List Blk).map (gB (qKindsV c e f σ)) = qKindsY c e f σ := by kernel_rfl
theorem qKinds_ok (c : Cl) (e : Int) (f : Int) {r0 : AV} (h : qKinds c e f = some r0) : Spec FF 8 [(.agg [(.int .i64 c.no), (.int .i64 c.a), (.int .i64 c.b)]), (.int .u8 e), (.int .u8 f)] r0 := by
  unfold qKinds at h
  have hσ : ∀ i j : Nat, (fun i : Nat => i) i = (fun i : Nat => i) j → i = j := fun _ _ e => e
  exact spec_begin (ρ := qKindsV c e f (fun i => i)) (xs := qKindsW) (by kernel_rfl) rfl rfl (by kernel_rfl) (fun z0 S => have H := Tok.start hσ S 0 5 0 0 ([.int .i64 c.no, .int .i64 c.a, .int .i64 c.b, .int .u8 e, .int .u8 f]) ([]) [] (.n) .n (qKindsE c e f _) (qKindsG c e f _); have H := H.t 7 [.bool (mayF c), .bool (!(mayF c))] |>.r [(.un .not (cT 5), (vt 6))] |>.s [] (.bool true) shown_ok |>.s [(.agg [(vt 0), (vt 1), (vt 2)])] (vt 5) (mayF_ok c); iteE h (fun h0 h => have H := H.m 6 true h0; H.e [] h) (fun h0 h => have H := H.t 12 [.int .i64 (IntKind.wrap .i64 e), .int .i64 (kindF c.no (IntKind.wrap .i64 e)), .int .i64 (IntKind.wrap .i64 f), .int .i64 (kindF c.no (IntKind.wrap .i64 f)), .bool (!decide ((kindF c.no (IntKind.wrap .i64 e)) = 0))] |>.r [(.conv .i64 (cT 3), (vt 7)), (.conv .i64 (cT 4), (vt 9)), (.bin .neq (cT 8) (cI 0), (vt 11))] |>.m 6 false (bF h0) |>.s [(.agg [(vt 0), (vt 1), (vt 2)]), (vt 7)] (vt 8) (kindC_ok c (IntKind.wrap .i64 e)) |>.s [(.agg [(vt 0), (vt 1), (vt 2)]), (vt 9)] (vt 10) (kindC_ok c (IntKind.wrap .i64 f)); iteE h (fun h1 h => have H := H.t 13 [.bool (decide (c.no = 9))] |>.r [(.bin .eql (cT 0) (cI 9), (vt 12))] |>.m 11 false (nT h1); iteE h (fun h2 h => have H := H.t 18 [.bool (decide ((kindF c.no (IntKind.wrap .i64 e)) < 0)), .bool (decide ((kindF c.no (IntKind.wrap .i64 e)) > 12)), .bool (decide ((kindF c.no (IntKind.wrap .i64 e)) = 9)), .int .i64 (kindF c.no 2), .bool (decide ((kindF c.no 2) = 0))] |>.r [(.bin .lss (cT 8) (cI 0), (vt 13)), (.bin .gtr (cT 8) (cI 12), (vt 14)), (.bin .eql (cT 8) (cI 9), (vt 15)), (.bin .eql (cT 16) (cI 0), (vt 17))] |>.m 12 true (decide_eq_true h2) |>.m 13 false (b := (decide ((kindF c.no (IntKind.wrap .i64 e)) < 0))) (decide_eq_false (by omega)) |>.m 14 false (b := (decide ((kindF c.no (IntKind.wrap .i64 e)) > 12))) (decide_eq_false (by omega)) |>.m 15 false (b := (decide ((kindF c.no (IntKind.wrap .i64 e)) = 9))) (decide_eq_false (by omega)) |>.s [(.agg [(vt 0), (vt 1), (vt 2)]), (.int .i64 2)] (vt 16) (kindC_ok c 2); iteE h (fun h3 h => have H := H.t 20 [.int .i64 (kindF c.no 6), .bool (decide ((kindF c.no 6) = 0))] |>.r [(.bin .eql (cT 18) (cI 0), (vt 19))] |>.m 17 true (decide_eq_true h3) |>.s [(.agg [(vt 0), (vt 1), (vt 2)]), (.int .i64 6)] (vt 18) (kindC_ok c 6); iteE h (fun h4 h => have H := H.t 22 [.int .i64 (kindF c.no 1), .bool (decide ((kindF c.no 1) = 0))] |>.r [(.bin .eql (cT 20) (cI 0), (vt 21))] |>.m 19 true (decide_eq_true h4) |>.s [(.agg [(vt 0), (vt 1), (vt 2)]), (.int .i64 1)] (vt 20) (kindC_ok c 1); H.e [] h) (fun _ h => nomatch h)) (fun _ h => nomatch h)) (fun h2 h => have H := H.t 18 [.bool (decide ((kindF c.no (IntKind.wrap .i64 e)) < 0)), .bool (decide ((kindF c.no (IntKind.wrap .i64 e)) > 12)), .bool (decide ((kindF c.no (IntKind.wrap .i64 e)) = 9)), .int .i64 (kindF c.no 2), .bool (decide ((kindF c.no 2) = 0))] |>.r [(.bin .lss (cT 8) (cI 0), (vt 13)), (.bin .gtr (cT 8) (cI 12), (vt 14)), (.bin .eql (cT 8) (cI 9), (vt 15)), (.bin .eql (cT 16) (cI 0), (vt 17))] |>.m 12 false (decide_eq_false h2) |>.m 13 false (b := (decide ((kindF c.no (IntKind.wrap .i64 e)) < 0))) (decide_eq_false (by omega)) |>.m 14 false (b := (decide ((kindF c.no (IntKind.wrap .i64 e)) > 12))) (decide_eq_false (by omega)) |>.m 15 false (b := (decide ((kindF c.no (IntKind.wrap .i64 e)) = 9))) (decide_eq_false (by omega)) |>.s [(.agg [(vt 0), (vt 1), (vt 2)]), (.int .i64 2)] (vt 16) (kindC_ok c 2); iteE h (fun h3 h => have H := H.t 20 [.int .i64 (kindF c.no 6), .bool (decide ((kindF c.no 6) = 0))] |>.r [(.bin .eql (cT 18) (cI 0), (vt 19))] |>.m 17 true (decide_eq_true h3) |>.s [(.agg [(vt 0), (vt 1), (vt 2)]), (.int .i64 6)] (vt 18) (kindC_ok c 6); iteE h (fun h4 h => have H := H.t 22 [.int .i64 (kindF c.no 1), .bool (decide ((kindF c.no 1) = 0))] |>.r [(.bin .eql (cT 20) (cI 0), (vt 21))] |>.m 19 true (decide_eq_true h4) |>.s [(.agg [(vt 0), (vt 1), (vt 2)]), (.int .i64 1)] (vt 20) (kindC_ok c 1); H.e [] h) (fun _ h => nomatch h)) (fun _ h => nomatch h))) (fun h1 h => have H := H.t 13 [.bool (decide ((kindF c.no (IntKind.wrap .i64 e)) = (kindF c.no (IntKind.wrap .i64 f))))] |>.r [(.bin .eql (cT 8) (cT 10), (vt 12))] |>.m 11 true (nF h1); iteE h (fun h2 h => have H := H.t 14 [.bool (!decide (e = f))] |>.r [(.bin .neq (cT 3) (cT 4), (vt 13))] |>.m 12 true (decide_eq_true h2); iteE h (fun h3 h => have H := H.t 15 [.bool (decide (c.no = 9))] |>.r [(.bin .eql (cT 0) (cI 9), (vt 14))] |>.m 13 false (nT h3); iteE h (fun _ h => nomatch h) (fun h4 h => have H := H.t 16 [.bool (decide ((kindF c.no (IntKind.wrap .i64 e)) < 0))] |>.r [(.bin .lss (cT 8) (cI 0), (vt 15))] |>.m 14 false (decide_eq_false h4); iteE h (fun _ h => nomatch h) (fun h5 h => have H := H.t 17 [.bool (decide ((kindF c.no (IntKind.wrap .i64 e)) > 12))] |>.r [(.bin .gtr (cT 8) (cI 12), (vt 16))] |>.m 15 false (decide_eq_false h5); iteE h (fun _ h => nomatch h) (fun h6 h => have H := H.t 18 [.bool (decide ((kindF c.no (IntKind.wrap .i64 e)) = 9))] |>.r [(.bin .eql (cT 8) (cI 9), (vt 17))] |>.m 16 false (decide_eq_false h6); iteE h (fun _ h => nomatch h) (fun h7 h => have H := H.t 20 [.int .i64 (kindF c.no 2), .bool (decide ((kindF c.no 2) = 0))] |>.r [(.bin .eql (cT 18) (cI 0), (vt 19))] |>.m 17 false (decide_eq_false h7) |>.s [(.agg [(vt 0), (vt 1), (vt 2)]), (.int .i64 2)] (vt 18) (kindC_ok c 2); iteE h (fun h8 h => have H := H.t 22 [.int .i64 (kindF c.no 6), .bool (decide ((kindF c.no 6) = 0))] |>.r [(.bin .eql (cT 20) (cI 0), (vt 21))] |>.m 19 true (decide_eq_true h8) |>.s [(.agg [(vt 0), (vt 1), (vt 2)]), (.int .i64 6)] (vt 20) (kindC_ok c 6); iteE h (fun h9 h => have H := H.t 24 [.int .i64 (kindF c.no 1), .bool (decide ((kindF c.no 1) = 0))] |>.r [(.bin .eql (cT 22) (cI 0), (vt 23))] |>.m 21 true (decide_eq_true h9) |>.s [(.agg [(vt 0), (vt 1), (vt 2)]), (.int .i64 1)] (vt 22) (kindC_ok c 1); H.e [] h) (fun _ h => nomatch h)) (fun _ h => nomatch h)))))) (fun _ h => nomatch h)) (fun h2 h => have H := H.t 14 [.bool (decide (c.no = 9))] |>.r [(.bin .eql (cT 0) (cI 9), (vt 13))] |>.m 12 false (decide_eq_false h2); iteE h (fun _ h => nomatch h) (fun h3 h => have H := H.t 15 [.bool (decide ((kindF c.no (IntKind.wrap .i64 e)) < 0))] |>.r [(.bin .lss (cT 8) (cI 0), (vt 14))] |>.m 13 false (decide_eq_false h3); iteE h (fun _ h => nomatch h) (fun h4 h => have H := H.t 16 [.bool (decide ((kindF c.no (IntKind.wrap .i64 e)) > 12))] |>.r [(.bin .gtr (cT 8) (cI 12), (vt 15))] |>.m 14 false (decide_eq_false h4); iteE h (fun _ h => nomatch h) (fun h5 h => have H := H.t 17 [.bool (decide ((kindF c.no (IntKind.wrap .i64 e)) = 9))] |>.r [(.bin .eql (cT 8) (cI 9), (vt 16))] |>.m 15 false (decide_eq_false h5); iteE h (fun _ h => nomatch h) (fun h6 h => have H := H.t 19 [.int .i64 (kindF c.no 2), .bool (decide ((kindF c.no 2) = 0))] |>.r [(.bin .eql (cT 17) (cI 0), (vt 18))] |>.m 16 false (decide_eq_false h6) |>.s [(.agg [(vt 0), (vt 1), (vt 2)]), (.int .i64 2)] (vt 17) (kindC_ok c 2); iteE h (fun h7 h => have H := H.t 21 [.int .i64 (kindF c.no 6), .bool (decide ((kindF c.no 6) = 0))] |>.r [(.bin .eql (cT 19) (cI 0), (vt 20))] |>.m 18 true (decide_eq_true h7) |>.s [(.agg [(vt 0), (vt 1), (vt 2)]), (.int .i64 6)] (vt 19) (kindC_ok c 6); iteE h (fun h8 h => have H := H.t 23 [.int .i64 (kindF c.no 1), .bool (decide ((kindF c.no 1) = 0))] |>.r [(.bin .eql (cT 21) (cI 0), (vt 22))] |>.m 20 true (decide_eq_true h8) |>.s [(.agg [(vt 0), (vt 1), (vt 2)]), (.int .i64 1)] (vt 21) (kindC_ok c 1); H.e [] h) (fun _ h => nomatch h)) (fun _ h => nomatch h)))))))))

end Go.Proofs.Hz
open Go Go.Proofs
namespace Go.Proofs.Hz
theorem kind_bounds (no e : Int) : 0 ≤ kindF no e ∧ kindF no e ≤ 12 ∧ kindF no e ≠ 9 ∧ (no = 9 → kindF no e = 0) := by
  unfold kindF
  (repeat' split) <;> omega
theorem kind_some {no e : Int} (h : kindF no e ≠ 0) : e = 0 ∨ e = 3 ∨ e = 4 := by
  unfold kindF at h
  by_cases h0 : e = 0
  · exact .inl h0
  · by_cases h3 : e = 3
    · exact .inr (.inl h3)
    · by_cases h4 : e = 4
      · exact .inr (.inr h4)
      · simp [h0, h3, h4] at h
theorem kind_0 (no : Int) : kindF no 0 = if no = 0 then 1 else if no = 1 ∨ no = 2 then 2 else if no = 3 then 4 else if no = 4 then 8 else if no = 5 then 6 else if 6 ≤ no ∧ no ≤ 8 then 4 + no else 0 := by simp [kindF]
theorem kind_3 (no : Int) : kindF no 3 = if no = 2 then 3 else if no = 4 ∨ no = 5 then 7 else 0 := by simp [kindF]
theorem kind_4 (no : Int) : kindF no 4 = if no = 3 then 5 else 0 := by simp [kindF]
theorem kind_03 (no : Int) (h : kindF no 3 ≠ 0) : kindF no 0 ≠ kindF no 3 := by
  rw [kind_3] at h ⊢; rw [kind_0]
  by_cases h2 : no = 2
  · subst h2; decide
  · rw [if_neg h2] at h ⊢
    by_cases h4 : no = 4
    · subst h4; decide
    · by_cases h5 : no = 5
      · subst h5; decide
      · rw [if_neg (by omega)] at h; exact absurd rfl h
theorem kind_04 (no : Int) (h : kindF no 4 ≠ 0) : no = 3 := by
  rw [kind_4] at h
  by_cases h3 : no = 3
  · exact h3
  · rw [if_neg h3] at h; exact absurd rfl h
theorem kind_inj {no e f : Int} (h0 : kindF no e ≠ 0) (h : kindF no e = kindF no f) : e = f := by
  have h1 : kindF no f ≠ 0 := h ▸ h0
  rcases kind_some h0 with rfl | rfl | rfl <;> rcases kind_some h1 with rfl | rfl | rfl
  · rfl
  · exact absurd h (kind_03 no h1)
  · have := kind_04 no h1; subst this; exact absurd h (by decide)
  · exact absurd h.symm (kind_03 no h0)
  · rfl
  · have := kind_04 no h1; subst this; exact absurd h (by decide)
  · have := kind_04 no h0; subst this; exact absurd h (by decide)
  · have := kind_04 no h0; subst this; exact absurd h (by decide)
  · rfl
theorem kinds_law (c : Cl) {e f : Int} (he : 0 ≤ e ∧ e ≤ 255) (hf : 0 ≤ f ∧ f ≤ 255) : qKinds c e f = some (.bool true) := by
  have w : ∀ x : Int, 0 ≤ x ∧ x ≤ 255 → IntKind.wrap .i64 x = x := fun x h => by unfold IntKind.wrap; simp [IntKind.signed, IntKind.bits]; omega
  have k2 : kindF c.no 2 = 0 := by simp [kindF]
  have k6 : kindF c.no 6 = 0 := by simp [kindF]
  have k1 : kindF c.no 1 = 0 := by simp [kindF]
  obtain ⟨b1, b2, b3, b4⟩ := kind_bounds c.no e
  unfold qKinds
  simp only [w e he, w f hf, k2, k6, k1, if_true, decide_true]
  by_cases hm : (!(mayF c)) = true
  · rw [if_pos hm]
  · rw [if_neg hm]
    by_cases h0 : kindF c.no e = 0
    · rw [if_pos h0]
      split <;> rfl
    · have h9 : c.no ≠ 9 := fun h => h0 (b4 h)
      rw [if_neg h0]
      by_cases h1 : kindF c.no e = kindF c.no f
      · rw [if_pos h1, if_pos (kind_inj h0 h1), if_neg h9, if_neg (by omega), if_neg (by omega), if_neg b3]
      · rw [if_neg h1, if_neg h9, if_neg (by omega), if_neg (by omega), if_neg b3]
theorem kinds_ok' (c : Cl) {e f : Int} (he : 0 ≤ e ∧ e ≤ 255) (hf : 0 ≤ f ∧ f ≤ 255) : Spec FF 8 [c.av, .int .u8 e, .int .u8 f] (.bool true) := qKinds_ok c e f (kinds_law c he hf)
end Go.Proofs.Hz
namespace Go.Proofs.YtkkhoflfhonlgaaDoor
open Go.ChangeShapes Go.WideShapes Go.ChangeAt Go.RowKit Go.Proofs.Hz
set_option maxRecDepth 100000

theorem kinds_lifted (os : Os) (started : os.Started) (H : Type) (enc : TypeId × Value → H) :
    ReturnsInHanded {} Tryd.checked os 8 .any (fun w args => (Rows.callKindsSpec.pre enc Tryd.prog Tryd.f8 Rows.callKindsRow.domain false w args ∧ laidMetH Tryd.prog laid w) ∧ sizedMet enc Tryd.prog Tryd.f8 (OpenSpec.ofChange Rows.callKindsSpec) false w args)
      (Rows.callKindsSpec.post enc Tryd.prog Tryd.f8 false true false false) := by
  refine returnsInHanded_of_change_and (C := Tryd.checked) (X := fun w _ => laidMetH Tryd.prog laid w) (fun _ _ _ hh h => h.of_heap hh) own started (by kernel_rfl) Tryd.func8
    (ChangeSpec.witness_shaped (enc := enc) (C := Tryd.checked) (os := os) (X := fun w _ => laidMetH Tryd.prog laid w) false (World.laidAll Tryd.prog os laid) #[.agg #[.int .i64 0, .int .i64 0, .int .i64 0], .int .u8 0, .int .u8 0] 8 (World.laidAll_os _ _ _)
      (World.shaped_of_ZipB (by kernel_rfl) (by kernel_rfl)) (by kernel_rfl) (by kernel_rfl) (by kernel_rfl) (met15 os _)) ?_
  intro W base args ds gs before hval0 hW _ _ hL _
  have hval : ∀ (j : Nat) t v, Tryd.f8.params[j]? = some t → args[j]? = some v → Value.okWide Tryd.prog W .any base t v := hval0
  have hW' := hW
  obtain ⟨p, q, hA0, hV, rfl, hfz, hnd⟩ := hW
  have hA : DataW.TrodAll enc Tryd.prog W 0 (fun _ => true) true Tryd.f8.params.toList args.toList ds p := hA0
  have hA1 := hA
  rw [Tryd.params8] at hA hval
  obtain ⟨v0, v1, v2, d0, d1, d2, p0, p1, p2, rfl, rfl, rfl, h0, h1, h2⟩ := trodAll_three hA
  obtain ⟨rfl, rfl⟩ := trodVars_none hV
  obtain ⟨c, hR0⟩ := arg_call (hval 0 23 v0 rfl rfl) h0
  obtain ⟨e, rfl, rfl, rfl, we⟩ := open_int u5 (hval 1 5 v1 rfl rfl) h1
  obtain ⟨f, rfl, rfl, rfl, wf⟩ := open_int u5 (hval 2 5 v2 rfl rfl) h2
  simp only [List.append_nil] at hW'
  refine (law_calls (pu := puN) (F := FF) (fun f af h => h) (gok15 hL) (kinds_ok' c (bounds_u8 we) (bounds_u8 wf)) (RL.cons hR0 (RL.cons (.int _ _) (RL.cons (.int _ _) RL.nil)))).mono fun e W' ⟨he, hw⟩ => ?_
  subst he
  exact ⟨_, rfl, law_post (P := Tryd.prog) laidOut rfl hW' (by simpa using hA1) rfl (by kernel_rfl) rfl u4 hw⟩

theorem kinds_holds : Rows.CallKindsSaid :=
  OpenClaim.holds_of_wide 8 Tryd.f8 rfl rfl rfl rfl rfl rfl rfl ⟨rfl, rfl, rfl, rfl, rfl⟩ rfl rfl rfl rfl rfl (by kernel_rfl) Tryd.func8 (by kernel_rfl)
    (of_decide_eq_true (by kernel_rfl)) (by unfold Func.isWrapper; first | (rw [if_pos (by decide +kernel)]; kernel_rfl) | (rw [if_neg (by decide +kernel)]; exact ⟨rfl, rfl⟩))
    (fun os started H enc _ => kinds_lifted os started H enc)
theorem kinds_card : Rows.CallKindsCardSaid :=
  Claim7.holds_tied_plain_at .later [] [.data, .data, .data, .data, .sentinel, .sentinel, .pinned] true (true, "ff2b209905071b229394137ba148ab1a99276f0a9ec90b1862ed281ee95e50a6") true kinds_holds (fun _ h => by cases h) (by kernel_rfl) (fun _ h => by cases h) callKinds_row_tie rfl ⟨rfl, rfl⟩ (by kernel_rfl) rfl
    (fun f fn hf hfn => by
      obtain rfl : f = 8 := Option.some.inj ((show Tryd.prog.funcNamed "hazel/hazellaw15.CallKinds" = some 8 by kernel_rfl).symm.trans hf) |>.symm
      obtain rfl : fn = Tryd.f8 := (Option.some.inj (Tryd.func8.symm.trans hfn)).symm
      exact ⟨by kernel_rfl, fun j t ht => by
        rw [Tryd.params8] at ht
        have hm : t ∈ [23, 5, 5] := by simpa using Array.mem_of_getElem? ht
        have hall : ([23, 5, 5].all fun u => !Tryd.prog.wantsStandIn u) = true := by kernel_rfl
        exact (show Tryd.prog.wantsStandIn t = false by simpa using List.all_eq_true.1 hall t hm)⟩)
    (by kernel_rfl)
#print axioms kinds_card
end Go.Proofs.YtkkhoflfhonlgaaDoor
