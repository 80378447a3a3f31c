/-
  'hazellaw15.CallTells' returns true for every input, and its argument reads afterwards as it read before; the card.
  Conditions: none.
-/
import Derived.Test.YtkkhoflfhonlgaaDoorWz
import Derived.Test.YtkkhoflfhonlgaaDoorRc
open Go Go.Proofs
namespace Go.Proofs.Hz
def qTells (no : Int) (a : Int) (b : Int) (t : Int) (id : Int) (e : Int) : Option AV :=
  if (decOp (Cl.mk no a b)) = (decOp (Cl.mk no a b)) then
    if (((decR (Cl.mk no a b) (Int.tmod (IntKind.wrap .i64 t) 16) (Int.tmod (IntKind.wrap .i64 id) 8) 0) : Int) == (decR (Cl.mk no a b) (Int.tmod (IntKind.wrap .i64 t) 16) (Int.tmod (IntKind.wrap .i64 id) 8) 0) && (((decR (Cl.mk no a b) (Int.tmod (IntKind.wrap .i64 t) 16) (Int.tmod (IntKind.wrap .i64 id) 8) 1) : Int) == (decR (Cl.mk no a b) (Int.tmod (IntKind.wrap .i64 t) 16) (Int.tmod (IntKind.wrap .i64 id) 8) 1) && (((decR (Cl.mk no a b) (Int.tmod (IntKind.wrap .i64 t) 16) (Int.tmod (IntKind.wrap .i64 id) 8) 2) : Int) == (decR (Cl.mk no a b) (Int.tmod (IntKind.wrap .i64 t) 16) (Int.tmod (IntKind.wrap .i64 id) 8) 2) && true))) = true then
      if (decE (Cl.mk no a b)) = (decE (Cl.mk no a b)) then
        if (!(mayF (Cl.mk no a b))) = true then
          some (.bool true)
        else
          some (.bool (decide ((kindF (Cl.mk no a b).no (IntKind.wrap .i64 e)) = (kindF (Cl.mk no a b).no (IntKind.wrap .i64 e)))))
      else
        none
    else
      none
  else
    none
def qTellsW : List AV := [(.agg (vT 0 6))]
def qTellsV (no : Int) (a : Int) (b : Int) (t : Int) (id : Int) (e : Int) (σ : Nat → Nat) : Val := (valL ([.int .i64 no, .int .i64 a, .int .i64 b, .int .u8 t, .int .u8 id, .int .u8 e]) ([]) [] σ 0)
def qTellsX (no : Int) (a : Int) (b : Int) (t : Int) (id : Int) (e : Int) (_σ : Nat → Nat) : List AV := [(.agg [(.int .i64 no), (.int .i64 a), (.int .i64 b), (.int .u8 t), (.int .u8 id), (.int .u8 e)])]
def qTellsY (_no : Int) (_a : Int) (_b : Int) (_t : Int) (_id : Int) (_e : Int) (_σ : Nat → Nat) : List Blk := []
theorem qTellsE (no : Int) (a : Int) (b : Int) (t : Int) (id : Int) (e : Int) (σ : Nat → Nat) : qTellsW.map (gm (qTellsV no a b t id e σ)) = qTellsX no a b t id e σ := by kernel_rfl
theorem qTellsG (no : Int) (a : Int) (b : Int) (t : Int) (id : Int) (e : Int) (σ : Nat → Nat) : ([] : List Blk).map (gB (qTellsV no a b t id e σ)) = qTellsY no a b t id e σ := by kernel_rfl
theorem qTells_ok (no : Int) (a : Int) (b : Int) (t : Int) (id : Int) (e : Int) {r0 : AV} (h : qTells no a b t id e = some r0) : Spec FF 3 [(.agg [(.int .i64 no), (.int .i64 a), (.int .i64 b), (.int .u8 t), (.int .u8 id), (.int .u8 e)])] r0 := by
  unfold qTells at h
  have hσ : ∀ i j : Nat, (fun i : Nat => i) i = (fun i : Nat => i) j → i = j := fun _ _ e => e
  exact spec_begin (ρ := qTellsV no a b t id e (fun i => i)) (xs := qTellsW) (by kernel_rfl) rfl rfl (by kernel_rfl) (fun z0 S => have H := Tok.start hσ S 0 6 0 0 ([.int .i64 no, .int .i64 a, .int .i64 b, .int .u8 t, .int .u8 id, .int .u8 e]) ([]) [] (.n) .n (qTellsE no a b t id e _) (qTellsG no a b t id e _); have H := H.t 22 [.int .i64 (IntKind.wrap .i64 t), .int .i64 (Int.tmod (IntKind.wrap .i64 t) 16), .int .i64 (IntKind.wrap .i64 id), .int .i64 (Int.tmod (IntKind.wrap .i64 id) 8), .int .i64 (decOp (Cl.mk no a b)), .int .i64 (decR (Cl.mk no a b) (Int.tmod (IntKind.wrap .i64 t) 16) (Int.tmod (IntKind.wrap .i64 id) 8) 0), .int .i64 (decR (Cl.mk no a b) (Int.tmod (IntKind.wrap .i64 t) 16) (Int.tmod (IntKind.wrap .i64 id) 8) 1), .int .i64 (decR (Cl.mk no a b) (Int.tmod (IntKind.wrap .i64 t) 16) (Int.tmod (IntKind.wrap .i64 id) 8) 2), .int .i64 (decE (Cl.mk no a b)), .int .i64 (decOp (Cl.mk no a b)), .int .i64 (decR (Cl.mk no a b) (Int.tmod (IntKind.wrap .i64 t) 16) (Int.tmod (IntKind.wrap .i64 id) 8) 0), .int .i64 (decR (Cl.mk no a b) (Int.tmod (IntKind.wrap .i64 t) 16) (Int.tmod (IntKind.wrap .i64 id) 8) 1), .int .i64 (decR (Cl.mk no a b) (Int.tmod (IntKind.wrap .i64 t) 16) (Int.tmod (IntKind.wrap .i64 id) 8) 2), .int .i64 (decE (Cl.mk no a b)), .bool (mayF (Cl.mk no a b)), .bool (decide ((decOp (Cl.mk no a b)) = (decOp (Cl.mk no a b))))] |>.r [(.conv .i64 (cT 3), (vt 6)), (.conv .i64 (cT 4), (vt 8)), (.bin .eql (cT 10) (cT 15), (vt 21))] |>.s [] (.bool true) shown_ok |>.c (p := (.bin .rem (cT 6) (cI 16), (vt 7))) (fun _ _ _ => fRem (k := .i64) (a := (IntKind.wrap .i64 t)) (b := 16) (by kernel_rfl) (by kernel_rfl) (by decide) (by kernel_rfl)) |>.c (p := (.bin .rem (cT 8) (cI 8), (vt 9))) (fun _ _ _ => fRem (k := .i64) (a := (IntKind.wrap .i64 id)) (b := 8) (by kernel_rfl) (by kernel_rfl) (by decide) (by kernel_rfl)) |>.s [(.agg [(vt 0), (vt 1), (vt 2)]), (vt 7), (vt 9)] (.tup [(vt 10), (.agg [(vt 11), (vt 12), (vt 13)]), (vt 14)]) (decC_ok (Cl.mk no a b) (Int.tmod (IntKind.wrap .i64 t) 16) (Int.tmod (IntKind.wrap .i64 id) 8)) |>.s [(.agg [(vt 0), (vt 1), (vt 2)]), (vt 7), (vt 9)] (.tup [(vt 15), (.agg [(vt 16), (vt 17), (vt 18)]), (vt 19)]) (decR_ok (Cl.mk no a b) (Int.tmod (IntKind.wrap .i64 t) 16) (Int.tmod (IntKind.wrap .i64 id) 8)) |>.s [(.agg [(vt 0), (vt 1), (vt 2)])] (vt 20) (mayF_ok (Cl.mk no a b)); iteE h (fun h0 h => have H := H.t 23 [.bool (((decR (Cl.mk no a b) (Int.tmod (IntKind.wrap .i64 t) 16) (Int.tmod (IntKind.wrap .i64 id) 8) 0) : Int) == (decR (Cl.mk no a b) (Int.tmod (IntKind.wrap .i64 t) 16) (Int.tmod (IntKind.wrap .i64 id) 8) 0) && (((decR (Cl.mk no a b) (Int.tmod (IntKind.wrap .i64 t) 16) (Int.tmod (IntKind.wrap .i64 id) 8) 1) : Int) == (decR (Cl.mk no a b) (Int.tmod (IntKind.wrap .i64 t) 16) (Int.tmod (IntKind.wrap .i64 id) 8) 1) && (((decR (Cl.mk no a b) (Int.tmod (IntKind.wrap .i64 t) 16) (Int.tmod (IntKind.wrap .i64 id) 8) 2) : Int) == (decR (Cl.mk no a b) (Int.tmod (IntKind.wrap .i64 t) 16) (Int.tmod (IntKind.wrap .i64 id) 8) 2) && true)))] |>.r [(.eqa false [0, 0, 0] (.c (.agg [(vt 11), (vt 12), (vt 13)])) (.c (.agg [(vt 16), (vt 17), (vt 18)])), (vt 22))] |>.m 21 true (decide_eq_true h0); iteE h (fun h1 h => have H := H.t 24 [.bool (decide ((decE (Cl.mk no a b)) = (decE (Cl.mk no a b))))] |>.r [(.bin .eql (cT 14) (cT 19), (vt 23))] |>.m 22 true h1; iteE h (fun h2 h => have H := H.t 25 [.bool (!(mayF (Cl.mk no a b)))] |>.r [(.un .not (cT 20), (vt 24))] |>.m 23 true (decide_eq_true h2); iteE h (fun h3 h => have H := H.m 24 true h3; H.e [] h) (fun h3 h => have H := H.t 29 [.int .i64 (IntKind.wrap .i64 e), .int .i64 (kindF (Cl.mk no a b).no (IntKind.wrap .i64 e)), .int .i64 (kindF (Cl.mk no a b).no (IntKind.wrap .i64 e)), .bool (decide ((kindF (Cl.mk no a b).no (IntKind.wrap .i64 e)) = (kindF (Cl.mk no a b).no (IntKind.wrap .i64 e))))] |>.r [(.conv .i64 (cT 5), (vt 25)), (.bin .eql (cT 26) (cT 27), (vt 28))] |>.m 24 false (bF h3) |>.s [(.agg [(vt 0), (vt 1), (vt 2)]), (vt 25)] (vt 26) (kindC_ok (Cl.mk no a b) (IntKind.wrap .i64 e)) |>.s [(.agg [(vt 0), (vt 1), (vt 2)]), (vt 25)] (vt 27) (kindR_ok (Cl.mk no a b) (IntKind.wrap .i64 e)); H.e [] h)) (fun _ h => nomatch h)) (fun _ h => nomatch h)) (fun _ h => nomatch h))

end Go.Proofs.Hz
open Go Go.Proofs
namespace Go.Proofs.Hz
theorem tells_law (no a b t id e : Int) : qTells no a b t id e = some (.bool true) := by
  unfold qTells
  simp only [beq_self_eq_true, Bool.and_self, if_true, decide_true]
  split <;> rfl
theorem tells_ok (no a b t id e : Int) : Spec FF 3 [.agg [.int .i64 no, .int .i64 a, .int .i64 b, .int .u8 t, .int .u8 id, .int .u8 e]] (.bool true) := qTells_ok no a b t id e (tells_law no a b t id e)
end Go.Proofs.Hz
namespace Go.Proofs.YtkkhoflfhonlgaaDoor
open Go.ChangeShapes Go.WideShapes Go.ChangeAt Go.RowKit Go.Proofs.Hz
set_option maxRecDepth 100000

theorem u25 : ∃ fs : Array Field, Tryd.prog.underlying 25 = some (.struct fs) ∧ fs.toList.map (·.type) = [23, 5, 5, 5] := ⟨_, rfl, by kernel_rfl⟩
theorem arg_tells {H : Type} {enc : TypeId × Value → H} {w : World} {v : Value} {d : DataW H} {ps : List MemPlace} {base : Nat} (hval : Value.okWide Tryd.prog w .any base 25 v) (h : DataW.Trod enc Tryd.prog w 0 (fun _ => true) true 25 v d ps) :
    ∃ no a b t id e : Int, R (fun b => b < w.heap.size) w Ids.none Ren.none (.agg [.int .i64 no, .int .i64 a, .int .i64 b, .int .u8 t, .int .u8 id, .int .u8 e]) v := by
  obtain ⟨xs, hS, hR⟩ := arg_abs (n := 4) (by kernel_rfl) hval h
  obtain ⟨fs, hu, hf⟩ := u25
  rw [argV_struct hu] at hR
  obtain ⟨parts, rfl, hl, hp⟩ := parts_of hu hf hS
  match parts, hl with
  | [p0, p1, p2, p3], _ =>
    obtain ⟨c, rfl⟩ := call_of (hp 0 23 p0 rfl rfl)
    obtain ⟨t, rfl, _⟩ := u8_of (hp 1 5 p1 rfl rfl)
    obtain ⟨id, rfl, _⟩ := u8_of (hp 2 5 p2 rfl rfl)
    obtain ⟨e, rfl, _⟩ := u8_of (hp 3 5 p3 rfl rfl)
    exact ⟨c.no, c.a, c.b, t, id, e, hR⟩

theorem tells_lifted (os : Os) (started : os.Started) (H : Type) (enc : TypeId × Value → H) :
    ReturnsInHanded {} Tryd.checked os 3 .any (fun w args => (Rows.callTellsSpec.pre enc Tryd.prog Tryd.f3 Rows.callTellsRow.domain false w args ∧ laidMetH Tryd.prog laid w) ∧ sizedMet enc Tryd.prog Tryd.f3 (OpenSpec.ofChange Rows.callTellsSpec) false w args)
      (Rows.callTellsSpec.post enc Tryd.prog Tryd.f3 false true false false) := by
  refine returnsInHanded_of_change_and (C := Tryd.checked) (X := fun w _ => laidMetH Tryd.prog laid w) (fun _ _ _ hh h => h.of_heap hh) own started (by kernel_rfl) Tryd.func3
    (ChangeSpec.witness_shaped (enc := enc) (C := Tryd.checked) (os := os) (X := fun w _ => laidMetH Tryd.prog laid w) false (World.laidAll Tryd.prog os laid) #[.agg #[.int .i64 0, .int .i64 0, .int .i64 0, .int .u8 0, .int .u8 0, .int .u8 0]] 8 (World.laidAll_os _ _ _)
      (World.shaped_of_ZipB (by kernel_rfl) (by kernel_rfl)) (by kernel_rfl) (by kernel_rfl) (by kernel_rfl) (met15 os _)) ?_
  intro W base args ds gs before hval0 hW _ _ hL _
  have hval : ∀ (j : Nat) t v, Tryd.f3.params[j]? = some t → args[j]? = some v → Value.okWide Tryd.prog W .any base t v := hval0
  have hW' := hW
  obtain ⟨p, q, hA0, hV, rfl, hfz, hnd⟩ := hW
  have hA : DataW.TrodAll enc Tryd.prog W 0 (fun _ => true) true Tryd.f3.params.toList args.toList ds p := hA0
  have hA1 := hA
  rw [Tryd.params3] at hA hval
  obtain ⟨v0, d0, rfl, rfl, h0⟩ := trodAll_one hA
  obtain ⟨rfl, rfl⟩ := trodVars_none hV
  obtain ⟨no, a, b, t, id, e, hR0⟩ := arg_tells (hval 0 25 v0 rfl rfl) h0
  simp only [List.append_nil] at hW'
  refine (law_calls (pu := puN) (F := FF) (fun f af h => h) (gok15 hL) (tells_ok no a b t id e) (RL.cons hR0 RL.nil)).mono fun e W' ⟨he, hw⟩ => ?_
  subst he
  exact ⟨_, rfl, law_post (P := Tryd.prog) laidOut rfl hW' (by simpa using hA1) rfl (by kernel_rfl) rfl u4 hw⟩

theorem tells_holds : Rows.CallTellsSaid :=
  OpenClaim.holds_of_wide 3 Tryd.f3 rfl rfl rfl rfl rfl rfl rfl ⟨rfl, rfl, rfl, rfl, rfl⟩ rfl rfl rfl rfl rfl (by kernel_rfl) Tryd.func3 (by kernel_rfl)
    (of_decide_eq_true (by kernel_rfl)) (by unfold Func.isWrapper; first | (rw [if_pos (by decide +kernel)]; kernel_rfl) | (rw [if_neg (by decide +kernel)]; exact ⟨rfl, rfl⟩))
    (fun os started H enc _ => tells_lifted os started H enc)
theorem tells_card : Rows.CallTellsCardSaid :=
  Claim7.holds_tied_plain_at .later [] [.data, .data, .data, .data, .sentinel, .sentinel, .pinned] true (true, "ff2b209905071b229394137ba148ab1a99276f0a9ec90b1862ed281ee95e50a6") true tells_holds (fun _ h => by cases h) (by kernel_rfl) (fun _ h => by cases h) callTells_row_tie rfl ⟨rfl, rfl⟩ (by kernel_rfl) rfl
    (fun f fn hf hfn => by
      obtain rfl : f = 3 := Option.some.inj ((show Tryd.prog.funcNamed "hazel/hazellaw15.CallTells" = some 3 by kernel_rfl).symm.trans hf) |>.symm
      obtain rfl : fn = Tryd.f3 := (Option.some.inj (Tryd.func3.symm.trans hfn)).symm
      exact ⟨by kernel_rfl, fun j t ht => by
        rw [Tryd.params3] at ht
        have hm : t ∈ [25] := by simpa using Array.mem_of_getElem? ht
        have hall : ([25].all fun u => !Tryd.prog.wantsStandIn u) = true := by kernel_rfl
        exact (show Tryd.prog.wantsStandIn t = false by simpa using List.all_eq_true.1 hall t hm)⟩)
    (by kernel_rfl)
#print axioms tells_card
end Go.Proofs.YtkkhoflfhonlgaaDoor
