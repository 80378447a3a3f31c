/-
  'hazellaw15.CallMay' returns true for every input, and its argument reads afterwards as it read before; the card.
  Conditions: none.
-/
import Derived.Test.YtkkhoflfhonlgaaDoorWz
import Derived.Test.YtkkhoflfhonlgaaDoorRc
open Go Go.Proofs
namespace Go.Proofs.Hz
def qMay (no : Int) (a : Int) (b : Int) (o : Int) (t : Int) (id : Int) : Option AV :=
  if (!((decide ((decE (Cl.mk no a b)) = 0)) == (mayF (Cl.mk no a b)))) = true then
    none
  else
    if (decE (Cl.mk no a b)) = 0 then
      if no = 9 then
        if (((decR (Cl.mk no a b) (Int.tmod (IntKind.wrap .i64 t) 16) (Int.tmod (IntKind.wrap .i64 id) 8) 0) : Int) == (Int.tmod (IntKind.wrap .i64 t) 16) && (((decR (Cl.mk no a b) (Int.tmod (IntKind.wrap .i64 t) 16) (Int.tmod (IntKind.wrap .i64 id) 8) 1) : Int) == (Int.tmod (IntKind.wrap .i64 id) 8) && (((decR (Cl.mk no a b) (Int.tmod (IntKind.wrap .i64 t) 16) (Int.tmod (IntKind.wrap .i64 id) 8) 2) : Int) == 0 && true))) = true then
          some (.bool (decodesF (Cl.mk no o o) (Int.tmod (IntKind.wrap .i64 t) 16) (Int.tmod (IntKind.wrap .i64 id) 8) (decOp (Cl.mk no a b)) (decR (Cl.mk no a b) (Int.tmod (IntKind.wrap .i64 t) 16) (Int.tmod (IntKind.wrap .i64 id) 8) 0) (decR (Cl.mk no a b) (Int.tmod (IntKind.wrap .i64 t) 16) (Int.tmod (IntKind.wrap .i64 id) 8) 1) (decR (Cl.mk no a b) (Int.tmod (IntKind.wrap .i64 t) 16) (Int.tmod (IntKind.wrap .i64 id) 8) 2)))
        else
          none
      else
        if no = 0 then
          if (decR (Cl.mk no a b) (Int.tmod (IntKind.wrap .i64 t) 16) (Int.tmod (IntKind.wrap .i64 id) 8) 0) = a then
            some (.bool (decide ((decR (Cl.mk no a b) (Int.tmod (IntKind.wrap .i64 t) 16) (Int.tmod (IntKind.wrap .i64 id) 8) 1) = b)))
          else
            none
        else
          if no = 3 then
            if (decR (Cl.mk no a b) (Int.tmod (IntKind.wrap .i64 t) 16) (Int.tmod (IntKind.wrap .i64 id) 8) 0) = a then
              some (.bool (decide ((decR (Cl.mk no a b) (Int.tmod (IntKind.wrap .i64 t) 16) (Int.tmod (IntKind.wrap .i64 id) 8) 1) = b)))
            else
              none
          else
            if (decR (Cl.mk no a b) (Int.tmod (IntKind.wrap .i64 t) 16) (Int.tmod (IntKind.wrap .i64 id) 8) 0) = a then
              some (.bool (decodesF (Cl.mk no a o) (Int.tmod (IntKind.wrap .i64 t) 16) (Int.tmod (IntKind.wrap .i64 id) 8) (decOp (Cl.mk no a b)) (decR (Cl.mk no a b) (Int.tmod (IntKind.wrap .i64 t) 16) (Int.tmod (IntKind.wrap .i64 id) 8) 0) (decR (Cl.mk no a b) (Int.tmod (IntKind.wrap .i64 t) 16) (Int.tmod (IntKind.wrap .i64 id) 8) 1) (decR (Cl.mk no a b) (Int.tmod (IntKind.wrap .i64 t) 16) (Int.tmod (IntKind.wrap .i64 id) 8) 2)))
            else
              none
    else
      if (decOp (Cl.mk no a b)) = 0 then
        if (!(((decR (Cl.mk no a b) (Int.tmod (IntKind.wrap .i64 t) 16) (Int.tmod (IntKind.wrap .i64 id) 8) 0) : Int) == 0 && (((decR (Cl.mk no a b) (Int.tmod (IntKind.wrap .i64 t) 16) (Int.tmod (IntKind.wrap .i64 id) 8) 1) : Int) == 0 && (((decR (Cl.mk no a b) (Int.tmod (IntKind.wrap .i64 t) 16) (Int.tmod (IntKind.wrap .i64 id) 8) 2) : Int) == 0 && true)))) = true then
          none
        else
          if (decE (Cl.mk no a b)) = 1 then
            some (.bool true)
          else
            none
      else
        none
def qMayW : List AV := [(.agg (vT 0 6))]
def qMayV (no : Int) (a : Int) (b : Int) (o : Int) (t : Int) (id : Int) (σ : Nat → Nat) : Val := (valL ([.int .i64 no, .int .i64 a, .int .i64 b, .int .i64 o, .int .u8 t, .int .u8 id]) ([]) [] σ 0)
def qMayX (no : Int) (a : Int) (b : Int) (o : Int) (t : Int) (id : Int) (_σ : Nat → Nat) : List AV := [(.agg [(.int .i64 no), (.int .i64 a), (.int .i64 b), (.int .i64 o), (.int .u8 t), (.int .u8 id)])]
def qMayY (_no : Int) (_a : Int) (_b : Int) (_o : Int) (_t : Int) (_id : Int) (_σ : Nat → Nat) : List Blk := []
theorem qMayE (no : Int) (a : Int) (b : Int) (o : Int) (t : Int) (id : Int) (σ : Nat → Nat) : qMayW.map (gm (qMayV no a b o t id σ)) = qMayX no a b o t id σ := by kernel_rfl
theorem qMayG (no : Int) (a : Int) (b : Int) (o : Int) (t : Int) (id : Int) (σ : Nat → Nat) : ([] : List Blk).map (gB (qMayV no a b o t id σ)) = qMayY no a b o t id σ := by kernel_rfl
theorem qMay_ok (no : Int) (a : Int) (b : Int) (o : Int) (t : Int) (id : Int) {r0 : AV} (h : qMay no a b o t id = some r0) : Spec FF 7 [(.agg [(.int .i64 no), (.int .i64 a), (.int .i64 b), (.int .i64 o), (.int .u8 t), (.int .u8 id)])] r0 := by
  unfold qMay at h
  have hσ : ∀ i j : Nat, (fun i : Nat => i) i = (fun i : Nat => i) j → i = j := fun _ _ e => e
  exact spec_begin (ρ := qMayV no a b o t id (fun i => i)) (xs := qMayW) (by kernel_rfl) rfl rfl (by kernel_rfl) (fun z0 S => have H := Tok.start hσ S 0 6 0 0 ([.int .i64 no, .int .i64 a, .int .i64 b, .int .i64 o, .int .u8 t, .int .u8 id]) ([]) [] (.n) .n (qMayE no a b o t id _) (qMayG no a b o t id _); have H := H.t 18 [.int .i64 (IntKind.wrap .i64 t), .int .i64 (Int.tmod (IntKind.wrap .i64 t) 16), .int .i64 (IntKind.wrap .i64 id), .int .i64 (Int.tmod (IntKind.wrap .i64 id) 8), .int .i64 (decOp (Cl.mk no a b)), .int .i64 (decR (Cl.mk no a b) (Int.tmod (IntKind.wrap .i64 t) 16) (Int.tmod (IntKind.wrap .i64 id) 8) 0), .int .i64 (decR (Cl.mk no a b) (Int.tmod (IntKind.wrap .i64 t) 16) (Int.tmod (IntKind.wrap .i64 id) 8) 1), .int .i64 (decR (Cl.mk no a b) (Int.tmod (IntKind.wrap .i64 t) 16) (Int.tmod (IntKind.wrap .i64 id) 8) 2), .int .i64 (decE (Cl.mk no a b)), .bool (decide ((decE (Cl.mk no a b)) = 0)), .bool (mayF (Cl.mk no a b)), .bool (!((decide ((decE (Cl.mk no a b)) = 0)) == (mayF (Cl.mk no a b))))] |>.r [(.conv .i64 (cT 4), (vt 6)), (.conv .i64 (cT 5), (vt 8)), (.bin .eql (cT 14) (cI 0), (vt 15)), (.eqb true (cT 15) (cT 16), (vt 17))] |>.s [] (.bool true) shown_ok |>.c (p := (.bin .rem (cT 6) (cI 16), (vt 7))) (fun _ _ _ => fRem (k := .i64) (a := (IntKind.wrap .i64 t)) (b := 16) (by kernel_rfl) (by kernel_rfl) (by decide) (by kernel_rfl)) |>.c (p := (.bin .rem (cT 8) (cI 8), (vt 9))) (fun _ _ _ => fRem (k := .i64) (a := (IntKind.wrap .i64 id)) (b := 8) (by kernel_rfl) (by kernel_rfl) (by decide) (by kernel_rfl)) |>.s [(.agg [(vt 0), (vt 1), (vt 2)]), (vt 7), (vt 9)] (.tup [(vt 10), (.agg [(vt 11), (vt 12), (vt 13)]), (vt 14)]) (decC_ok (Cl.mk no a b) (Int.tmod (IntKind.wrap .i64 t) 16) (Int.tmod (IntKind.wrap .i64 id) 8)) |>.s [(.agg [(vt 0), (vt 1), (vt 2)])] (vt 16) (mayF_ok (Cl.mk no a b)); iteE h (fun _ h => nomatch h) (fun h0 h => have H := H.t 19 [.bool (!decide ((decE (Cl.mk no a b)) = 0))] |>.r [(.bin .neq (cT 14) (cI 0), (vt 18))] |>.m 17 false (bF h0); iteE h (fun h1 h => have H := H.t 20 [.bool (decide (no = 9))] |>.r [(.bin .eql (cT 0) (cI 9), (vt 19))] |>.m 18 false (nT h1); iteE h (fun h2 h => have H := H.t 21 [.bool (((decR (Cl.mk no a b) (Int.tmod (IntKind.wrap .i64 t) 16) (Int.tmod (IntKind.wrap .i64 id) 8) 0) : Int) == (Int.tmod (IntKind.wrap .i64 t) 16) && (((decR (Cl.mk no a b) (Int.tmod (IntKind.wrap .i64 t) 16) (Int.tmod (IntKind.wrap .i64 id) 8) 1) : Int) == (Int.tmod (IntKind.wrap .i64 id) 8) && (((decR (Cl.mk no a b) (Int.tmod (IntKind.wrap .i64 t) 16) (Int.tmod (IntKind.wrap .i64 id) 8) 2) : Int) == 0 && true)))] |>.r [(.eqa false [0, 0, 0] (.c (.agg [(vt 11), (vt 12), (vt 13)])) (.c (.agg [(vt 7), (vt 9), (.int .i64 0)])), (vt 20))] |>.m 19 true (decide_eq_true h2); iteE h (fun h3 h => have H := H.t 22 [.bool (decodesF (Cl.mk no o o) (Int.tmod (IntKind.wrap .i64 t) 16) (Int.tmod (IntKind.wrap .i64 id) 8) (decOp (Cl.mk no a b)) (decR (Cl.mk no a b) (Int.tmod (IntKind.wrap .i64 t) 16) (Int.tmod (IntKind.wrap .i64 id) 8) 0) (decR (Cl.mk no a b) (Int.tmod (IntKind.wrap .i64 t) 16) (Int.tmod (IntKind.wrap .i64 id) 8) 1) (decR (Cl.mk no a b) (Int.tmod (IntKind.wrap .i64 t) 16) (Int.tmod (IntKind.wrap .i64 id) 8) 2))] |>.m 20 true h3 |>.s [(.agg [(vt 0), (vt 3), (vt 3)]), (vt 7), (vt 9), (vt 10), (.agg [(vt 11), (vt 12), (vt 13)])] (vt 21) (decodes_ok (Cl.mk no o o) (Int.tmod (IntKind.wrap .i64 t) 16) (Int.tmod (IntKind.wrap .i64 id) 8) (decOp (Cl.mk no a b)) (decR (Cl.mk no a b) (Int.tmod (IntKind.wrap .i64 t) 16) (Int.tmod (IntKind.wrap .i64 id) 8) 0) (decR (Cl.mk no a b) (Int.tmod (IntKind.wrap .i64 t) 16) (Int.tmod (IntKind.wrap .i64 id) 8) 1) (decR (Cl.mk no a b) (Int.tmod (IntKind.wrap .i64 t) 16) (Int.tmod (IntKind.wrap .i64 id) 8) 2)); H.e [] h) (fun _ h => nomatch h)) (fun h2 h => have H := H.t 21 [.bool (!decide (no = 0))] |>.r [(.bin .neq (cT 0) (cI 0), (vt 20))] |>.m 19 false (decide_eq_false h2); iteE h (fun h3 h => have H := H.t 22 [.bool (decide ((decR (Cl.mk no a b) (Int.tmod (IntKind.wrap .i64 t) 16) (Int.tmod (IntKind.wrap .i64 id) 8) 0) = a))] |>.r [(.bin .eql (cT 11) (cT 1), (vt 21))] |>.m 20 false (nT h3); iteE h (fun h4 h => have H := H.t 23 [.bool (decide ((decR (Cl.mk no a b) (Int.tmod (IntKind.wrap .i64 t) 16) (Int.tmod (IntKind.wrap .i64 id) 8) 1) = b))] |>.r [(.bin .eql (cT 12) (cT 2), (vt 22))] |>.m 21 true (decide_eq_true h4); H.e [] h) (fun _ h => nomatch h)) (fun h3 h => have H := H.t 22 [.bool (!decide (no = 3))] |>.r [(.bin .neq (cT 0) (cI 3), (vt 21))] |>.m 20 true (nF h3); iteE h (fun h4 h => have H := H.t 23 [.bool (decide ((decR (Cl.mk no a b) (Int.tmod (IntKind.wrap .i64 t) 16) (Int.tmod (IntKind.wrap .i64 id) 8) 0) = a))] |>.r [(.bin .eql (cT 11) (cT 1), (vt 22))] |>.m 21 false (nT h4); iteE h (fun h5 h => have H := H.t 24 [.bool (decide ((decR (Cl.mk no a b) (Int.tmod (IntKind.wrap .i64 t) 16) (Int.tmod (IntKind.wrap .i64 id) 8) 1) = b))] |>.r [(.bin .eql (cT 12) (cT 2), (vt 23))] |>.m 22 true (decide_eq_true h5); H.e [] h) (fun _ h => nomatch h)) (fun h4 h => have H := H.t 23 [.bool (decide ((decR (Cl.mk no a b) (Int.tmod (IntKind.wrap .i64 t) 16) (Int.tmod (IntKind.wrap .i64 id) 8) 0) = a))] |>.r [(.bin .eql (cT 11) (cT 1), (vt 22))] |>.m 21 true (nF h4); iteE h (fun h5 h => have H := H.t 24 [.bool (decodesF (Cl.mk no a o) (Int.tmod (IntKind.wrap .i64 t) 16) (Int.tmod (IntKind.wrap .i64 id) 8) (decOp (Cl.mk no a b)) (decR (Cl.mk no a b) (Int.tmod (IntKind.wrap .i64 t) 16) (Int.tmod (IntKind.wrap .i64 id) 8) 0) (decR (Cl.mk no a b) (Int.tmod (IntKind.wrap .i64 t) 16) (Int.tmod (IntKind.wrap .i64 id) 8) 1) (decR (Cl.mk no a b) (Int.tmod (IntKind.wrap .i64 t) 16) (Int.tmod (IntKind.wrap .i64 id) 8) 2))] |>.m 22 true (decide_eq_true h5) |>.s [(.agg [(vt 0), (vt 1), (vt 3)]), (vt 7), (vt 9), (vt 10), (.agg [(vt 11), (vt 12), (vt 13)])] (vt 23) (decodes_ok (Cl.mk no a o) (Int.tmod (IntKind.wrap .i64 t) 16) (Int.tmod (IntKind.wrap .i64 id) 8) (decOp (Cl.mk no a b)) (decR (Cl.mk no a b) (Int.tmod (IntKind.wrap .i64 t) 16) (Int.tmod (IntKind.wrap .i64 id) 8) 0) (decR (Cl.mk no a b) (Int.tmod (IntKind.wrap .i64 t) 16) (Int.tmod (IntKind.wrap .i64 id) 8) 1) (decR (Cl.mk no a b) (Int.tmod (IntKind.wrap .i64 t) 16) (Int.tmod (IntKind.wrap .i64 id) 8) 2)); H.e [] h) (fun _ h => nomatch h))))) (fun h1 h => have H := H.t 20 [.bool (!decide ((decOp (Cl.mk no a b)) = 0))] |>.r [(.bin .neq (cT 10) (cI 0), (vt 19))] |>.m 18 true (nF h1); iteE h (fun h2 h => have H := H.t 21 [.bool (!(((decR (Cl.mk no a b) (Int.tmod (IntKind.wrap .i64 t) 16) (Int.tmod (IntKind.wrap .i64 id) 8) 0) : Int) == 0 && (((decR (Cl.mk no a b) (Int.tmod (IntKind.wrap .i64 t) 16) (Int.tmod (IntKind.wrap .i64 id) 8) 1) : Int) == 0 && (((decR (Cl.mk no a b) (Int.tmod (IntKind.wrap .i64 t) 16) (Int.tmod (IntKind.wrap .i64 id) 8) 2) : Int) == 0 && true))))] |>.r [(.eqa true [0, 0, 0] (.c (.agg [(vt 11), (vt 12), (vt 13)])) (.c (.agg [(.int .i64 0), (.int .i64 0), (.int .i64 0)])), (vt 20))] |>.m 19 false (nT h2); iteE h (fun _ h => nomatch h) (fun h3 h => have H := H.t 22 [.bool (!decide ((decE (Cl.mk no a b)) = 1))] |>.r [(.bin .neq (cT 14) (cI 1), (vt 21))] |>.m 20 false (bF h3); iteE h (fun h4 h => have H := H.m 21 false (nT h4); H.e [] h) (fun _ h => nomatch h))) (fun _ h => nomatch h))))

end Go.Proofs.Hz
open Go Go.Proofs
namespace Go.Proofs.Hz
theorem may_law (no a b o t id : Int) : qMay no a b o t id = some (.bool true) := by
  have hr : ∀ (c : Cl) (t id : Int) (i : Nat), decR c t id i = if mayF c then (if c.no = 0 then [c.a, c.b, id].getD i 0 else if c.no = 1 then [c.a, t, 0].getD i 0 else if c.no = 9 then [t, id, 0].getD i 0 else if c.no = 3 then [c.a, c.b, 0].getD i 0 else [c.a, 0, 0].getD i 0) else 0 := fun c t id i => rfl
  generalize ht : Int.tmod (IntKind.wrap .i64 t) 16 = x
  generalize hi : Int.tmod (IntKind.wrap .i64 id) 8 = p
  unfold qMay
  simp only [ht, hi]
  by_cases hm : mayF ⟨no, a, b⟩ = true
  · have hb := (may_iff _).1 hm
    have he : decE ⟨no, a, b⟩ = 0 := by simp [decE, hm]
    simp only at hb
    rw [if_neg (by simp [he, hm]), if_pos he]
    by_cases h9 : no = 9
    · subst h9
      have hm2 : mayF ⟨9, o, o⟩ = true := (may_iff _).2 (by simp)
      rw [if_pos rfl, if_pos (by simp [hr, hm])]
      simp [decodesF, decE, decOp, hr, hm, hm2]
    · rw [if_neg h9]
      by_cases h0 : no = 0
      · subst h0
        rw [if_pos rfl, if_pos (by simp [hr, hm])]
        simp [hr, hm]
      · rw [if_neg h0]
        by_cases h3 : no = 3
        · subst h3
          rw [if_pos rfl, if_pos (by simp [hr, hm])]
          simp [hr, hm]
        · rw [if_neg h3]
          have hm2 : mayF ⟨no, a, o⟩ = true := (may_iff _).2 ⟨by simp only; omega, by simp only; omega⟩
          have hga : ∀ i, decR ⟨no, a, b⟩ x p i = decR ⟨no, a, o⟩ x p i := fun i => by simp [hr, hm, hm2, h0, h3, h9]
          have h00 : decR ⟨no, a, b⟩ x p 0 = a := by
            rw [hr]
            simp [hm, h0, h3, h9]
          rw [if_pos h00]
          simp only [decodesF, hga, decE, decOp, hm, hm2]
          simp
  · have he : decE ⟨no, a, b⟩ = 1 := by simp [decE, hm]
    rw [if_neg (by simp [he, hm]), if_neg (by simp [he]), if_pos (by simp [decOp, hm]), if_neg (by simp [hr, hm]), if_pos he]
theorem may_ok (no a b o t id : Int) : Spec FF 7 [.agg [.int .i64 no, .int .i64 a, .int .i64 b, .int .i64 o, .int .u8 t, .int .u8 id]] (.bool true) := qMay_ok no a b o t id (may_law no a b o t id)
end Go.Proofs.Hz
namespace Go.Proofs.YtkkhoflfhonlgaaDoor
open Go.ChangeShapes Go.WideShapes Go.ChangeAt Go.RowKit Go.Proofs.Hz
set_option maxRecDepth 100000

theorem u48 : ∃ fs : Array Field, Tryd.prog.underlying 48 = some (.struct fs) ∧ fs.toList.map (·.type) = [23, 3, 5, 5] := ⟨_, rfl, by kernel_rfl⟩
theorem arg_may {H : Type} {enc : TypeId × Value → H} {w : World} {v : Value} {d : DataW H} {ps : List MemPlace} {base : Nat} (hval : Value.okWide Tryd.prog w .any base 48 v) (h : DataW.Trod enc Tryd.prog w 0 (fun _ => true) true 48 v d ps) :
    ∃ no a b o t id : Int, R (fun b => b < w.heap.size) w Ids.none Ren.none (.agg [.int .i64 no, .int .i64 a, .int .i64 b, .int .i64 o, .int .u8 t, .int .u8 id]) v := by
  obtain ⟨xs, hS, hR⟩ := arg_abs (n := 4) (by kernel_rfl) hval h
  obtain ⟨fs, hu, hf⟩ := u48
  rw [argV_struct hu] at hR
  obtain ⟨parts, rfl, hl, hp⟩ := parts_of hu hf hS
  match parts, hl with
  | [p0, p1, p2, p3], _ =>
    obtain ⟨c, rfl⟩ := call_of (hp 0 23 p0 rfl rfl)
    obtain ⟨o, rfl, _⟩ := int_of (hp 1 3 p1 rfl rfl)
    obtain ⟨t, rfl, _⟩ := u8_of (hp 2 5 p2 rfl rfl)
    obtain ⟨id, rfl, _⟩ := u8_of (hp 3 5 p3 rfl rfl)
    exact ⟨c.no, c.a, c.b, o, t, id, hR⟩

theorem may_lifted (os : Os) (started : os.Started) (H : Type) (enc : TypeId × Value → H) :
    ReturnsInHanded {} Tryd.checked os 7 .any (fun w args => (Rows.callMaySpec.pre enc Tryd.prog Tryd.f7 Rows.callMayRow.domain false w args ∧ laidMetH Tryd.prog laid w) ∧ sizedMet enc Tryd.prog Tryd.f7 (OpenSpec.ofChange Rows.callMaySpec) false w args)
      (Rows.callMaySpec.post enc Tryd.prog Tryd.f7 false true false false) := by
  refine returnsInHanded_of_change_and (C := Tryd.checked) (X := fun w _ => laidMetH Tryd.prog laid w) (fun _ _ _ hh h => h.of_heap hh) own started (by kernel_rfl) Tryd.func7
    (ChangeSpec.witness_shaped (enc := enc) (C := Tryd.checked) (os := os) (X := fun w _ => laidMetH Tryd.prog laid w) false (World.laidAll Tryd.prog os laid) #[.agg #[.int .i64 0, .int .i64 0, .int .i64 0, .int .i64 0, .int .u8 0, .int .u8 0]] 8 (World.laidAll_os _ _ _)
      (World.shaped_of_ZipB (by kernel_rfl) (by kernel_rfl)) (by kernel_rfl) (by kernel_rfl) (by kernel_rfl) (met15 os _)) ?_
  intro W base args ds gs before hval0 hW _ _ hL _
  have hval : ∀ (j : Nat) t v, Tryd.f7.params[j]? = some t → args[j]? = some v → Value.okWide Tryd.prog W .any base t v := hval0
  have hW' := hW
  obtain ⟨p, q, hA0, hV, rfl, hfz, hnd⟩ := hW
  have hA : DataW.TrodAll enc Tryd.prog W 0 (fun _ => true) true Tryd.f7.params.toList args.toList ds p := hA0
  have hA1 := hA
  rw [Tryd.params7] at hA hval
  obtain ⟨v0, d0, rfl, rfl, h0⟩ := trodAll_one hA
  obtain ⟨rfl, rfl⟩ := trodVars_none hV
  obtain ⟨no, a, b, o, t, id, hR0⟩ := arg_may (hval 0 48 v0 rfl rfl) h0
  simp only [List.append_nil] at hW'
  refine (law_calls (pu := puN) (F := FF) (fun f af h => h) (gok15 hL) (may_ok no a b o t id) (RL.cons hR0 RL.nil)).mono fun e W' ⟨he, hw⟩ => ?_
  subst he
  exact ⟨_, rfl, law_post (P := Tryd.prog) laidOut rfl hW' (by simpa using hA1) rfl (by kernel_rfl) rfl u4 hw⟩

theorem may_holds : Rows.CallMaySaid :=
  OpenClaim.holds_of_wide 7 Tryd.f7 rfl rfl rfl rfl rfl rfl rfl ⟨rfl, rfl, rfl, rfl, rfl⟩ rfl rfl rfl rfl rfl (by kernel_rfl) Tryd.func7 (by kernel_rfl)
    (of_decide_eq_true (by kernel_rfl)) (by unfold Func.isWrapper; first | (rw [if_pos (by decide +kernel)]; kernel_rfl) | (rw [if_neg (by decide +kernel)]; exact ⟨rfl, rfl⟩))
    (fun os started H enc _ => may_lifted os started H enc)
theorem may_card : Rows.CallMayCardSaid :=
  Claim7.holds_tied_plain_at .later [] [.data, .data, .data, .data, .sentinel, .sentinel, .pinned] true (true, "ff2b209905071b229394137ba148ab1a99276f0a9ec90b1862ed281ee95e50a6") true may_holds (fun _ h => by cases h) (by kernel_rfl) (fun _ h => by cases h) callMay_row_tie rfl ⟨rfl, rfl⟩ (by kernel_rfl) rfl
    (fun f fn hf hfn => by
      obtain rfl : f = 7 := Option.some.inj ((show Tryd.prog.funcNamed "hazel/hazellaw15.CallMay" = some 7 by kernel_rfl).symm.trans hf) |>.symm
      obtain rfl : fn = Tryd.f7 := (Option.some.inj (Tryd.func7.symm.trans hfn)).symm
      exact ⟨by kernel_rfl, fun j t ht => by
        rw [Tryd.params7] at ht
        have hm : t ∈ [48] := by simpa using Array.mem_of_getElem? ht
        have hall : ([48].all fun u => !Tryd.prog.wantsStandIn u) = true := by kernel_rfl
        exact (show Tryd.prog.wantsStandIn t = false by simpa using List.all_eq_true.1 hall t hm)⟩)
    (by kernel_rfl)
#print axioms may_card
end Go.Proofs.YtkkhoflfhonlgaaDoor
