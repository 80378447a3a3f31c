/-
  Chapter 15: syscalls' texts, what any texts are, and which rows are the same, are as the document says.
  Conditions: none.
-/
import Derived.Test.YtkkhoflfhonlgaaDoorWw
import Derived.Test.YtkkhoflfhonlgaaDoorWh
import Derived.Test.YtkkhoflfhonlgaaDoorWn
open Go Go.Proofs
namespace Go.Proofs.Hz
def qTexts (l : List Cl) (_bl : Bool) (m : List Cl) (_bm : Bool) (s : List UInt8) : Option AV :=
  if (List.length l : Int) > 30 then
    some (.bool true)
  else
    if (List.length m : Int) > 30 then
      some (.bool true)
    else
      if (List.length s : Int) > 500 then
        some (.bool true)
      else
        if List.length s ≤ 1000000 then letB (parseF s) fun x4 =>
        if List.length x4.1 ≤ 1000000 then if (!(eqC x4.1 x4.1)) = true then
          none
        else
          if (x4.2.1 : Int) = (x4.2.1 : Int) then
            if x4.2.2 = x4.2.2 then
              if List.length l ≤ 1000000 then if (!((eqC l m) == (eqC l m))) = true then
                none
              else
                if (!(writtenF l)) = true then
                  some (.bool true)
                else
                  if okP l = true then some (.bool ((printF l) == (printF l))) else none else none
            else
              none
          else
            none else none else none
def qTextsW : List AV := [(vf 0), (vf 1), (vt 0)]
def qTextsV (l : List Cl) (bl : Bool) (m : List Cl) (bm : Bool) (s : List UInt8) (σ : Nat → Nat) : Val := (valL ([.str s]) ([.im (List.map eC l) bl, .im (List.map eC m) bm]) [] σ 0)
def qTextsX (l : List Cl) (bl : Bool) (m : List Cl) (bm : Bool) (s : List UInt8) (_σ : Nat → Nat) : List AV := [(.im (List.map eC l) bl), (.im (List.map eC m) bm), (.str s)]
def qTextsY (_l : List Cl) (_bl : Bool) (_m : List Cl) (_bm : Bool) (_s : List UInt8) (_σ : Nat → Nat) : List Blk := []
theorem qTextsE (l : List Cl) (bl : Bool) (m : List Cl) (bm : Bool) (s : List UInt8) (σ : Nat → Nat) : qTextsW.map (gm (qTextsV l bl m bm s σ)) = qTextsX l bl m bm s σ := by kernel_rfl
theorem qTextsG (l : List Cl) (bl : Bool) (m : List Cl) (bm : Bool) (s : List UInt8) (σ : Nat → Nat) : ([] : List Blk).map (gB (qTextsV l bl m bm s σ)) = qTextsY l bl m bm s σ := by kernel_rfl
theorem qTexts_ok (l : List Cl) (bl : Bool) (m : List Cl) (bm : Bool) (s : List UInt8) {r0 : AV} (h : qTexts l bl m bm s = some r0) : Spec FF 4 [(.im (List.map eC l) bl), (.im (List.map eC m) bm), (.str s)] r0 := by
  unfold qTexts at h
  have hσ : ∀ i j : Nat, (fun i : Nat => i) i = (fun i : Nat => i) j → i = j := fun _ _ e => e
  exact spec_begin (ρ := qTextsV l bl m bm s (fun i => i)) (xs := qTextsW) (by kernel_rfl) rfl rfl (by kernel_rfl) (fun z0 S => have H := Tok.start hσ S 0 1 2 0 ([.str s]) ([.im (List.map eC l) bl, .im (List.map eC m) bm]) [] (.c (OkF.im eC_ok _ _) <| .c (OkF.im eC_ok _ _) <| .n) .n (qTextsE l bl m bm s _) (qTextsG l bl m bm s _); have H := H.t 3 [.int .i64 (List.length l : Int), .bool (decide ((List.length l : Int) > 30))] |>.r [(.bin .gtr (cT 1) (cI 30), (vt 2))] |>.s [] (.bool true) shown_ok |>.c (p := (.len 0 (cF 0), (vt 1))) (fun _ _ _ => fLen (e := eC) (l := l) (b := bl) (by kernel_rfl) (by kernel_rfl)); iteE h (fun h0 h => have H := H.m 2 true (decide_eq_true h0); H.e [] h) (fun h0 h => have H := H.t 5 [.int .i64 (List.length m : Int), .bool (decide ((List.length m : Int) > 30))] |>.r [(.bin .gtr (cT 3) (cI 30), (vt 4))] |>.m 2 false (decide_eq_false h0) |>.c (p := (.len 0 (cF 1), (vt 3))) (fun _ _ _ => fLen (e := eC) (l := m) (b := bm) (by kernel_rfl) (by kernel_rfl)); iteE h (fun h1 h => have H := H.m 4 true (decide_eq_true h1); H.e [] h) (fun h1 h => have H := H.t 7 [.int .i64 (List.length s : Int), .bool (decide ((List.length s : Int) > 500))] |>.r [(.len 1 (cT 0), (vt 5)), (.bin .gtr (cT 5) (cI 500), (vt 6))] |>.m 4 false (decide_eq_false h1); iteE h (fun h2 h => have H := H.m 6 true (decide_eq_true h2); H.e [] h) (fun h2 h => have H := H.m 6 false (decide_eq_false h2); reqE h (fun h3 h => letE h (fun x4 h4 h => have H := H.t 11 [.int .i64 (x4.2.1 : Int), .int .i64 x4.2.2, .int .i64 (x4.2.1 : Int), .int .i64 x4.2.2] |>.f 4 [.im (List.map eC x4.1) (List.isEmpty x4.1), .im (List.map eC x4.1) (List.isEmpty x4.1)] (.c (OkF.im eC_ok _ _) <| .c (OkF.im eC_ok _ _) <| .n) |>.s [(vt 0)] (.tup [(vf 2), (vt 7), (vt 8)]) (parse_ok1 s h3 h4) |>.s [(vt 0)] (.tup [(vf 3), (vt 9), (vt 10)]) (parR_ok1 s h3 h4); reqE h (fun h5 h => have H := H.t 13 [.bool (eqC x4.1 x4.1), .bool (!(eqC x4.1 x4.1))] |>.r [(.un .not (cT 11), (vt 12))] |>.s [(vf 2), (vf 3)] (vt 11) (sameR_ok x4.1 x4.1 (List.isEmpty x4.1) (List.isEmpty x4.1) h5); iteE h (fun _ h => nomatch h) (fun h6 h => have H := H.t 14 [.bool (!decide ((x4.2.1 : Int) = (x4.2.1 : Int)))] |>.r [(.bin .neq (cT 7) (cT 9), (vt 13))] |>.m 12 false (bF h6); iteE h (fun h7 h => have H := H.t 15 [.bool (!decide (x4.2.2 = x4.2.2))] |>.r [(.bin .neq (cT 8) (cT 10), (vt 14))] |>.m 13 false (nT h7); iteE h (fun h8 h => have H := H.m 14 false (nT h8); reqE h (fun h9 h => have H := H.t 18 [.bool (eqC l m), .bool (eqC l m), .bool (!((eqC l m) == (eqC l m)))] |>.r [(.eqb true (cT 15) (cT 16), (vt 17))] |>.s [(vf 0), (vf 1)] (vt 15) (sameC_ok l m bl bm h9) |>.s [(vf 0), (vf 1)] (vt 16) (sameR_ok l m bl bm h9); iteE h (fun _ h => nomatch h) (fun h10 h => have H := H.t 20 [.bool (writtenF l), .bool (!(writtenF l))] |>.r [(.un .not (cT 18), (vt 19))] |>.m 17 false (bF h10) |>.s [(vf 0)] (vt 18) (written_ok l bl h9); iteE h (fun h11 h => have H := H.m 19 true h11; H.e [] h) (fun h11 h => have H := H.m 19 false (bF h11); reqE h (fun h12 h => have H := H.t 23 [.str (printF l), .str (printF l), .bool ((printF l) == (printF l))] |>.r [(.bin .eql (cT 20) (cT 21), (vt 22))] |>.s [(vf 0)] (vt 20) (print_ok l bl h12) |>.s [(vf 0)] (vt 21) (printR_ok l bl h12); H.e [] h))))) (fun _ h => nomatch h)) (fun _ h => nomatch h)))))))))

end Go.Proofs.Hz
open Go Go.Proofs
namespace Go.Proofs.Hz
theorem qTexts_eq (l : List Cl) (bl : Bool) (m : List Cl) (bm : Bool) (s : List UInt8) : qTexts l bl m bm s = some (.bool true) := by
  unfold qTexts letB
  by_cases h1 : (l.length : Int) > 30
  · rw [if_pos h1]
  by_cases h2 : (m.length : Int) > 30
  · rw [if_neg h1, if_pos h2]
  by_cases h3 : (s.length : Int) > 500
  · rw [if_neg h1, if_neg h2, if_pos h3]
  rw [if_neg h1, if_neg h2, if_neg h3, if_pos (by omega)]
  simp only
  have hp : (parseF s).1.length ≤ 1000000 := by
    rcases parseF_told s with ⟨_, _, _, _, h⟩ | ⟨_, h, _⟩
    · omega
    · rw [h]; simp
  have e1 : eqC (parseF s).1 (parseF s).1 = true := by simp [eqC]
  rw [if_pos hp, if_neg (by simp [e1]), if_pos trivial, if_pos trivial, if_pos (by omega), if_neg (by simp)]
  by_cases h4 : writtenF l = true
  · rw [if_neg (by simp [h4]), if_pos (okP_written h4 (by omega))]
    simp
  · rw [if_pos (by simp [h4])]
theorem texts_ok (l m : List Cl) (bl bm : Bool) (s : List UInt8) : Spec FF 4 [.im (l.map eC) bl, .im (m.map eC) bm, .str s] (.bool true) := qTexts_ok l bl m bm s (qTexts_eq l bl m bm s)
end Go.Proofs.Hz
