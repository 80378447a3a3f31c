/-
  Chapter 15: where a text is none its place is that of the first syscall that is none's.
  Conditions: none.
-/
import Derived.Test.YtkkhoflfhonlgaaDoorWr
import Derived.Test.YtkkhoflfhonlgaaDoorWh
import Derived.Test.YtkkhoflfhonlgaaDoorWn
open Go Go.Proofs
namespace Go.Proofs.Hz
def qStops (l : List Cl) (_bl : Bool) (s : List UInt8) : Option AV :=
  if (List.length l : Int) > 30 then
    some (.bool true)
  else
    if (List.length s : Int) > 300 then
      some (.bool true)
    else
      if List.length l ≤ 1000000 then if (!(writtenF l)) = true then
        some (.bool true)
      else
        if okP l = true then if List.length s ≤ 1000000 then letB (parseF s) fun x6 =>
        if List.length (printF l) + List.length s ≤ 140737488355328 then if List.length ((printF l) ++ s) ≤ 1000000 then letB (parseF ((printF l) ++ s)) fun x9 =>
        if x6.2.2 = x9.2.2 then
          if (x9.2.1 : Int) = (w64 ((List.length (printF l) : Int) + (x6.2.1 : Int))) then
            if x6.2.2 = 0 then
              some (.bool (decide ((List.length x9.1 : Int) ≥ (List.length l : Int))))
            else
              some (.bool true)
          else
            none
        else
          none else none else none else none else none else none
def qStopsW : List AV := [(vf 0), (vt 0)]
def qStopsV (l : List Cl) (bl : Bool) (s : List UInt8) (σ : Nat → Nat) : Val := (valL ([.str s]) ([.im (List.map eC l) bl]) [] σ 0)
def qStopsX (l : List Cl) (bl : Bool) (s : List UInt8) (_σ : Nat → Nat) : List AV := [(.im (List.map eC l) bl), (.str s)]
def qStopsY (_l : List Cl) (_bl : Bool) (_s : List UInt8) (_σ : Nat → Nat) : List Blk := []
theorem qStopsE (l : List Cl) (bl : Bool) (s : List UInt8) (σ : Nat → Nat) : qStopsW.map (gm (qStopsV l bl s σ)) = qStopsX l bl s σ := by kernel_rfl
theorem qStopsG (l : List Cl) (bl : Bool) (s : List UInt8) (σ : Nat → Nat) : ([] : List Blk).map (gB (qStopsV l bl s σ)) = qStopsY l bl s σ := by kernel_rfl
theorem qStops_ok (l : List Cl) (bl : Bool) (s : List UInt8) {r0 : AV} (h : qStops l bl s = some r0) : Spec FF 6 [(.im (List.map eC l) bl), (.str s)] r0 := by
  unfold qStops at h
  have hσ : ∀ i j : Nat, (fun i : Nat => i) i = (fun i : Nat => i) j → i = j := fun _ _ e => e
  exact spec_begin (ρ := qStopsV l bl s (fun i => i)) (xs := qStopsW) (by kernel_rfl) rfl rfl (by kernel_rfl) (fun z0 S => have H := Tok.start hσ S 0 1 1 0 ([.str s]) ([.im (List.map eC l) bl]) [] (.c (OkF.im eC_ok _ _) <| .n) .n (qStopsE l bl s _) (qStopsG l bl s _); have H := H.t 3 [.int .i64 (List.length l : Int), .bool (decide ((List.length l : Int) > 30))] |>.r [(.bin .gtr (cT 1) (cI 30), (vt 2))] |>.s [] (.bool true) shown_ok |>.c (p := (.len 0 (cF 0), (vt 1))) (fun _ _ _ => fLen (e := eC) (l := l) (b := bl) (by kernel_rfl) (by kernel_rfl)); iteE h (fun h0 h => have H := H.m 2 true (decide_eq_true h0); H.e [] h) (fun h0 h => have H := H.t 5 [.int .i64 (List.length s : Int), .bool (decide ((List.length s : Int) > 300))] |>.r [(.len 1 (cT 0), (vt 3)), (.bin .gtr (cT 3) (cI 300), (vt 4))] |>.m 2 false (decide_eq_false h0); iteE h (fun h1 h => have H := H.m 4 true (decide_eq_true h1); H.e [] h) (fun h1 h => have H := H.m 4 false (decide_eq_false h1); reqE h (fun h2 h => have H := H.t 7 [.bool (writtenF l), .bool (!(writtenF l))] |>.r [(.un .not (cT 5), (vt 6))] |>.s [(vf 0)] (vt 5) (written_ok l bl h2); iteE h (fun h3 h => have H := H.m 6 true h3; H.e [] h) (fun h3 h => have H := H.m 6 false (bF h3); reqE h (fun h4 h => have H := H.t 8 [.str (printF l)] |>.s [(vf 0)] (vt 7) (print_ok l bl h4); reqE h (fun h5 h => letE h (fun x6 h6 h => have H := H.t 10 [.int .i64 (x6.2.1 : Int), .int .i64 x6.2.2] |>.f 2 [.im (List.map eC x6.1) (List.isEmpty x6.1)] (.c (OkF.im eC_ok _ _) <| .n) |>.s [(vt 0)] (.tup [(vf 1), (vt 8), (vt 9)]) (parse_ok1 s h5 h6); reqE h (fun h7 h => have H := H.t 11 [.str ((printF l) ++ s)] |>.c (p := (.bin .add (cT 7) (cT 0), (vt 10))) (fun _ _ _ => fCat (a := (printF l)) (b := s) (by kernel_rfl) (by kernel_rfl) h7 (by kernel_rfl)); reqE h (fun h8 h => letE h (fun x9 h9 h => have H := H.t 14 [.int .i64 (x9.2.1 : Int), .int .i64 x9.2.2, .bool (decide (x6.2.2 = x9.2.2))] |>.f 3 [.im (List.map eC x9.1) (List.isEmpty x9.1)] (.c (OkF.im eC_ok _ _) <| .n) |>.r [(.bin .eql (cT 9) (cT 12), (vt 13))] |>.s [(vt 10)] (.tup [(vf 2), (vt 11), (vt 12)]) (parse_ok1 ((printF l) ++ s) h8 h9); iteE h (fun h10 h => have H := H.t 17 [.int .i64 (List.length (printF l) : Int), .int .i64 (w64 ((List.length (printF l) : Int) + (x6.2.1 : Int))), .bool (decide ((x9.2.1 : Int) = (w64 ((List.length (printF l) : Int) + (x6.2.1 : Int)))))] |>.r [(.len 1 (cT 7), (vt 14)), (.bin .add (cT 14) (cT 8), (vt 15)), (.bin .eql (cT 11) (cT 15), (vt 16))] |>.m 13 true (decide_eq_true h10); iteE h (fun h11 h => have H := H.t 18 [.bool (!decide (x6.2.2 = 0))] |>.r [(.bin .neq (cT 9) (cI 0), (vt 17))] |>.m 16 true (decide_eq_true h11); iteE h (fun h12 h => have H := H.t 20 [.int .i64 (List.length x9.1 : Int), .bool (decide ((List.length x9.1 : Int) ≥ (List.length l : Int)))] |>.r [(.bin .geq (cT 18) (cT 1), (vt 19))] |>.m 17 false (nT h12) |>.c (p := (.len 0 (cF 2), (vt 18))) (fun _ _ _ => fLen (e := eC) (l := x9.1) (b := (List.isEmpty x9.1)) (by kernel_rfl) (by kernel_rfl)); H.e [] h) (fun h12 h => have H := H.m 17 true (nF h12); H.e [] h)) (fun _ h => nomatch h)) (fun _ h => nomatch h))))))))))))

end Go.Proofs.Hz
open Go Go.Proofs
namespace Go.Proofs.Hz
theorem w64_two {a b : Nat} (ha : a ≤ 1000000) (hb : b ≤ 1000000) : w64 ((a : Int) + (b : Int)) = ((a + b : Nat) : Int) := by
  unfold w64 IntKind.wrap
  simp [IntKind.signed, IntKind.bits]
  omega
theorem printF_le {l : List Cl} (h : writtenF l = true) : (printF l).length ≤ 50 * l.length := printF_len (ok_written h)
theorem qStops_eq (l : List Cl) (bl : Bool) (s : List UInt8) : qStops l bl s = some (.bool true) := by
  unfold qStops letB
  by_cases h1 : (l.length : Int) > 30
  · rw [if_pos h1]
  by_cases h2 : (s.length : Int) > 300
  · rw [if_neg h1, if_pos h2]
  rw [if_neg h1, if_neg h2, if_pos (by omega)]
  by_cases h3 : writtenF l = true
  · have hp := printF_le h3
    obtain ⟨b1, b2, b3⟩ := parseF_behind h3 s
    have hat : (parseF s).2.1 ≤ s.length := by
      rcases parseF_told s with ⟨_, h, _⟩ | ⟨_, _, h⟩ <;> omega
    rw [if_neg (by simp [h3]), if_pos (okP_written h3 (by omega)), if_pos (by omega)]
    simp only
    rw [if_pos (by omega), if_pos (by rw [List.length_append]; omega)]
    rw [if_pos b2.symm, if_pos (by rw [b1, w64_two (by omega) (by omega)])]
    split
    · rename_i h0
      have := b3 h0
      rw [decide_eq_true (by omega)]
    · rfl
  · rw [if_pos (by simp [h3])]
theorem stops_ok (l : List Cl) (bl : Bool) (s : List UInt8) : Spec FF 6 [.im (l.map eC) bl, .str s] (.bool true) := qStops_ok l bl s (qStops_eq l bl s)
end Go.Proofs.Hz
