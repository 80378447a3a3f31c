/-
  Chapter 15: syscalls' texts have as many line feeds as there are syscalls, and two blanks for each; cut off at a line's end they are the first ones' texts.
  Conditions: none.
-/
import Derived.Test.YtkkhoflfhonlgaaDoorWr
import Derived.Test.YtkkhoflfhonlgaaDoorWh
import Derived.Test.YtkkhoflfhonlgaaDoorWs
open Go Go.Proofs
namespace Go.Proofs.Hz
def qLines_0 : Nat → List Cl → Bool → Int → Int → Int → Int → Int → Option AV
  | 0, _, _, _, _, _, _, _ => none
  | fu + 1, l, bl, cut, p0, p1, p2, p3 =>
    if p3 < (List.length (printF l) : Int) then
      if 0 ≤ p3 then Option.bind ((printF l)[Int.toNat p3]?) fun x2 =>
      if (UInt8.toNat x2 : Int) = 32 then
        qLines_0 fu l bl cut p0 (w64 (p1 + 1)) p2 (w64 (p3 + 1))
      else
        if (UInt8.toNat x2 : Int) = 10 then
          if (w64 (p0 + 1)) = (Int.tmod (IntKind.wrap .i64 cut) (w64 ((List.length l : Int) + 1))) then
            qLines_0 fu l bl cut (w64 (p0 + 1)) p1 (w64 (p3 + 1)) (w64 (p3 + 1))
          else
            qLines_0 fu l bl cut (w64 (p0 + 1)) p1 p2 (w64 (p3 + 1))
        else
          qLines_0 fu l bl cut p0 p1 p2 (w64 (p3 + 1)) else none
    else
      if 0 ≤ p2 ∧ p2 ≤ (List.length (printF l) : Int) then if List.length (List.take (Int.toNat p2) (printF l)) ≤ 1000000 then letB (parseF (List.take (Int.toNat p2) (printF l))) fun x3 =>
      if p0 = (List.length l : Int) then
        if p1 = (w64 (2 * (List.length l : Int))) then
          if x3.2.2 = 0 then
            if (x3.2.1 : Int) = p2 then
              if 0 ≤ (Int.tmod (IntKind.wrap .i64 cut) (w64 ((List.length l : Int) + 1))) ∧ (Int.tmod (IntKind.wrap .i64 cut) (w64 ((List.length l : Int) + 1))) ≤ (List.length l : Int) then if List.length x3.1 ≤ 1000000 then some (.bool (eqC x3.1 (List.take (Int.toNat (Int.tmod (IntKind.wrap .i64 cut) (w64 ((List.length l : Int) + 1)))) l))) else none else none
            else
              none
          else
            none
        else
          none
      else
        none else none else none
def qLines_0W : List AV := ([(vf 0), (.bool true)] ++ vT 0 6)
def qLines_0C : List Blk := []
def qLines_0V (l : List Cl) (bl : Bool) (cut : Int) (p0 : Int) (p1 : Int) (p2 : Int) (p3 : Int) (σ : Nat → Nat) : Val := (valL ([.str (printF l), .int .i64 (Int.tmod (IntKind.wrap .i64 cut) (w64 ((List.length l : Int) + 1))), .int .i64 p0, .int .i64 p1, .int .i64 p2, .int .i64 p3]) ([.im (List.map eC l) bl]) [] σ 0)
def qLines_0X (l : List Cl) (bl : Bool) (cut : Int) (p0 : Int) (p1 : Int) (p2 : Int) (p3 : Int) (_σ : Nat → Nat) : List AV := [(.im (List.map eC l) bl), (.bool true), (.str (printF l)), (.int .i64 (Int.tmod (IntKind.wrap .i64 cut) (w64 ((List.length l : Int) + 1)))), (.int .i64 p0), (.int .i64 p1), (.int .i64 p2), (.int .i64 p3)]
def qLines_0Y (_l : List Cl) (_bl : Bool) (_cut : Int) (_p0 : Int) (_p1 : Int) (_p2 : Int) (_p3 : Int) (_σ : Nat → Nat) : List Blk := []
theorem qLines_0E (l : List Cl) (bl : Bool) (cut : Int) (p0 : Int) (p1 : Int) (p2 : Int) (p3 : Int) (σ : Nat → Nat) : qLines_0W.map (gm (qLines_0V l bl cut p0 p1 p2 p3 σ)) = qLines_0X l bl cut p0 p1 p2 p3 σ := by kernel_rfl
theorem qLines_0G (l : List Cl) (bl : Bool) (cut : Int) (p0 : Int) (p1 : Int) (p2 : Int) (p3 : Int) (σ : Nat → Nat) : qLines_0C.map (gB (qLines_0V l bl cut p0 p1 p2 p3 σ)) = qLines_0Y l bl cut p0 p1 p2 p3 σ := by kernel_rfl
theorem qLines_0_ok : ∀ (fu : Nat) (l : List Cl) (bl : Bool) (cut : Int) (p0 : Int) (p1 : Int) (p2 : Int) (p3 : Int) {r0 : AV} {z0 : St} {σ : Nat → Nat}, (∀ i j, σ i = σ j → i = j) → qLines_0 fu l bl cut p0 p1 p2 p3 = some r0 → Sim (qLines_0V l bl cut p0 p1 p2 p3 σ) (tmpl [0, 5, 6, 7, 8, 9, 10, 11] qLines_0W qLines_0C) z0 → J FF (fnOf FF 9) (cutK (fnOf FF 9) 0) (.code (.loop (cutB (fnOf FF 9) 0))) z0 r0 := by
  intro fu
  induction fu with
  | zero =>
    intro _ _ _ _ _ _ _ _ _ _ _ h _
    unfold qLines_0 at h
    cases h
  | succ fu ih =>
    intro l bl cut p0 p1 p2 p3 r0 z0 σ hσ h S
    unfold qLines_0 at h
    exact J_enter (have H := Tok.start hσ S 0 6 1 0 ([.str (printF l), .int .i64 (Int.tmod (IntKind.wrap .i64 cut) (w64 ((List.length l : Int) + 1))), .int .i64 p0, .int .i64 p1, .int .i64 p2, .int .i64 p3]) ([.im (List.map eC l) bl]) [] (.c (OkF.im eC_ok _ _) <| .n) (.n) (qLines_0E l bl cut p0 p1 p2 p3 _) (qLines_0G l bl cut p0 p1 p2 p3 _); have H := H.t 8 [.int .i64 (List.length (printF l) : Int), .bool (decide (p3 < (List.length (printF l) : Int)))] |>.r [(.len 1 (cT 0), (vt 6)), (.bin .lss (cT 5) (cT 6), (vt 7))]; iteE h (fun h0 h => have H := H.m 7 true (decide_eq_true h0); reqE h (fun h1 h => bindE h (fun x2 h2 h => have H := H.t 10 [.int .u8 (UInt8.toNat x2 : Int), .bool (decide ((UInt8.toNat x2 : Int) = 32))] |>.r [(.bin .eql (cT 8) (.c (.int .u8 32)), (vt 9))] |>.c (p := (.ixS (cT 0) (cT 5), (vt 8))) (fun _ _ _ => fIxS (b := (printF l)) (k := .i64) (n := p3) (y := x2) (by kernel_rfl) (by kernel_rfl) h1 h2 (by kernel_rfl)); iteE h (fun h3 h => have H := H.t 13 [.int .i64 (w64 (p1 + 1)), .bool (decide ((UInt8.toNat x2 : Int) = 10)), .int .i64 (w64 (p3 + 1))] |>.r [(.bin .add (cT 3) (cI 1), (vt 10)), (.bin .eql (cT 8) (.c (.int .u8 10)), (vt 11)), (.bin .add (cT 5) (cI 1), (vt 12))] |>.m 9 true (decide_eq_true h3) |>.m 11 false (b := (decide ((UInt8.toNat x2 : Int) = 10))) (decide_eq_false (by omega)); H.k [0] [0, 5, 6, 7, 8, 9, 10, 11] [] [(vf 0), (.bool true), (vt 0), (vt 1), (vt 2), (vt 10), (vt 4), (vt 12)] [] 0 (qLines_0V l bl cut p0 (w64 (p1 + 1)) p2 (w64 (p3 + 1)) _) (qLines_0E l bl cut p0 (w64 (p1 + 1)) p2 (w64 (p3 + 1)) _) (qLines_0G l bl cut p0 (w64 (p1 + 1)) p2 (w64 (p3 + 1)) _) (fun _ hi S => ih _ _ _ _ _ _ _ hi h S)) (fun h3 h => have H := H.t 11 [.bool (decide ((UInt8.toNat x2 : Int) = 10))] |>.r [(.bin .eql (cT 8) (.c (.int .u8 10)), (vt 10))] |>.m 9 false (decide_eq_false h3); iteE h (fun h4 h => have H := H.t 13 [.int .i64 (w64 (p0 + 1)), .bool (decide ((w64 (p0 + 1)) = (Int.tmod (IntKind.wrap .i64 cut) (w64 ((List.length l : Int) + 1)))))] |>.r [(.bin .add (cT 2) (cI 1), (vt 11)), (.bin .eql (cT 11) (cT 1), (vt 12))] |>.m 10 true (decide_eq_true h4); iteE h (fun h5 h => have H := H.t 14 [.int .i64 (w64 (p3 + 1))] |>.r [(.bin .add (cT 5) (cI 1), (vt 13))] |>.m 12 true (decide_eq_true h5); H.k [0] [0, 5, 6, 7, 8, 9, 10, 11] [] [(vf 0), (.bool true), (vt 0), (vt 1), (vt 11), (vt 3), (vt 13), (vt 13)] [] 0 (qLines_0V l bl cut (w64 (p0 + 1)) p1 (w64 (p3 + 1)) (w64 (p3 + 1)) _) (qLines_0E l bl cut (w64 (p0 + 1)) p1 (w64 (p3 + 1)) (w64 (p3 + 1)) _) (qLines_0G l bl cut (w64 (p0 + 1)) p1 (w64 (p3 + 1)) (w64 (p3 + 1)) _) (fun _ hi S => ih _ _ _ _ _ _ _ hi h S)) (fun h5 h => have H := H.t 14 [.int .i64 (w64 (p3 + 1))] |>.r [(.bin .add (cT 5) (cI 1), (vt 13))] |>.m 12 false (decide_eq_false h5); H.k [0] [0, 5, 6, 7, 8, 9, 10, 11] [] [(vf 0), (.bool true), (vt 0), (vt 1), (vt 11), (vt 3), (vt 4), (vt 13)] [] 0 (qLines_0V l bl cut (w64 (p0 + 1)) p1 p2 (w64 (p3 + 1)) _) (qLines_0E l bl cut (w64 (p0 + 1)) p1 p2 (w64 (p3 + 1)) _) (qLines_0G l bl cut (w64 (p0 + 1)) p1 p2 (w64 (p3 + 1)) _) (fun _ hi S => ih _ _ _ _ _ _ _ hi h S))) (fun h4 h => have H := H.t 12 [.int .i64 (w64 (p3 + 1))] |>.r [(.bin .add (cT 5) (cI 1), (vt 11))] |>.m 10 false (decide_eq_false h4); H.k [0] [0, 5, 6, 7, 8, 9, 10, 11] [] ([(vf 0), (.bool true)] ++ vT 0 5 ++ [(vt 11)]) [] 0 (qLines_0V l bl cut p0 p1 p2 (w64 (p3 + 1)) _) (qLines_0E l bl cut p0 p1 p2 (w64 (p3 + 1)) _) (qLines_0G l bl cut p0 p1 p2 (w64 (p3 + 1)) _) (fun _ hi S => ih _ _ _ _ _ _ _ hi h S)))))) (fun h0 h => have H := H.m 7 false (decide_eq_false h0); reqE h (fun _ h => have H := H.t 9 [.str (List.take (Int.toNat p2) (printF l))] |>.c (p := (.slT (cT 0) none (some (cT 4)), (vt 8))) (fun _ _ _ => fSlT (l := (printF l)) (l' := (List.take (Int.toNat p2) (printF l))) (lo := none) (hi := (some ((vt 4), (p2 : Int)))) (by kernel_rfl) trivial ⟨.i64, by kernel_rfl⟩ (by simp only [optN]; omega) (by simp [optN]) (by kernel_rfl)); reqE h (fun h2 h => letE h (fun x3 h3 h => have H := H.t 13 [.int .i64 (x3.2.1 : Int), .int .i64 x3.2.2, .int .i64 (List.length l : Int), .bool (decide (p0 = (List.length l : Int)))] |>.f 2 [.im (List.map eC x3.1) (List.isEmpty x3.1)] (.c (OkF.im eC_ok _ _) <| .n) |>.r [(.bin .eql (cT 2) (cT 11), (vt 12))] |>.s [(vt 8)] (.tup [(vf 1), (vt 9), (vt 10)]) (parse_ok1 (List.take (Int.toNat p2) (printF l)) h2 h3) |>.c (p := (.len 0 (cF 0), (vt 11))) (fun _ _ _ => fLen (e := eC) (l := l) (b := bl) (by kernel_rfl) (by kernel_rfl)); iteE h (fun h4 h => have H := H.t 15 [.int .i64 (w64 (2 * (List.length l : Int))), .bool (decide (p1 = (w64 (2 * (List.length l : Int)))))] |>.r [(.bin .mul (cI 2) (cT 11), (vt 13)), (.bin .eql (cT 3) (cT 13), (vt 14))] |>.m 12 true (decide_eq_true h4); iteE h (fun h5 h => have H := H.t 16 [.bool (decide (x3.2.2 = 0))] |>.r [(.bin .eql (cT 10) (cI 0), (vt 15))] |>.m 14 true (decide_eq_true h5); iteE h (fun h6 h => have H := H.t 17 [.bool (decide ((x3.2.1 : Int) = p2))] |>.r [(.bin .eql (cT 9) (cT 4), (vt 16))] |>.m 15 true (decide_eq_true h6); iteE h (fun h7 h => have H := H.m 16 true (decide_eq_true h7); reqE h (fun _ h => have H := H.f 3 [.im (List.map eC (List.take (Int.toNat (Int.tmod (IntKind.wrap .i64 cut) (w64 ((List.length l : Int) + 1)))) l)) (bl && (Int.tmod (IntKind.wrap .i64 cut) (w64 ((List.length l : Int) + 1))) == (List.length l : Int))] (.c (OkF.im eC_ok _ _) <| .n) |>.c (p := (.slS 3 (cF 0) none (some (cT 1)) none, (vf 2))) (fun _ _ _ => fSl (sz := 3) (e := eC) (l := l) (l' := (List.take (Int.toNat (Int.tmod (IntKind.wrap .i64 cut) (w64 ((List.length l : Int) + 1)))) l)) (b := bl) (b' := (bl && (Int.tmod (IntKind.wrap .i64 cut) (w64 ((List.length l : Int) + 1))) == (List.length l : Int))) (lo := none) (hi := (some ((vt 1), ((Int.tmod (IntKind.wrap .i64 cut) (w64 ((List.length l : Int) + 1))) : Int)))) (mx := none) eC_ok (by kernel_rfl) trivial ⟨.i64, by kernel_rfl⟩ trivial (by simp only [optN]; omega) (by simp) (by simp [optN]) (by simp [optN]) (by kernel_rfl)); reqE h (fun h9 h => have H := H.t 18 [.bool (eqC x3.1 (List.take (Int.toNat (Int.tmod (IntKind.wrap .i64 cut) (w64 ((List.length l : Int) + 1)))) l))] |>.s [(vf 1), (vf 2)] (vt 17) (sameR_ok x3.1 (List.take (Int.toNat (Int.tmod (IntKind.wrap .i64 cut) (w64 ((List.length l : Int) + 1)))) l) (List.isEmpty x3.1) (bl && (Int.tmod (IntKind.wrap .i64 cut) (w64 ((List.length l : Int) + 1))) == (List.length l : Int)) h9); H.e [0] h))) (fun _ h => nomatch h)) (fun _ h => nomatch h)) (fun _ h => nomatch h)) (fun _ h => nomatch h))))))
def qLines (fu : Nat) (l : List Cl) (bl : Bool) (cut : Int) : Option AV :=
  if (List.length l : Int) > 30 then
    some (.bool true)
  else
    if List.length l ≤ 1000000 then if (!(writtenF l)) = true then
      some (.bool true)
    else
      if okP l = true then if (w64 ((List.length l : Int) + 1)) ≠ 0 then qLines_0 fu l bl cut 0 0 0 0 else none else none else none
def qLinesW : List AV := [(vf 0), (vt 0)]
def qLinesV (l : List Cl) (bl : Bool) (cut : Int) (σ : Nat → Nat) : Val := (valL ([.int .u8 cut]) ([.im (List.map eC l) bl]) [] σ 0)
def qLinesX (l : List Cl) (bl : Bool) (cut : Int) (_σ : Nat → Nat) : List AV := [(.im (List.map eC l) bl), (.int .u8 cut)]
def qLinesY (_l : List Cl) (_bl : Bool) (_cut : Int) (_σ : Nat → Nat) : List Blk := []
theorem qLinesE (l : List Cl) (bl : Bool) (cut : Int) (σ : Nat → Nat) : qLinesW.map (gm (qLinesV l bl cut σ)) = qLinesX l bl cut σ := by kernel_rfl
theorem qLinesG (l : List Cl) (bl : Bool) (cut : Int) (σ : Nat → Nat) : ([] : List Blk).map (gB (qLinesV l bl cut σ)) = qLinesY l bl cut σ := by kernel_rfl
theorem qLines_ok {fu : Nat} (l : List Cl) (bl : Bool) (cut : Int) {r0 : AV} (h : qLines fu l bl cut = some r0) : Spec FF 9 [(.im (List.map eC l) bl), (.int .u8 cut)] r0 := by
  unfold qLines at h
  have hσ : ∀ i j : Nat, (fun i : Nat => i) i = (fun i : Nat => i) j → i = j := fun _ _ e => e
  exact spec_begin (ρ := qLinesV l bl cut (fun i => i)) (xs := qLinesW) (by kernel_rfl) rfl rfl (by kernel_rfl) (fun z0 S => have H := Tok.start hσ S 0 1 1 0 ([.int .u8 cut]) ([.im (List.map eC l) bl]) [] (.c (OkF.im eC_ok _ _) <| .n) .n (qLinesE l bl cut _) (qLinesG l bl cut _); have H := H.t 3 [.int .i64 (List.length l : Int), .bool (decide ((List.length l : Int) > 30))] |>.r [(.bin .gtr (cT 1) (cI 30), (vt 2))] |>.s [] (.bool true) shown_ok |>.c (p := (.len 0 (cF 0), (vt 1))) (fun _ _ _ => fLen (e := eC) (l := l) (b := bl) (by kernel_rfl) (by kernel_rfl)); iteE h (fun h0 h => have H := H.m 2 true (decide_eq_true h0); H.e [0] h) (fun h0 h => have H := H.m 2 false (decide_eq_false h0); reqE h (fun h1 h => have H := H.t 5 [.bool (writtenF l), .bool (!(writtenF l))] |>.r [(.un .not (cT 3), (vt 4))] |>.s [(vf 0)] (vt 3) (written_ok l bl h1); iteE h (fun h2 h => have H := H.m 4 true h2; H.e [0] h) (fun h2 h => have H := H.m 4 false (bF h2); reqE h (fun h3 h => have H := H.t 8 [.str (printF l), .int .i64 (IntKind.wrap .i64 cut), .int .i64 (w64 ((List.length l : Int) + 1))] |>.r [(.conv .i64 (cT 0), (vt 6)), (.bin .add (cT 1) (cI 1), (vt 7))] |>.s [(vf 0)] (vt 5) (print_ok l bl h3); reqE h (fun h4 h => have H := H.t 9 [.int .i64 (Int.tmod (IntKind.wrap .i64 cut) (w64 ((List.length l : Int) + 1)))] |>.c (p := (.bin .rem (cT 6) (cT 7), (vt 8))) (fun _ _ _ => fRem (k := .i64) (a := (IntKind.wrap .i64 cut)) (b := (w64 ((List.length l : Int) + 1))) (by kernel_rfl) (by kernel_rfl) h4 (by kernel_rfl)); H.k [0] [0, 5, 6, 7, 8, 9, 10, 11] [] [(vf 0), (.bool true), (vt 5), (vt 8), (.int .i64 0), (.int .i64 0), (.int .i64 0), (.int .i64 0)] [] 0 (qLines_0V l bl cut 0 0 0 0 _) (qLines_0E l bl cut 0 0 0 0 _) (qLines_0G l bl cut 0 0 0 0 _) (fun _ hi S => qLines_0_ok _ _ _ _ _ _ _ _ hi h S)))))))

end Go.Proofs.Hz
open Go Go.Proofs
namespace Go.Proofs.Hz
/-- One byte more: line feeds, blanks, the cut's place, the place. -/
def stB (k : Nat) (st : Nat × Nat × Nat × Nat) (c : UInt8) : Nat × Nat × Nat × Nat :=
  if c = 32 then (st.1, st.2.1 + 1, st.2.2.1, st.2.2.2 + 1)
  else if c = 10 then (st.1 + 1, st.2.1, if st.1 + 1 = k then st.2.2.2 + 1 else st.2.2.1, st.2.2.2 + 1)
  else (st.1, st.2.1, st.2.2.1, st.2.2.2 + 1)
theorem fold_plain (k : Nat) : ∀ (u : List UInt8) (e b a i : Nat), (32 : UInt8) ∉ u → (10 : UInt8) ∉ u → u.foldl (stB k) (e, b, a, i) = (e, b, a, i + u.length)
  | [], _, _, _, _, _, _ => rfl
  | c :: u, e, b, a, i, h1, h2 => by
    simp only [List.mem_cons, not_or] at h1 h2
    rw [List.foldl_cons]
    unfold stB
    rw [if_neg (Ne.symm h1.1), if_neg (Ne.symm h2.1)]
    rw [show (fun (st : Nat × Nat × Nat × Nat) (c : UInt8) => if c = 32 then (st.1, st.2.1 + 1, st.2.2.1, st.2.2.2 + 1) else if c = 10 then (st.1 + 1, st.2.1, if st.1 + 1 = k then st.2.2.2 + 1 else st.2.2.1, st.2.2.2 + 1) else (st.1, st.2.1, st.2.2.1, st.2.2.2 + 1)) = stB k from rfl]
    rw [fold_plain k u _ _ _ _ h1.2 h2.2]
    simp only [List.length_cons]
    rw [Nat.add_assoc, Nat.add_comm 1]
theorem fold_line (k : Nat) {c : Cl} (h : writtenC c = true) (e b a i : Nat) : (lineF c).foldl (stB k) (e, b, a, i) = (e + 1, b + 2, if e + 1 = k then i + (lineF c).length else a, i + (lineF c).length) := by
  have h0 : (0 ≤ c.no ∧ c.no ≤ 9) ∧ inW c.a = true ∧ inW c.b = true := by simpa [writtenC] using h
  obtain ⟨h1, h2, h3⟩ := h0
  have k2 : -9223372036854775808 ≤ c.a ∧ c.a ≤ 9223372036854775807 := by simp only [inW, decide_eq_true_eq] at h2; omega
  have k3 : -9223372036854775808 ≤ c.b ∧ c.b ≤ 9223372036854775807 := by simp only [inW, decide_eq_true_eq] at h3; omega
  have sp : ∀ st : Nat × Nat × Nat × Nat, [(32 : UInt8)].foldl (stB k) st = (st.1, st.2.1 + 1, st.2.2.1, st.2.2.2 + 1) := fun st => by simp [stB]
  have nl : ∀ st : Nat × Nat × Nat × Nat, [(10 : UInt8)].foldl (stB k) st = (st.1 + 1, st.2.1, if st.1 + 1 = k then st.2.2.2 + 1 else st.2.2.1, st.2.2.2 + 1) := fun st => by simp [stB]
  have hl : (lineF c).length = (wordK c.no).length + 1 + (itoaK c.a).length + 1 + (itoaK c.b).length + 1 := by simp only [lineF, List.length_append, List.length_singleton]
  rw [hl]
  unfold lineF
  rw [List.foldl_append, List.foldl_append, List.foldl_append, List.foldl_append, List.foldl_append, fold_plain k _ _ _ _ _ (word_no h1).1 (word_no h1).2.1, sp, fold_plain k _ _ _ _ _ (itoaK_no k2).1 (itoaK_no k2).2.1, sp, fold_plain k _ _ _ _ _ (itoaK_no k3).1 (itoaK_no k3).2.1, nl]
  simp only [Nat.add_assoc]
theorem fold_print (k : Nat) : ∀ (l : List Cl) (e b a i : Nat), writtenF l = true → (printF l).foldl (stB k) (e, b, a, i) =
    (e + l.length, b + 2 * l.length, if e < k ∧ k ≤ e + l.length then i + (printF (l.take (k - e))).length else a, i + (printF l).length)
  | [], e, b, a, i, _ => by
    simp only [printF, List.map_nil, List.flatten_nil, List.foldl_nil, List.length_nil, Nat.add_zero, Nat.mul_zero]
    rw [if_neg (by omega)]
  | c :: l, e, b, a, i, h => by
    have hc : writtenC c = true ∧ writtenF l = true := by simpa [writtenF] using h
    have ep : printF (c :: l) = lineF c ++ printF l := by simp [printF]
    rw [ep, List.foldl_append, fold_line k hc.1, fold_print k l _ _ _ _ hc.2]
    simp only [List.length_cons, List.length_append, Prod.mk.injEq]
    refine ⟨by omega, by omega, ?_, by omega⟩
    by_cases h1 : e + 1 = k
    · subst h1
      rw [if_neg (by omega), if_pos rfl, if_pos (by omega), show e + 1 - e = 1 by omega]
      simp [printF]
    · rw [if_neg h1]
      by_cases h2 : e + 1 < k ∧ k ≤ e + 1 + l.length
      · rw [if_pos h2, if_pos (by omega), show k - e = (k - (e + 1)) + 1 by omega, List.take_succ_cons]
        simp only [printF, List.map_cons, List.flatten_cons, List.length_append]
        omega
      · rw [if_neg h2, if_neg (by omega)]
theorem w64_s {n : Nat} (h : n ≤ 1000000) : w64 ((n : Int) + 1) = ((n + 1 : Nat) : Int) := by
  unfold w64 IntKind.wrap
  simp [IntKind.signed, IntKind.bits]
  omega
theorem u8_eq {x y : UInt8} : ((UInt8.toNat x : Nat) : Int) = (UInt8.toNat y : Nat) ↔ x = y :=
  ⟨fun h => UInt8.toNat_inj.1 (by omega), fun h => by rw [h]⟩
theorem u8_32 {x : UInt8} : ((UInt8.toNat x : Nat) : Int) = 32 ↔ x = 32 := u8_eq (y := 32)
theorem u8_10 {x : UInt8} : ((UInt8.toNat x : Nat) : Int) = 10 ↔ x = 10 := u8_eq (y := 10)
/-- The loop goes through the text byte by byte. -/
theorem lines_run (l : List Cl) (bl : Bool) (cut : Int) (k : Nat) (hk : (Int.tmod (IntKind.wrap .i64 cut) (w64 ((List.length l : Int) + 1))) = (k : Int)) (hn : (printF l).length ≤ 100000) :
    ∀ (v u : List UInt8) (e b a : Nat), printF l = u ++ v → e ≤ u.length → b ≤ u.length → a ≤ u.length →
      qLines_0 (v.length + 1) l bl cut e b a u.length =
      qLines_0 1 l bl cut ((v.foldl (stB k) (e, b, a, u.length)).1 : Nat) ((v.foldl (stB k) (e, b, a, u.length)).2.1 : Nat) ((v.foldl (stB k) (e, b, a, u.length)).2.2.1 : Nat) ((v.foldl (stB k) (e, b, a, u.length)).2.2.2 : Nat) := by
  intro v
  induction v with
  | nil => intro u e b a _ _ _ _; rfl
  | cons c v ih =>
    intro u e b a hp he hb ha
    have hlen : (printF l).length = u.length + (v.length + 1) := by rw [hp]; simp
    have hget : (printF l)[u.length]? = some c := by rw [hp]; simp
    have hp' : printF l = (u ++ [c]) ++ v := by rw [hp]; simp
    have hul : (u ++ [c]).length = u.length + 1 := by simp
    rw [List.length_cons, qLines_0, if_pos (by omega), if_pos (by omega), Int.toNat_natCast, hget, Option.bind_some, List.foldl_cons, w64_s (n := u.length) (by omega)]
    by_cases h32 : c = 32
    · subst h32
      rw [if_pos (u8_32.2 rfl), w64_s (n := b) (by omega)]
      have := ih (u ++ [32]) e (b + 1) a hp' (by omega) (by omega) (by omega)
      rw [hul] at this
      rw [this]
      rfl
    · rw [if_neg (fun h => h32 (u8_32.1 h))]
      by_cases h10 : c = 10
      · subst h10
        rw [if_pos (u8_10.2 rfl), w64_s (n := e) (by omega), hk]
        by_cases hek : e + 1 = k
        · rw [if_pos (by omega)]
          have := ih (u ++ [10]) (e + 1) b (u.length + 1) hp' (by omega) (by omega) (by omega)
          rw [hul] at this
          rw [this]
          have hs : stB k (e, b, a, u.length) 10 = (e + 1, b, u.length + 1, u.length + 1) := by
            unfold stB
            simp only
            rw [if_neg (by decide), if_pos trivial, if_pos hek]
          rw [hs]
        · rw [if_neg (by omega)]
          have := ih (u ++ [10]) (e + 1) b a hp' (by omega) (by omega) (by omega)
          rw [hul] at this
          rw [this]
          have hs : stB k (e, b, a, u.length) 10 = (e + 1, b, a, u.length + 1) := by
            unfold stB
            simp only
            rw [if_neg (by decide), if_pos trivial, if_neg hek]
          rw [hs]
      · rw [if_neg (fun h => h10 (u8_10.1 h))]
        have := ih (u ++ [c]) e b a hp' (by omega) (by omega) (by omega)
        rw [hul] at this
        rw [this]
        have hs : stB k (e, b, a, u.length) c = (e, b, a, u.length + 1) := by
          unfold stB
          simp only
          rw [if_neg h32, if_neg h10]
        rw [hs]
theorem qLines_eq (l : List Cl) (bl : Bool) (cut : Int) (h0 : 0 ≤ cut) (h1 : cut ≤ 255) : qLines ((printF l).length + 1) l bl cut = some (.bool true) := by
  unfold qLines
  by_cases hl : (l.length : Int) > 30
  · rw [if_pos hl]
  rw [if_neg hl, if_pos (by omega)]
  by_cases h3 : writtenF l = true
  · have hp := printF_le h3
    have hw1 : w64 ((List.length l : Int) + 1) = ((l.length + 1 : Nat) : Int) := w64_s (by omega)
    have hwc : IntKind.wrap .i64 cut = cut := wI (by omega)
    have hkk : Int.tmod (IntKind.wrap .i64 cut) (w64 ((List.length l : Int) + 1)) = ((cut.toNat % (l.length + 1) : Nat) : Int) := by
      rw [hwc, hw1]
      conv => lhs; rw [← Int.toNat_of_nonneg h0]
      exact (Int.ofNat_tmod _ _).symm
    have hkl : cut.toNat % (l.length + 1) ≤ l.length := by
      have := Nat.mod_lt cut.toNat (show 0 < l.length + 1 by omega)
      omega
    generalize hk : cut.toNat % (l.length + 1) = k at hkk hkl
    rw [if_neg (by simp [h3]), if_pos (okP_written h3 (by omega)), if_pos (by rw [hw1]; omega)]
    have hrun := lines_run l bl cut k hkk (by omega) (printF l) [] 0 0 0 rfl (Nat.le_refl _) (Nat.le_refl _) (Nat.le_refl _)
    have hf := fold_print k l 0 0 0 0 h3
    simp only [List.length_nil] at hrun
    rw [hf] at hrun
    simp only [Nat.zero_add] at hrun
    refine Eq.trans hrun ?_
    have hsplit : printF l = printF (l.take k) ++ printF (l.drop k) := by rw [← printF_append, List.take_append_drop]
    have hat : (if 0 < k ∧ k ≤ l.length then (printF (l.take (k - 0))).length else 0) = (printF (l.take k)).length := by
      by_cases hz : 0 < k
      · rw [if_pos ⟨hz, hkl⟩]; rfl
      · have : k = 0 := by omega
        subst this
        rw [if_neg (by omega)]; rfl
    rw [hat]
    have hle : (printF (l.take k)).length ≤ (printF l).length := by
      conv => rhs; rw [hsplit]
      rw [List.length_append]; omega
    have htk : (printF l).take (printF (l.take k)).length = printF (l.take k) := by
      conv => lhs; arg 2; rw [hsplit]
      exact List.take_left
    have hwt : writtenF (l.take k) = true := List.all_eq_true.2 fun c hc => List.all_eq_true.1 h3 c (List.mem_of_mem_take hc)
    have hpp := parseF_print hwt
    rw [qLines_0, if_neg (by omega), if_pos (by omega), Int.toNat_natCast, htk, if_pos (by omega), hpp]
    unfold letB
    simp only
    have hdbl : ((2 * l.length : Nat) : Int) = w64 (2 * (l.length : Int)) := by
      have := w64_two (a := l.length) (b := l.length) (by omega) (by omega)
      rw [show (2 * (l.length : Int)) = (l.length : Int) + (l.length : Int) by omega, this]
      omega
    rw [if_pos trivial, if_pos hdbl, if_pos trivial, if_pos trivial, hkk, if_pos (by omega), if_pos (by rw [List.length_take]; omega), Int.toNat_natCast]
    simp [eqC]
  · rw [if_pos (by simp [h3])]
theorem lines_ok (l : List Cl) (bl : Bool) {cut : Int} (h : 0 ≤ cut ∧ cut ≤ 255) : Spec FF 9 [.im (l.map eC) bl, .int .u8 cut] (.bool true) := qLines_ok l bl cut (qLines_eq l bl cut h.1 h.2)
end Go.Proofs.Hz
