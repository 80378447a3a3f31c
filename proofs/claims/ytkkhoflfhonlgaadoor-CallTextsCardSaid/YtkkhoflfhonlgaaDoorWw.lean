/-
  Chapter 15: the document's Parse is parseF.
  Conditions: none.
-/
import Derived.Test.YtkkhoflfhonlgaaDoorWu
import Derived.Test.YtkkhoflfhonlgaaDoorWd
open Go Go.Proofs
namespace Go.Proofs.Hz
def qone_0 : Nat → List UInt8 → Int → Int → Option AV
  | 0, _, _, _ => none
  | fu + 1, s, i, p0 =>
    if p0 < 10 then
      Option.bind (wordF p0) fun x1 =>
      if List.length x1 + List.length [32] ≤ 140737488355328 then if (w64 ((List.length s : Int) - i)) ≥ (List.length (x1 ++ [32]) : Int) then
        if 0 ≤ i ∧ i ≤ (w64 (i + (List.length (x1 ++ [32]) : Int))) ∧ (w64 (i + (List.length (x1 ++ [32]) : Int))) ≤ (List.length s : Int) then if ((List.take (Int.toNat (w64 (i + (List.length (x1 ++ [32]) : Int))) - Int.toNat i) (List.drop (Int.toNat i) s)) == (x1 ++ [32])) = true then
          if numG s (w64 (i + (List.length (x1 ++ [32]) : Int))) 32 = true then if (numR s (w64 (i + (List.length (x1 ++ [32]) : Int))) 32).2 < 0 then
            some (.tup [(.agg [(.int .i64 0), (.int .i64 0), (.int .i64 0)]), (.int .i64 (-1))])
          else
            if numG s ((numR s (w64 (i + (List.length (x1 ++ [32]) : Int))) 32).2) 10 = true then some (.tup [(.agg [(.int .i64 p0), (.int .i64 (numR s (w64 (i + (List.length (x1 ++ [32]) : Int))) 32).1), (.int .i64 (numR s ((numR s (w64 (i + (List.length (x1 ++ [32]) : Int))) 32).2) 10).1)]), (.int .i64 (numR s ((numR s (w64 (i + (List.length (x1 ++ [32]) : Int))) 32).2) 10).2)]) else none else none
        else
          qone_0 fu s i (w64 (p0 + 1)) else none
      else
        qone_0 fu s i (w64 (p0 + 1)) else none
    else
      some (.tup [(.agg [(.int .i64 0), (.int .i64 0), (.int .i64 0)]), (.int .i64 (-1))])
def qone_0W : List AV := [(vt 0), (vt 1), (.ptr 0 0), (vt 2)]
def qone_0C : List Blk := [.cells [(.int .i64 0), (.int .i64 0), (.int .i64 0)] false 23]
def qone_0V (s : List UInt8) (i : Int) (p0 : Int) (σ : Nat → Nat) : Val := (valL ([.str s, .int .i64 i, .int .i64 p0]) ([]) [] σ 1)
def qone_0X (s : List UInt8) (i : Int) (p0 : Int) (σ : Nat → Nat) : List AV := [(.str s), (.int .i64 i), (.ptr (σ 0) 0), (.int .i64 p0)]
def qone_0Y (_s : List UInt8) (_i : Int) (_p0 : Int) (_σ : Nat → Nat) : List Blk := [.cells [(.int .i64 0), (.int .i64 0), (.int .i64 0)] false 23]
theorem qone_0E (s : List UInt8) (i : Int) (p0 : Int) (σ : Nat → Nat) : qone_0W.map (gm (qone_0V s i p0 σ)) = qone_0X s i p0 σ := by kernel_rfl
theorem qone_0G (s : List UInt8) (i : Int) (p0 : Int) (σ : Nat → Nat) : qone_0C.map (gB (qone_0V s i p0 σ)) = qone_0Y s i p0 σ := by kernel_rfl
theorem qone_0_ok : ∀ (fu : Nat) (s : List UInt8) (i : Int) (p0 : Int) {r0 : AV} {z0 : St} {σ : Nat → Nat}, (∀ i j, σ i = σ j → i = j) → qone_0 fu s i p0 = some r0 → Sim (qone_0V s i p0 σ) (tmpl [0, 1, 4, 6] qone_0W qone_0C) z0 → J FF (fnOf FF 31) (cutK (fnOf FF 31) 0) (.code (.loop (cutB (fnOf FF 31) 0))) z0 r0 := by
  intro fu
  induction fu with
  | zero =>
    intro _ _ _ _ _ _ _ h _
    unfold qone_0 at h
    cases h
  | succ fu ih =>
    intro s i p0 r0 z0 σ hσ h S
    unfold qone_0 at h
    exact J_enter (have H := Tok.start hσ S 1 3 0 0 ([.str s, .int .i64 i, .int .i64 p0]) ([]) [] (.n) (.n) (qone_0E s i p0 _) (qone_0G s i p0 _); have H := H.t 4 [.bool (decide (p0 < 10))] |>.r [(.bin .lss (cT 2) (cI 10), (vt 3))]; iteE h (fun h0 h => have H := H.m 3 true (decide_eq_true h0); bindE h (fun x1 h1 h => have H := H.t 5 [.str x1] |>.s [(vt 2)] (vt 4) (word_ok h1); reqE h (fun h2 h => have H := H.t 10 [.str (x1 ++ [32]), .int .i64 (List.length s : Int), .int .i64 (w64 ((List.length s : Int) - i)), .int .i64 (List.length (x1 ++ [32]) : Int), .bool (decide ((w64 ((List.length s : Int) - i)) ≥ (List.length (x1 ++ [32]) : Int)))] |>.r [(.len 1 (cT 0), (vt 6)), (.bin .sub (cT 6) (cT 1), (vt 7)), (.len 1 (cT 5), (vt 8)), (.bin .geq (cT 7) (cT 8), (vt 9))] |>.c (p := (.bin .add (cT 4) (.c (.str [32])), (vt 5))) (fun _ _ _ => fCat (a := x1) (b := [32]) (by kernel_rfl) (by kernel_rfl) h2 (by kernel_rfl)); iteE h (fun h3 h => have H := H.t 11 [.int .i64 (w64 (i + (List.length (x1 ++ [32]) : Int)))] |>.r [(.bin .add (cT 1) (cT 8), (vt 10))] |>.m 9 true (decide_eq_true h3); reqE h (fun _ h => have H := H.t 13 [.str (List.take (Int.toNat (w64 (i + (List.length (x1 ++ [32]) : Int))) - Int.toNat i) (List.drop (Int.toNat i) s)), .bool ((List.take (Int.toNat (w64 (i + (List.length (x1 ++ [32]) : Int))) - Int.toNat i) (List.drop (Int.toNat i) s)) == (x1 ++ [32]))] |>.r [(.bin .eql (cT 11) (cT 5), (vt 12))] |>.c (p := (.slT (cT 0) (some (cT 1)) (some (cT 10)), (vt 11))) (fun _ _ _ => fSlT (l := s) (l' := (List.take (Int.toNat (w64 (i + (List.length (x1 ++ [32]) : Int))) - Int.toNat i) (List.drop (Int.toNat i) s))) (lo := (some ((vt 1), (i : Int)))) (hi := (some ((vt 10), ((w64 (i + (List.length (x1 ++ [32]) : Int))) : Int)))) (by kernel_rfl) ⟨.i64, by kernel_rfl⟩ ⟨.i64, by kernel_rfl⟩ (by simp only [optN]; omega) (by simp [optN]) (by kernel_rfl)); iteE h (fun h5 h => have H := H.m 12 true h5; reqE h (fun h6 h => have H := H.t 16 [.int .i64 (numR s (w64 (i + (List.length (x1 ++ [32]) : Int))) 32).1, .int .i64 (numR s (w64 (i + (List.length (x1 ++ [32]) : Int))) 32).2, .bool (decide ((numR s (w64 (i + (List.length (x1 ++ [32]) : Int))) 32).2 < 0))] |>.r [(.bin .lss (cT 14) (cI 0), (vt 15))] |>.s [(vt 0), (vt 10), (.int .u8 32)] (.tup [(vt 13), (vt 14)]) (numR_ok s (w64 (i + (List.length (x1 ++ [32]) : Int))) 32 h6); iteE h (fun h7 h => have H := H.m 15 true (decide_eq_true h7); H.e [0] h) (fun h7 h => have H := H.m 15 false (decide_eq_false h7); reqE h (fun h8 h => have H := H.t 18 [.int .i64 (numR s ((numR s (w64 (i + (List.length (x1 ++ [32]) : Int))) 32).2) 10).1, .int .i64 (numR s ((numR s (w64 (i + (List.length (x1 ++ [32]) : Int))) 32).2) 10).2] |>.s [(vt 0), (vt 14), (.int .u8 10)] (.tup [(vt 16), (vt 17)]) (numR_ok s ((numR s (w64 (i + (List.length (x1 ++ [32]) : Int))) 32).2) 10 h8); H.e [0] h)))) (fun h5 h => have H := H.t 14 [.int .i64 (w64 (p0 + 1))] |>.r [(.bin .add (cT 2) (cI 1), (vt 13))] |>.m 12 false (bF h5); H.k [0] [0, 1, 4, 6] [0] [(vt 0), (vt 1), (.ptr 0 0), (vt 13)] [.cells [(.int .i64 0), (.int .i64 0), (.int .i64 0)] false 23] 1 (qone_0V s i (w64 (p0 + 1)) _) (qone_0E s i (w64 (p0 + 1)) _) (qone_0G s i (w64 (p0 + 1)) _) (fun _ hi S => ih _ _ _ hi h S)))) (fun h3 h => have H := H.t 11 [.int .i64 (w64 (p0 + 1))] |>.r [(.bin .add (cT 2) (cI 1), (vt 10))] |>.m 9 false (decide_eq_false h3); H.k [0] [0, 1, 4, 6] [0] [(vt 0), (vt 1), (.ptr 0 0), (vt 10)] [.cells [(.int .i64 0), (.int .i64 0), (.int .i64 0)] false 23] 1 (qone_0V s i (w64 (p0 + 1)) _) (qone_0E s i (w64 (p0 + 1)) _) (qone_0G s i (w64 (p0 + 1)) _) (fun _ hi S => ih _ _ _ hi h S))))) (fun h0 h => have H := H.m 3 false (decide_eq_false h0); H.e [0] h))
def qone (fu : Nat) (s : List UInt8) (i : Int) : Option AV :=
  qone_0 fu s i 0
def qoneW : List AV := [(vt 0), (vt 1)]
def qoneV (s : List UInt8) (i : Int) (σ : Nat → Nat) : Val := (valL ([.str s, .int .i64 i]) ([]) [] σ 0)
def qoneX (s : List UInt8) (i : Int) (_σ : Nat → Nat) : List AV := [(.str s), (.int .i64 i)]
def qoneY (_s : List UInt8) (_i : Int) (_σ : Nat → Nat) : List Blk := []
theorem qoneE (s : List UInt8) (i : Int) (σ : Nat → Nat) : qoneW.map (gm (qoneV s i σ)) = qoneX s i σ := by kernel_rfl
theorem qoneG (s : List UInt8) (i : Int) (σ : Nat → Nat) : ([] : List Blk).map (gB (qoneV s i σ)) = qoneY s i σ := by kernel_rfl
theorem qone_ok {fu : Nat} (s : List UInt8) (i : Int) {r0 : AV} (h : qone fu s i = some r0) : Spec FF 31 [(.str s), (.int .i64 i)] r0 := by
  unfold qone at h
  have hσ : ∀ i j : Nat, (fun i : Nat => i) i = (fun i : Nat => i) j → i = j := fun _ _ e => e
  exact spec_begin (ρ := qoneV s i (fun i => i)) (xs := qoneW) (by kernel_rfl) rfl rfl (by kernel_rfl) (fun z0 S => have H := Tok.start hσ S 0 2 0 0 ([.str s, .int .i64 i]) ([]) [] (.n) .n (qoneE s i _) (qoneG s i _); H.k [0] [0, 1, 4, 6] [0] [(vt 0), (vt 1), (.ptr 0 0), (.int .i64 0)] [.cells [(.int .i64 0), (.int .i64 0), (.int .i64 0)] false 23] 1 (qone_0V s i 0 _) (qone_0E s i 0 _) (qone_0G s i 0 _) (fun _ hi S => qone_0_ok _ _ _ _ hi h S))

end Go.Proofs.Hz
open Go Go.Proofs
namespace Go.Proofs.Hz
def oneA (p : Cl × Int) : AV := .tup [p.1.av, .int .i64 p.2]
theorem preW_take {s : List UInt8} {i no : Nat} : preW s i no = true ↔ (s.drop i).take ((wordK no).length + 1) = wordK no ++ [32] := by
  rw [preW_iff, Int.toNat_natCast]
  constructor
  · rintro ⟨r, hr⟩
    rw [hr, show wordK no ++ 32 :: r = (wordK no ++ [32]) ++ r by simp]
    exact List.take_left' (by simp)
  · intro h
    refine ⟨(s.drop i).drop ((wordK no).length + 1), ?_⟩
    conv => lhs; rw [← List.take_append_drop ((wordK no).length + 1) (s.drop i), h]
    simp
theorem qone_from {s : List UInt8} {i : Nat} (hi : i ≤ s.length) (hs : s.length ≤ 1000000) : ∀ (f no : Nat), no + f = 10 → qone_0 (f + 1) s i no = some (oneA (oneFrom s i f no)) := by
  intro f
  induction f with
  | zero =>
    intro no h
    rw [qone_0, if_neg (by omega)]
    rfl
  | succ f ih =>
    intro no h
    have hno : 0 ≤ (no : Int) ∧ (no : Int) ≤ 9 := by omega
    have hw : wordF (no : Int) = some (wordK no) := by unfold wordF; rw [if_pos hno]
    have hl5 := wordK_len' no
    have hL : (List.length (wordK (no : Int) ++ [32]) : Int) = ((wordK no).length : Int) + 1 := by simp
    have w1 : w64 ((List.length s : Int) - (i : Int)) = (List.length s : Int) - (i : Int) := wI (by omega)
    have w2 : w64 ((i : Int) + (((wordK no).length : Int) + 1)) = (i : Int) + (wordK no).length + 1 := by
      have : w64 ((i : Int) + (((wordK no).length : Int) + 1)) = (i : Int) + (((wordK no).length : Int) + 1) := wI (by omega)
      rw [this]; omega
    have nxt : qone_0 (f + 1) s i (w64 ((no : Int) + 1)) = some (oneA (oneFrom s i f (no + 1))) := by
      rw [w64_p (by omega)]
      exact ih (no + 1) (by omega)
    rw [qone_0, if_pos (by omega), hw, Option.bind_some, if_pos (by simp only [List.length_singleton]; omega), hL, w1, w2]
    unfold oneFrom
    by_cases hp : preW s i no = true
    · rw [if_pos hp]
      obtain ⟨r, hr⟩ := preW_iff.1 hp
      rw [Int.toNat_natCast] at hr
      have hlen := congrArg List.length hr
      simp only [List.length_drop, List.length_append, List.length_cons] at hlen
      have htk : (Int.toNat ((i : Int) + (wordK no).length + 1) - Int.toNat (i : Int)) = (wordK no).length + 1 := by omega
      rw [if_pos (by omega), if_pos (by omega), htk, Int.toNat_natCast, if_pos (by rw [preW_take.1 hp]; simp)]
      have hk1 : numG s ((i : Int) + (wordK no).length + 1) 32 = true := decide_eq_true ⟨⟨by omega, by omega⟩, hs, .inl rfl⟩
      rw [if_pos hk1]
      unfold oneAt
      by_cases hb : (numR s ((i : Int) + (wordK no).length + 1) 32).2 < 0
      · rw [if_pos hb, if_pos hb]; rfl
      · rw [if_neg hb, if_neg hb]
        obtain ⟨r1, _, d1, m1⟩ := numR_of (s := s) (i := (i : Int) + (wordK no).length + 1) (e := 32) (by omega)
        have hlen1 := congrArg List.length d1
        simp only [List.length_drop, List.length_append, List.length_cons] at hlen1
        have hk2 : numG s (numR s ((i : Int) + (wordK no).length + 1) 32).2 10 = true := decide_eq_true ⟨⟨by omega, by omega⟩, hs, .inr rfl⟩
        rw [if_pos hk2]
        rfl
    · rw [if_neg hp]
      by_cases h1 : (List.length s : Int) - (i : Int) ≥ ((wordK no).length : Int) + 1
      · have htk : (Int.toNat ((i : Int) + (wordK no).length + 1) - Int.toNat (i : Int)) = (wordK no).length + 1 := by omega
        rw [if_pos h1, if_pos (by omega), htk, Int.toNat_natCast, if_neg (by intro hc; exact hp (preW_take.2 (by simpa using hc)))]
        exact nxt
      · rw [if_neg h1]
        exact nxt
where
  wordK_len' (no : Int) : (wordK no).length ≤ 5 := by
    unfold wordK kdOf
    (repeat' split) <;> simp
theorem one_ok1 (s : List UInt8) (i : Int) (h : oneG s i = true) {p : Cl × Int} (hp : p = oneR s i) : Spec FF 31 [.str s, .int .i64 i] (.tup [.agg [.int .i64 p.1.no, .int .i64 p.1.a, .int .i64 p.1.b], .int .i64 p.2]) := by
  subst hp
  simp only [oneG, decide_eq_true_eq] at h
  obtain ⟨⟨hi, hil⟩, hs⟩ := h
  obtain ⟨iN, rfl⟩ : ∃ k : Nat, i = (k : Int) := ⟨i.toNat, by omega⟩
  exact qone_ok (fu := 11) s iN (by unfold qone; exact qone_from (by omega) hs 10 0 rfl)
end Go.Proofs.Hz
open Go Go.Proofs
namespace Go.Proofs.Hz
def qparR_0v1 : Nat → List UInt8 → List Cl → Int → Option AV
  | 0, _, _, _ => none
  | fu + 1, s, p1_0, p1_1 =>
    if p1_1 < (List.length s : Int) then
      if oneG s p1_1 = true then letB (oneR s p1_1) fun x2 =>
      if x2.2 < 0 then
        some (.tup [(.im [] true), (.int .i64 p1_1), (.int .i64 1)])
      else
        if (List.length p1_0 + List.length [x2.1]) * 24 ≤ roomB ∧ List.length p1_0 + List.length [x2.1] ≤ roomB then qparR_0v1 fu s (p1_0 ++ [x2.1]) x2.2 else none else none
    else
      some (.tup [(.im (List.map eC p1_0) false), (.int .i64 p1_1), (.int .i64 0)])
def qparR_0v1W : List AV := [(vt 0), (.sl 0 0 1000003 3 none), (vt 1)]
def qparR_0v1C : List Blk := [.own 1000003 false 23]
def qparR_0v1V (s : List UInt8) (p1_0 : List Cl) (p1_1 : Int) (σ : Nat → Nat) : Val := (valL ([.str s, .int .i64 p1_1]) ([]) [(3, List.map eC p1_0)] σ 1)
def qparR_0v1X (s : List UInt8) (p1_0 : List Cl) (p1_1 : Int) (σ : Nat → Nat) : List AV := [(.str s), (.sl (σ 0) 0 (List.length (List.map eC p1_0)) 3 none), (.int .i64 p1_1)]
def qparR_0v1Y (_s : List UInt8) (p1_0 : List Cl) (_p1_1 : Int) (_σ : Nat → Nat) : List Blk := [.cells (List.flatten (List.map eC p1_0)) false 23]
theorem qparR_0v1E (s : List UInt8) (p1_0 : List Cl) (p1_1 : Int) (σ : Nat → Nat) : qparR_0v1W.map (gm (qparR_0v1V s p1_0 p1_1 σ)) = qparR_0v1X s p1_0 p1_1 σ := by kernel_rfl
theorem qparR_0v1G (s : List UInt8) (p1_0 : List Cl) (p1_1 : Int) (σ : Nat → Nat) : qparR_0v1C.map (gB (qparR_0v1V s p1_0 p1_1 σ)) = qparR_0v1Y s p1_0 p1_1 σ := by kernel_rfl
theorem qparR_0v1_ok : ∀ (fu : Nat) (s : List UInt8) (p1_0 : List Cl) (p1_1 : Int) {r0 : AV} {z0 : St} {σ : Nat → Nat}, (∀ i j, σ i = σ j → i = j) → qparR_0v1 fu s p1_0 p1_1 = some r0 → Sim (qparR_0v1V s p1_0 p1_1 σ) (tmpl [0, 5, 6] qparR_0v1W qparR_0v1C) z0 → J FF (fnOf FF 18) (cutK (fnOf FF 18) 0) (.code (.loop (cutB (fnOf FF 18) 0))) z0 r0 := by
  intro fu
  induction fu with
  | zero =>
    intro _ _ _ _ _ _ _ h _
    unfold qparR_0v1 at h
    cases h
  | succ fu ih =>
    intro s p1_0 p1_1 r0 z0 σ hσ h S
    unfold qparR_0v1 at h
    exact J_enter (have H := Tok.start hσ S 1 2 0 1 ([.str s, .int .i64 p1_1]) ([]) [(0, 3, List.map eC p1_0)] (.n) (.c (OkO.own eC_ok _) <| .n) (qparR_0v1E s p1_0 p1_1 _) (qparR_0v1G s p1_0 p1_1 _); have H := H.t 4 [.int .i64 (List.length s : Int), .bool (decide (p1_1 < (List.length s : Int)))] |>.r [(.len 1 (cT 0), (vt 2)), (.bin .lss (cT 1) (cT 2), (vt 3))]; iteE h (fun h0 h => have H := H.m 3 true (decide_eq_true h0); reqE h (fun h1 h => letE h (fun x2 h2 h => have H := H.t 9 [.int .i64 x2.1.no, .int .i64 x2.1.a, .int .i64 x2.1.b, .int .i64 x2.2, .bool (decide (x2.2 < 0))] |>.r [(.bin .lss (cT 7) (cI 0), (vt 8))] |>.s [(vt 0), (vt 1)] (.tup [(.agg [(vt 4), (vt 5), (vt 6)]), (vt 7)]) (one_ok1 s p1_1 h1 h2); iteE h (fun h3 h => have H := H.m 8 true (decide_eq_true h3); H.e [0] h) (fun h3 h => have H := H.m 8 false (decide_eq_false h3); reqE h (fun h4 h => have H := H.o 1 (3, List.map eC (p1_0 ++ [x2.1])) (.own eC_ok _) |>.a ⟨true, 3, 24, (vf 1000003), (.im [[(vt 4), (vt 5), (vt 6)]] true), 1001003⟩ (fun _ _ _ => fApp (e := eC) (l := p1_0) (m := [x2.1]) (cb := false) (cx := true) (by kernel_rfl) (by kernel_rfl) (by kernel_rfl) h4 (.inl rfl) (by decide) (by decide) (by decide)); H.k [0] [0, 5, 6] [3] [(vt 0), (.sl 3 0 1001003 3 none), (vt 7)] [.own 1001003 false 23] 4 (qparR_0v1V s (p1_0 ++ [x2.1]) x2.2 _) (qparR_0v1E s (p1_0 ++ [x2.1]) x2.2 _) (qparR_0v1G s (p1_0 ++ [x2.1]) x2.2 _) (fun _ hi S => ih _ _ _ hi h S)))))) (fun h0 h => have H := H.m 3 false (decide_eq_false h0); H.e [0] h))
def qparR_0 : Nat → List UInt8 → Int → Option AV
  | 0, _, _ => none
  | fu + 1, s, p0 =>
    if p0 < (List.length s : Int) then
      if oneG s p0 = true then letB (oneR s p0) fun x2 =>
      if x2.2 < 0 then
        some (.tup [(.im [] true), (.int .i64 p0), (.int .i64 1)])
      else
        qparR_0v1 fu s [x2.1] x2.2 else none
    else
      some (.tup [(.im [] true), (.int .i64 p0), (.int .i64 0)])
def qparR_0W : List AV := [(vt 0), (.im [] true), (vt 1)]
def qparR_0C : List Blk := []
def qparR_0V (s : List UInt8) (p0 : Int) (σ : Nat → Nat) : Val := (valL ([.str s, .int .i64 p0]) ([]) [] σ 0)
def qparR_0X (s : List UInt8) (p0 : Int) (_σ : Nat → Nat) : List AV := [(.str s), (.im [] true), (.int .i64 p0)]
def qparR_0Y (_s : List UInt8) (_p0 : Int) (_σ : Nat → Nat) : List Blk := []
theorem qparR_0E (s : List UInt8) (p0 : Int) (σ : Nat → Nat) : qparR_0W.map (gm (qparR_0V s p0 σ)) = qparR_0X s p0 σ := by kernel_rfl
theorem qparR_0G (s : List UInt8) (p0 : Int) (σ : Nat → Nat) : qparR_0C.map (gB (qparR_0V s p0 σ)) = qparR_0Y s p0 σ := by kernel_rfl
theorem qparR_0_ok : ∀ (fu : Nat) (s : List UInt8) (p0 : Int) {r0 : AV} {z0 : St} {σ : Nat → Nat}, (∀ i j, σ i = σ j → i = j) → qparR_0 fu s p0 = some r0 → Sim (qparR_0V s p0 σ) (tmpl [0, 5, 6] qparR_0W qparR_0C) z0 → J FF (fnOf FF 18) (cutK (fnOf FF 18) 0) (.code (.loop (cutB (fnOf FF 18) 0))) z0 r0 := by
  intro fu
  induction fu with
  | zero =>
    intro _ _ _ _ _ _ h _
    unfold qparR_0 at h
    cases h
  | succ fu ih =>
    intro s p0 r0 z0 σ hσ h S
    unfold qparR_0 at h
    exact J_enter (have H := Tok.start hσ S 0 2 0 0 ([.str s, .int .i64 p0]) ([]) [] (.n) (.n) (qparR_0E s p0 _) (qparR_0G s p0 _); have H := H.t 4 [.int .i64 (List.length s : Int), .bool (decide (p0 < (List.length s : Int)))] |>.r [(.len 1 (cT 0), (vt 2)), (.bin .lss (cT 1) (cT 2), (vt 3))]; iteE h (fun h0 h => have H := H.m 3 true (decide_eq_true h0); reqE h (fun h1 h => letE h (fun x2 h2 h => have H := H.t 9 [.int .i64 x2.1.no, .int .i64 x2.1.a, .int .i64 x2.1.b, .int .i64 x2.2, .bool (decide (x2.2 < 0))] |>.r [(.bin .lss (cT 7) (cI 0), (vt 8))] |>.s [(vt 0), (vt 1)] (.tup [(.agg [(vt 4), (vt 5), (vt 6)]), (vt 7)]) (one_ok1 s p0 h1 h2); iteE h (fun h3 h => have H := H.m 8 true (decide_eq_true h3); H.e [0] h) (fun h3 h => have H := H.m 8 false (decide_eq_false h3); H.k [0] [0, 5, 6] [2] [(vt 0), (.sl 2 0 1 3 none), (vt 7)] [.cells [(vt 4), (vt 5), (vt 6)] false 23] 3 (qparR_0v1V s [x2.1] x2.2 _) (qparR_0v1E s [x2.1] x2.2 _) (qparR_0v1G s [x2.1] x2.2 _) (fun _ hi S => qparR_0v1_ok _ _ _ _ hi h S))))) (fun h0 h => have H := H.m 3 false (decide_eq_false h0); H.e [0] h))
def qparR (fu : Nat) (s : List UInt8) : Option AV :=
  qparR_0 fu s 0
def qparRW : List AV := [(vt 0)]
def qparRV (s : List UInt8) (σ : Nat → Nat) : Val := (valL ([.str s]) ([]) [] σ 0)
def qparRX (s : List UInt8) (_σ : Nat → Nat) : List AV := [(.str s)]
def qparRY (_s : List UInt8) (_σ : Nat → Nat) : List Blk := []
theorem qparRE (s : List UInt8) (σ : Nat → Nat) : qparRW.map (gm (qparRV s σ)) = qparRX s σ := by kernel_rfl
theorem qparRG (s : List UInt8) (σ : Nat → Nat) : ([] : List Blk).map (gB (qparRV s σ)) = qparRY s σ := by kernel_rfl
theorem qparR_ok {fu : Nat} (s : List UInt8) {r0 : AV} (h : qparR fu s = some r0) : Spec FF 18 [(.str s)] r0 := by
  unfold qparR at h
  have hσ : ∀ i j : Nat, (fun i : Nat => i) i = (fun i : Nat => i) j → i = j := fun _ _ e => e
  exact spec_begin (ρ := qparRV s (fun i => i)) (xs := qparRW) (by kernel_rfl) rfl rfl (by kernel_rfl) (fun z0 S => have H := Tok.start hσ S 0 1 0 0 ([.str s]) ([]) [] (.n) .n (qparRE s _) (qparRG s _); H.k [0] [0, 5, 6] [] [(vt 0), (.im [] true), (.int .i64 0)] [] 0 (qparR_0V s 0 _) (qparR_0E s 0 _) (qparR_0G s 0 _) (fun _ hi S => qparR_0_ok _ _ _ hi h S))

end Go.Proofs.Hz
open Go Go.Proofs
namespace Go.Proofs.Hz
theorem drop_line {s : List UInt8} {a : Nat} : s.drop (a + (cutLine (s.drop a)).1.length) = (cutLine (s.drop a)).2 := by
  rw [← List.drop_drop]
  conv => lhs; arg 2; rw [← cutLine_app (s.drop a)]
  exact List.drop_left
theorem parR_run (s : List UInt8) (hs : s.length ≤ 1000000) : ∀ (n : Nat) (out : List Cl) (a : Nat), out ≠ [] → a ≤ s.length → out.length + (s.length - a) ≤ 1000000 → s.length - a < n → qparR_0v1 n s out a = some (pRes (parseGo n out a (s.drop a))) := by
  intro n
  induction n with
  | zero => intro out a _ _ _ h; omega
  | succ n ih =>
    intro out a hout ha hb hn
    rw [qparR_0v1]
    by_cases hlt : a < s.length
    · have hne : s.drop a ≠ [] := by
        intro e
        have := congrArg List.length e
        simp only [List.length_drop, List.length_nil] at this
        omega
      have hg : oneG s a = true := by simp only [oneG, decide_eq_true_eq]; omega
      obtain ⟨l1, l2⟩ := oneR_line (s := s) (i := (a : Int)) (by omega)
      rw [Int.toNat_natCast] at l1 l2
      have hlen := cutLine_len (s.drop a)
      have hpos := cutLine_ne hne
      rw [List.length_drop] at hlen
      rw [if_pos (by omega), if_pos hg, parseGo_step hne]
      unfold letB
      by_cases hk : lineOk (cutLine (s.drop a)).1 = true
      · rw [l1 hk, if_pos hk]
        simp only
        rw [if_neg (by omega), if_pos (by simp only [roomB, List.length_singleton]; omega)]
        rw [show (a : Int) + ((cutLine (s.drop a)).1.length : Int) = ((a + (cutLine (s.drop a)).1.length : Nat) : Int) by omega]
        rw [ih _ _ (by simp) (by omega) (by rw [List.length_append, List.length_singleton]; omega) (by omega), drop_line]
      · rw [if_neg hk]
        simp only
        rw [if_pos (l2 hk)]
        rfl
    · rw [if_neg (by omega), List.drop_eq_nil_of_le (by omega), parseGo_nil]
      unfold pRes
      cases out with
      | nil => exact absurd rfl hout
      | cons c o => rfl
theorem qparR_eq (s : List UInt8) (hs : s.length ≤ 1000000) : qparR (s.length + 1) s = some (pRes (parseF s)) := by
  unfold qparR parseF
  rw [qparR_0]
  by_cases hne : s = []
  · subst hne; rfl
  · have hlt : 0 < s.length := List.length_pos_iff.2 hne
    have hg : oneG s 0 = true := by simp only [oneG, decide_eq_true_eq]; omega
    obtain ⟨l1, l2⟩ := oneR_line (s := s) (i := 0) (by omega)
    rw [show Int.toNat 0 = 0 from rfl, List.drop_zero] at l1 l2
    have hlen := cutLine_len s
    have hpos := cutLine_ne hne
    rw [if_pos (by omega), if_pos hg, parseGo_step hne]
    unfold letB
    by_cases hk : lineOk (cutLine s).1 = true
    · rw [l1 hk, if_pos hk]
      simp only
      rw [if_neg (by omega), show (0 : Int) + ((cutLine s).1.length : Int) = ((0 + (cutLine s).1.length : Nat) : Int) by omega]
      rw [parR_run s hs s.length [lineC (cutLine s).1] _ (by simp) (by omega) (by rw [List.length_singleton]; omega) (by omega)]
      have hd := drop_line (s := s) (a := 0)
      rw [List.drop_zero] at hd
      rw [hd]
      rfl
    · rw [if_neg hk]
      simp only
      rw [if_pos (l2 hk)]
      rfl
theorem parR_ok1 (s : List UInt8) (hl : s.length ≤ 1000000) {p : List Cl × Nat × Int} (h : p = parseF s) : Spec FF 18 [.str s] (.tup [.im (p.1.map eC) p.1.isEmpty, .int .i64 (p.2.1 : Int), .int .i64 p.2.2]) := by
  subst h
  exact qparR_ok s (qparR_eq s hl)
end Go.Proofs.Hz
