/-
  Chapter 15: a number's figures, by the document.
  Conditions: none.
-/
import Derived.Test.YtkkhoflfhonlgaaDoorWd
open Go Go.Proofs
namespace Go.Proofs.Hz
def qfigures_0 : Nat → Int → List UInt8 → Int → Option AV
  | 0, _, _, _ => none
  | fu + 1, n, p0, p1 =>
    if p1 = 0 then
      if (p0 == []) = true then
        letB ((w64 (48 + (if (IntKind.wrap .i64 (0 - (Int.tmod p1 10))) > (Int.tmod p1 10) then (IntKind.wrap .i64 (0 - (Int.tmod p1 10))) else (Int.tmod p1 10))))) fun x2 =>
        if List.length [UInt8.ofNat (Int.toNat (IntKind.wrap .u8 x2))] + List.length p0 ≤ 140737488355328 then letB (([UInt8.ofNat (Int.toNat (IntKind.wrap .u8 x2))] ++ p0)) fun x4 =>
        qfigures_0 fu n x4 (IntKind.wrap .i64 (Int.tdiv p1 10)) else none
      else
        if n < 0 then
          if List.length [45] + List.length p0 ≤ 140737488355328 then some (.str ([45] ++ p0)) else none
        else
          some (.str p0)
    else
      letB ((w64 (48 + (if (IntKind.wrap .i64 (0 - (Int.tmod p1 10))) > (Int.tmod p1 10) then (IntKind.wrap .i64 (0 - (Int.tmod p1 10))) else (Int.tmod p1 10))))) fun x1 =>
      if List.length [UInt8.ofNat (Int.toNat (IntKind.wrap .u8 x1))] + List.length p0 ≤ 140737488355328 then letB (([UInt8.ofNat (Int.toNat (IntKind.wrap .u8 x1))] ++ p0)) fun x3 =>
      qfigures_0 fu n x3 (IntKind.wrap .i64 (Int.tdiv p1 10)) else none
def qfigures_0W : List AV := [(vt 0), (vt 1), (vt 2)]
def qfigures_0C : List Blk := []
def qfigures_0V (n : Int) (p0 : List UInt8) (p1 : Int) (σ : Nat → Nat) : Val := (valL ([.int .i64 n, .str p0, .int .i64 p1]) ([]) [] σ 0)
def qfigures_0X (n : Int) (p0 : List UInt8) (p1 : Int) (_σ : Nat → Nat) : List AV := [(.int .i64 n), (.str p0), (.int .i64 p1)]
def qfigures_0Y (_n : Int) (_p0 : List UInt8) (_p1 : Int) (_σ : Nat → Nat) : List Blk := []
theorem qfigures_0E (n : Int) (p0 : List UInt8) (p1 : Int) (σ : Nat → Nat) : qfigures_0W.map (gm (qfigures_0V n p0 p1 σ)) = qfigures_0X n p0 p1 σ := by kernel_rfl
theorem qfigures_0G (n : Int) (p0 : List UInt8) (p1 : Int) (σ : Nat → Nat) : qfigures_0C.map (gB (qfigures_0V n p0 p1 σ)) = qfigures_0Y n p0 p1 σ := by kernel_rfl
theorem qfigures_0_ok : ∀ (fu : Nat) (n : Int) (p0 : List UInt8) (p1 : Int) {r0 : AV} {z0 : St} {σ : Nat → Nat}, (∀ i j, σ i = σ j → i = j) → qfigures_0 fu n p0 p1 = some r0 → Sim (qfigures_0V n p0 p1 σ) (tmpl [0, 3, 4] qfigures_0W qfigures_0C) z0 → J FF (fnOf FF 38) (cutK (fnOf FF 38) 0) (.code (.loop (cutB (fnOf FF 38) 0))) z0 r0 := by
  intro fu
  induction fu with
  | zero =>
    intro _ _ _ _ _ _ _ h _
    unfold qfigures_0 at h
    cases h
  | succ fu ih =>
    intro n p0 p1 r0 z0 σ hσ h S
    unfold qfigures_0 at h
    exact J_enter (have H := Tok.start hσ S 0 3 0 0 ([.int .i64 n, .str p0, .int .i64 p1]) ([]) [] (.n) (.n) (qfigures_0E n p0 p1 _) (qfigures_0G n p0 p1 _); have H := H.t 4 [.bool (!decide (p1 = 0))] |>.r [(.bin .neq (cT 2) (cI 0), (vt 3))]; iteE h (fun h0 h => have H := H.t 5 [.bool (p0 == [])] |>.r [(.bin .eql (cT 1) (.c (.str [])), (vt 4))] |>.m 3 false (nT h0); iteE h (fun h1 h => have H := H.t 8 [.int .i64 (Int.tmod p1 10), .int .i64 (IntKind.wrap .i64 (0 - (Int.tmod p1 10))), .int .i64 (if (IntKind.wrap .i64 (0 - (Int.tmod p1 10))) > (Int.tmod p1 10) then (IntKind.wrap .i64 (0 - (Int.tmod p1 10))) else (Int.tmod p1 10))] |>.r [(.un .neg (cT 5), (vt 6)), (.mxi (cT 5) (cT 6), (vt 7))] |>.m 4 true h1 |>.c (p := (.bin .rem (cT 2) (cI 10), (vt 5))) (fun _ _ _ => fRem (k := .i64) (a := p1) (b := 10) (by kernel_rfl) (by kernel_rfl) (by decide) (by kernel_rfl)); letE h (fun x2 h2 h => have H := H.t 11 [.int .i64 x2, .int .u8 (IntKind.wrap .u8 x2), .str [UInt8.ofNat (Int.toNat (IntKind.wrap .u8 x2))]] |>.r [(.conv .u8 (cT 8), (vt 9)), (.b2s (.c (.im [[(vt 9)]] true)), (vt 10))] |>.c (p := (.bin .add (cI 48) (cT 7), (vt 8))) (fun _ _ _ => fun _ => by subst h2; kernel_rfl); reqE h (fun h3 h => letE h (fun x4 h4 h => have H := H.t 13 [.str x4, .int .i64 (IntKind.wrap .i64 (Int.tdiv p1 10))] |>.c (p := (.bin .add (cT 10) (cT 1), (vt 11))) (fun _ _ _ => fCat (a := [UInt8.ofNat (Int.toNat (IntKind.wrap .u8 x2))]) (b := p0) (by kernel_rfl) (by kernel_rfl) h3 (by subst h4; kernel_rfl)) |>.c (p := (.bin .quo (cT 2) (cI 10), (vt 12))) (fun _ _ _ => fQuo (k := .i64) (a := p1) (b := 10) (by kernel_rfl) (by kernel_rfl) (by decide) (by kernel_rfl)); H.k [0] [0, 3, 4] [] [(vt 0), (vt 11), (vt 12)] [] 1 (qfigures_0V n x4 (IntKind.wrap .i64 (Int.tdiv p1 10)) _) (qfigures_0E n x4 (IntKind.wrap .i64 (Int.tdiv p1 10)) _) (qfigures_0G n x4 (IntKind.wrap .i64 (Int.tdiv p1 10)) _) (fun _ hi S => ih _ _ _ hi h S))))) (fun h1 h => have H := H.t 6 [.bool (decide (n < 0))] |>.r [(.bin .lss (cT 0) (cI 0), (vt 5))] |>.m 4 false (bF h1); iteE h (fun h2 h => have H := H.m 5 true (decide_eq_true h2); reqE h (fun h3 h => have H := H.t 7 [.str ([45] ++ p0)] |>.c (p := (.bin .add (.c (.str [45])) (cT 1), (vt 6))) (fun _ _ _ => fCat (a := [45]) (b := p0) (by kernel_rfl) (by kernel_rfl) h3 (by kernel_rfl)); H.e [0] h)) (fun h2 h => have H := H.m 5 false (decide_eq_false h2); H.e [0] h))) (fun h0 h => have H := H.t 7 [.int .i64 (Int.tmod p1 10), .int .i64 (IntKind.wrap .i64 (0 - (Int.tmod p1 10))), .int .i64 (if (IntKind.wrap .i64 (0 - (Int.tmod p1 10))) > (Int.tmod p1 10) then (IntKind.wrap .i64 (0 - (Int.tmod p1 10))) else (Int.tmod p1 10))] |>.r [(.un .neg (cT 4), (vt 5)), (.mxi (cT 4) (cT 5), (vt 6))] |>.m 3 true (nF h0) |>.c (p := (.bin .rem (cT 2) (cI 10), (vt 4))) (fun _ _ _ => fRem (k := .i64) (a := p1) (b := 10) (by kernel_rfl) (by kernel_rfl) (by decide) (by kernel_rfl)); letE h (fun x1 h1 h => have H := H.t 10 [.int .i64 x1, .int .u8 (IntKind.wrap .u8 x1), .str [UInt8.ofNat (Int.toNat (IntKind.wrap .u8 x1))]] |>.r [(.conv .u8 (cT 7), (vt 8)), (.b2s (.c (.im [[(vt 8)]] true)), (vt 9))] |>.c (p := (.bin .add (cI 48) (cT 6), (vt 7))) (fun _ _ _ => fun _ => by subst h1; kernel_rfl); reqE h (fun h2 h => letE h (fun x3 h3 h => have H := H.t 12 [.str x3, .int .i64 (IntKind.wrap .i64 (Int.tdiv p1 10))] |>.c (p := (.bin .add (cT 9) (cT 1), (vt 10))) (fun _ _ _ => fCat (a := [UInt8.ofNat (Int.toNat (IntKind.wrap .u8 x1))]) (b := p0) (by kernel_rfl) (by kernel_rfl) h2 (by subst h3; kernel_rfl)) |>.c (p := (.bin .quo (cT 2) (cI 10), (vt 11))) (fun _ _ _ => fQuo (k := .i64) (a := p1) (b := 10) (by kernel_rfl) (by kernel_rfl) (by decide) (by kernel_rfl)); H.k [0] [0, 3, 4] [] [(vt 0), (vt 10), (vt 11)] [] 1 (qfigures_0V n x3 (IntKind.wrap .i64 (Int.tdiv p1 10)) _) (qfigures_0E n x3 (IntKind.wrap .i64 (Int.tdiv p1 10)) _) (qfigures_0G n x3 (IntKind.wrap .i64 (Int.tdiv p1 10)) _) (fun _ hi S => ih _ _ _ hi h S))))))
def qfigures (fu : Nat) (n : Int) : Option AV :=
  qfigures_0 fu n [] n
def qfiguresW : List AV := [(vt 0)]
def qfiguresV (n : Int) (σ : Nat → Nat) : Val := (valL ([.int .i64 n]) ([]) [] σ 0)
def qfiguresX (n : Int) (_σ : Nat → Nat) : List AV := [(.int .i64 n)]
def qfiguresY (_n : Int) (_σ : Nat → Nat) : List Blk := []
theorem qfiguresE (n : Int) (σ : Nat → Nat) : qfiguresW.map (gm (qfiguresV n σ)) = qfiguresX n σ := by kernel_rfl
theorem qfiguresG (n : Int) (σ : Nat → Nat) : ([] : List Blk).map (gB (qfiguresV n σ)) = qfiguresY n σ := by kernel_rfl
theorem qfigures_ok {fu : Nat} (n : Int) {r0 : AV} (h : qfigures fu n = some r0) : Spec FF 38 [(.int .i64 n)] r0 := by
  unfold qfigures at h
  have hσ : ∀ i j : Nat, (fun i : Nat => i) i = (fun i : Nat => i) j → i = j := fun _ _ e => e
  exact spec_begin (ρ := qfiguresV n (fun i => i)) (xs := qfiguresW) (by kernel_rfl) rfl rfl (by kernel_rfl) (fun z0 S => have H := Tok.start hσ S 0 1 0 0 ([.int .i64 n]) ([]) [] (.n) .n (qfiguresE n _) (qfiguresG n _); H.k [0] [0, 3, 4] [] [(vt 0), (.str []), (vt 0)] [] 0 (qfigures_0V n [] n _) (qfigures_0E n [] n _) (qfigures_0G n [] n _) (fun _ hi S => qfigures_0_ok _ _ _ _ hi h S))

end Go.Proofs.Hz
open Go Go.Proofs
namespace Go.Proofs.Hz
theorem wI {x : Int} (h : -9223372036854775808 ≤ x ∧ x ≤ 9223372036854775807) : IntKind.wrap .i64 x = x := by
  unfold IntKind.wrap; simp [IntKind.signed, IntKind.bits]; omega
theorem wB {x : Int} (h : 0 ≤ x ∧ x ≤ 255) : IntKind.wrap .u8 x = x := by
  unfold IntKind.wrap; simp [IntKind.signed, IntKind.bits]; omega
/-- A number's last figure. -/
theorem fig_eq (m : Int) : UInt8.ofNat (Int.toNat (IntKind.wrap .u8 (w64 (48 + (if (IntKind.wrap .i64 (0 - (Int.tmod m 10))) > (Int.tmod m 10) then (IntKind.wrap .i64 (0 - (Int.tmod m 10))) else (Int.tmod m 10)))))) = UInt8.ofNat (48 + m.natAbs % 10) := by
  have h1 : (Int.tmod m 10).natAbs = m.natAbs % 10 := by rw [Int.natAbs_tmod]; rfl
  have h2 : m.natAbs % 10 < 10 := Nat.mod_lt _ (by decide)
  generalize hd : Int.tmod m 10 = d at h1
  generalize m.natAbs % 10 = q at h1 h2
  have hw : IntKind.wrap .i64 (0 - d) = 0 - d := wI (by omega)
  rw [hw]
  have e : (if (0 - d) > d then (0 - d) else d) = (q : Int) := by
    split <;> omega
  rw [e]
  unfold w64
  rw [wI (by omega), wB (by omega)]
  congr 1
theorem tdiv_abs (m : Int) : (Int.tdiv m 10).natAbs = m.natAbs / 10 := by rw [Int.natAbs_tdiv]; rfl
theorem qfigures_end (k : Nat) (n : Int) (p : List UInt8) (hp : p ≠ []) (hl : p.length ≤ 100) : qfigures_0 (k + 1) n p 0 = some (.str (if n < 0 then 45 :: p else p)) := by
  unfold qfigures_0
  have hb : (p == []) = false := beq_eq_false_iff_ne.2 hp
  rw [if_pos rfl, hb, if_neg (by simp)]
  by_cases h : n < 0
  · rw [if_pos h, if_pos h, if_pos (by simp only [List.length_cons, List.length_nil]; omega)]; rfl
  · rw [if_neg h, if_neg h]
theorem qfigures_0_eq (n : Int) : ∀ (k : Nat) (p : List UInt8) (m : Int), m ≠ 0 → -9223372036854775808 ≤ m ∧ m ≤ 9223372036854775807 → m.natAbs < 10 ^ (k + 1) → p.length + k ≤ 90 →
    qfigures_0 (k + 2) n p m = some (.str (if n < 0 then 45 :: (Lib.decDigits m.natAbs ++ p) else Lib.decDigits m.natAbs ++ p)) := by
  intro k
  induction k with
  | zero =>
    intro p m h0 hm hlt hl
    have h10 : m.natAbs < 10 := by simpa using hlt
    have hz : Int.tdiv m 10 = 0 := by
      have := tdiv_abs m
      omega
    unfold qfigures_0
    rw [if_neg h0]
    unfold letB
    simp only [fig_eq, hz]
    rw [if_pos (by simp only [List.length_cons, List.length_nil]; omega), wI (by omega), List.singleton_append, qfigures_end 0 n _ (by simp) (by simp only [List.length_cons]; omega)]
    rw [Lib.decDigits_one h10, Nat.mod_eq_of_lt h10]
    simp
  | succ k ih =>
    intro p m h0 hm hlt hl
    have hb : -9223372036854775808 ≤ Int.tdiv m 10 ∧ Int.tdiv m 10 ≤ 9223372036854775807 := by
      have := tdiv_abs m
      omega
    unfold qfigures_0
    rw [if_neg h0]
    unfold letB
    simp only [fig_eq]
    rw [if_pos (by simp only [List.length_cons, List.length_nil]; omega), wI hb, List.singleton_append]
    by_cases h10 : m.natAbs < 10
    · have hz : Int.tdiv m 10 = 0 := by
        have := tdiv_abs m
        omega
      rw [hz, qfigures_end (k + 1) n _ (by simp) (by simp only [List.length_cons]; omega), Lib.decDigits_one h10, Nat.mod_eq_of_lt h10]
      simp
    · have hne : Int.tdiv m 10 ≠ 0 := fun e => by
        have := tdiv_abs m
        rw [e] at this
        simp at this
        omega
      rw [ih _ _ hne hb (by rw [tdiv_abs]; rw [Nat.pow_succ] at hlt; omega) (by simp only [List.length_cons]; omega), tdiv_abs]
      have hd : Lib.decDigits m.natAbs = Lib.decDigits (m.natAbs / 10) ++ [UInt8.ofNat (48 + m.natAbs % 10)] := by
        conv => lhs; rw [Lib.decDigits]
        rw [dif_neg h10]
      rw [hd]
      simp
theorem qfigures_eq {n : Int} (h : -9223372036854775808 ≤ n ∧ n ≤ 9223372036854775807) : qfigures 25 n = some (.str (itoaK n)) := by
  rw [itoaK_eq h.1 h.2]
  unfold qfigures
  by_cases h0 : n = 0
  · subst h0
    unfold qfigures_0
    rw [if_pos rfl, if_pos (by simp)]
    unfold letB
    simp only [fig_eq]
    rw [if_pos (by simp)]
    have hz : IntKind.wrap .i64 (Int.tdiv 0 10) = 0 := by decide
    rw [hz, List.append_nil, qfigures_end 23 0 _ (by simp) (by simp)]
    simp [Lib.itoa, Lib.decDigits_one]
  · rw [qfigures_0_eq n 23 [] n h0 h (by have : (10 : Nat) ^ (23 + 1) = 1000000000000000000000000 := by decide
                                         omega) (by simp)]
    unfold Lib.itoa
    simp only [List.append_nil]
    split
    · rfl
    · rename_i hn
      rw [show n.natAbs = n.toNat by omega]
theorem figures_ok (n : Int) (h : -9223372036854775808 ≤ n ∧ n ≤ 9223372036854775807) : Spec FF 38 [.int .i64 n] (.str (itoaK n)) := qfigures_ok n (qfigures_eq h)
end Go.Proofs.Hz
