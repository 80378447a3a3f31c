/-
  Chapter 15: syscalls' texts, by the document.
  Conditions: none.
-/
import Derived.Test.YtkkhoflfhonlgaaDoorWe
import Derived.Lib.ItoaLen
open Go Go.Proofs
namespace Go.Proofs.Hz
def qprintR_0 : Nat → List Cl → Bool → List UInt8 → Int → Option AV
  | 0, _, _, _, _ => none
  | fu + 1, l, bl, p0, p1 =>
    if p1 < (List.length l : Int) then
      if 0 ≤ p1 then Option.bind (l[Int.toNat p1]?) fun x2 =>
      Option.bind (wordF x2.no) fun x3 =>
      if List.length p0 + List.length x3 ≤ 140737488355328 then if List.length (p0 ++ x3) + List.length [32] ≤ 140737488355328 then if -9223372036854775808 ≤ x2.a ∧ x2.a ≤ 9223372036854775807 then if List.length ((p0 ++ x3) ++ [32]) + List.length (itoaK x2.a) ≤ 140737488355328 then if List.length (((p0 ++ x3) ++ [32]) ++ (itoaK x2.a)) + List.length [32] ≤ 140737488355328 then letB (((((p0 ++ x3) ++ [32]) ++ (itoaK x2.a)) ++ [32])) fun x9 =>
      if -9223372036854775808 ≤ x2.b ∧ x2.b ≤ 9223372036854775807 then if List.length x9 + List.length (itoaK x2.b) ≤ 140737488355328 then if List.length (x9 ++ (itoaK x2.b)) + List.length [10] ≤ 140737488355328 then qprintR_0 fu l bl ((x9 ++ (itoaK x2.b)) ++ [10]) (w64 (p1 + 1)) else none else none else none else none else none else none else none else none else none
    else
      some (.str p0)
def qprintR_0W : List AV := [(vf 0), (vt 0), (vt 1)]
def qprintR_0C : List Blk := []
def qprintR_0V (l : List Cl) (bl : Bool) (p0 : List UInt8) (p1 : Int) (σ : Nat → Nat) : Val := (valL ([.str p0, .int .i64 p1]) ([.im (List.map eC l) bl]) [] σ 0)
def qprintR_0X (l : List Cl) (bl : Bool) (p0 : List UInt8) (p1 : Int) (_σ : Nat → Nat) : List AV := [(.im (List.map eC l) bl), (.str p0), (.int .i64 p1)]
def qprintR_0Y (_l : List Cl) (_bl : Bool) (_p0 : List UInt8) (_p1 : Int) (_σ : Nat → Nat) : List Blk := []
theorem qprintR_0E (l : List Cl) (bl : Bool) (p0 : List UInt8) (p1 : Int) (σ : Nat → Nat) : qprintR_0W.map (gm (qprintR_0V l bl p0 p1 σ)) = qprintR_0X l bl p0 p1 σ := by kernel_rfl
theorem qprintR_0G (l : List Cl) (bl : Bool) (p0 : List UInt8) (p1 : Int) (σ : Nat → Nat) : qprintR_0C.map (gB (qprintR_0V l bl p0 p1 σ)) = qprintR_0Y l bl p0 p1 σ := by kernel_rfl
theorem qprintR_0_ok : ∀ (fu : Nat) (l : List Cl) (bl : Bool) (p0 : List UInt8) (p1 : Int) {r0 : AV} {z0 : St} {σ : Nat → Nat}, (∀ i j, σ i = σ j → i = j) → qprintR_0 fu l bl p0 p1 = some r0 → Sim (qprintR_0V l bl p0 p1 σ) (tmpl [0, 3, 4] qprintR_0W qprintR_0C) z0 → J FF (fnOf FF 23) (cutK (fnOf FF 23) 0) (.code (.loop (cutB (fnOf FF 23) 0))) z0 r0 := by
  intro fu
  induction fu with
  | zero =>
    intro _ _ _ _ _ _ _ _ h _
    unfold qprintR_0 at h
    cases h
  | succ fu ih =>
    intro l bl p0 p1 r0 z0 σ hσ h S
    unfold qprintR_0 at h
    exact J_enter (have H := Tok.start hσ S 0 2 1 0 ([.str p0, .int .i64 p1]) ([.im (List.map eC l) bl]) [] (.c (OkF.im eC_ok _ _) <| .n) (.n) (qprintR_0E l bl p0 p1 _) (qprintR_0G l bl p0 p1 _); have H := H.t 4 [.int .i64 (List.length l : Int), .bool (decide (p1 < (List.length l : Int)))] |>.r [(.bin .lss (cT 1) (cT 2), (vt 3))] |>.c (p := (.len 0 (cF 0), (vt 2))) (fun _ _ _ => fLen (e := eC) (l := l) (b := bl) (by kernel_rfl) (by kernel_rfl)); iteE h (fun h0 h => have H := H.m 3 true (decide_eq_true h0); reqE h (fun h1 h => bindE h (fun x2 h2 h => have H := H.t 7 [.int .i64 x2.no, .int .i64 x2.a, .int .i64 x2.b] |>.c (p := (.iaS 3 (cF 0) (cT 1), (.ip [(vt 4), (vt 5), (vt 6)] 0))) (fun _ _ _ => fIa (sz := 3) (e := eC) (l := l) (b := bl) (k := .i64) (n := p1) (y := x2) eC_ok (by kernel_rfl) (by kernel_rfl) h1 h2 (by kernel_rfl)); bindE h (fun x3 h3 h => have H := H.t 8 [.str x3] |>.s [(vt 4)] (vt 7) (word_ok h3); reqE h (fun h4 h => have H := H.t 9 [.str (p0 ++ x3)] |>.c (p := (.bin .add (cT 0) (cT 7), (vt 8))) (fun _ _ _ => fCat (a := p0) (b := x3) (by kernel_rfl) (by kernel_rfl) h4 (by kernel_rfl)); reqE h (fun h5 h => have H := H.t 10 [.str ((p0 ++ x3) ++ [32])] |>.c (p := (.bin .add (cT 8) (.c (.str [32])), (vt 9))) (fun _ _ _ => fCat (a := (p0 ++ x3)) (b := [32]) (by kernel_rfl) (by kernel_rfl) h5 (by kernel_rfl)); reqE h (fun h6 h => have H := H.t 11 [.str (itoaK x2.a)] |>.s [(vt 5)] (vt 10) (figures_ok x2.a h6); reqE h (fun h7 h => have H := H.t 12 [.str (((p0 ++ x3) ++ [32]) ++ (itoaK x2.a))] |>.c (p := (.bin .add (cT 9) (cT 10), (vt 11))) (fun _ _ _ => fCat (a := ((p0 ++ x3) ++ [32])) (b := (itoaK x2.a)) (by kernel_rfl) (by kernel_rfl) h7 (by kernel_rfl)); reqE h (fun h8 h => letE h (fun x9 h9 h => have H := H.t 13 [.str x9] |>.c (p := (.bin .add (cT 11) (.c (.str [32])), (vt 12))) (fun _ _ _ => fCat (a := (((p0 ++ x3) ++ [32]) ++ (itoaK x2.a))) (b := [32]) (by kernel_rfl) (by kernel_rfl) h8 (by subst h9; kernel_rfl)); reqE h (fun h10 h => have H := H.t 14 [.str (itoaK x2.b)] |>.s [(vt 6)] (vt 13) (figures_ok x2.b h10); reqE h (fun h11 h => have H := H.t 15 [.str (x9 ++ (itoaK x2.b))] |>.c (p := (.bin .add (cT 12) (cT 13), (vt 14))) (fun _ _ _ => fCat (a := x9) (b := (itoaK x2.b)) (by kernel_rfl) (by kernel_rfl) h11 (by kernel_rfl)); reqE h (fun h12 h => have H := H.t 17 [.str ((x9 ++ (itoaK x2.b)) ++ [10]), .int .i64 (w64 (p1 + 1))] |>.r [(.bin .add (cT 1) (cI 1), (vt 16))] |>.c (p := (.bin .add (cT 14) (.c (.str [10])), (vt 15))) (fun _ _ _ => fCat (a := (x9 ++ (itoaK x2.b))) (b := [10]) (by kernel_rfl) (by kernel_rfl) h12 (by kernel_rfl)); H.k [0] [0, 3, 4] [] [(vf 0), (vt 15), (vt 16)] [] 26 (qprintR_0V l bl ((x9 ++ (itoaK x2.b)) ++ [10]) (w64 (p1 + 1)) _) (qprintR_0E l bl ((x9 ++ (itoaK x2.b)) ++ [10]) (w64 (p1 + 1)) _) (qprintR_0G l bl ((x9 ++ (itoaK x2.b)) ++ [10]) (w64 (p1 + 1)) _) (fun _ hi S => ih _ _ _ _ hi h S)))))))))))))) (fun h0 h => have H := H.m 3 false (decide_eq_false h0); H.e [0] h))
def qprintR (fu : Nat) (l : List Cl) (bl : Bool) : Option AV :=
  qprintR_0 fu l bl [] 0
def qprintRW : List AV := [(vf 0)]
def qprintRV (l : List Cl) (bl : Bool) (σ : Nat → Nat) : Val := (valL ([]) ([.im (List.map eC l) bl]) [] σ 0)
def qprintRX (l : List Cl) (bl : Bool) (_σ : Nat → Nat) : List AV := [(.im (List.map eC l) bl)]
def qprintRY (_l : List Cl) (_bl : Bool) (_σ : Nat → Nat) : List Blk := []
theorem qprintRE (l : List Cl) (bl : Bool) (σ : Nat → Nat) : qprintRW.map (gm (qprintRV l bl σ)) = qprintRX l bl σ := by kernel_rfl
theorem qprintRG (l : List Cl) (bl : Bool) (σ : Nat → Nat) : ([] : List Blk).map (gB (qprintRV l bl σ)) = qprintRY l bl σ := by kernel_rfl
theorem qprintR_ok {fu : Nat} (l : List Cl) (bl : Bool) {r0 : AV} (h : qprintR fu l bl = some r0) : Spec FF 23 [(.im (List.map eC l) bl)] r0 := by
  unfold qprintR at h
  have hσ : ∀ i j : Nat, (fun i : Nat => i) i = (fun i : Nat => i) j → i = j := fun _ _ e => e
  exact spec_begin (ρ := qprintRV l bl (fun i => i)) (xs := qprintRW) (by kernel_rfl) rfl rfl (by kernel_rfl) (fun z0 S => have H := Tok.start hσ S 0 0 1 0 ([]) ([.im (List.map eC l) bl]) [] (.c (OkF.im eC_ok _ _) <| .n) .n (qprintRE l bl _) (qprintRG l bl _); H.k [0] [0, 3, 4] [] [(vf 0), (.str []), (.int .i64 0)] [] 0 (qprintR_0V l bl [] 0 _) (qprintR_0E l bl [] 0 _) (qprintR_0G l bl [] 0 _) (fun _ hi S => qprintR_0_ok _ _ _ _ _ hi h S))

end Go.Proofs.Hz
open Go Go.Proofs
namespace Go.Proofs.Hz
theorem okC_iff (c : Cl) : okC c = true ↔ (0 ≤ c.no ∧ c.no ≤ 9) ∧ (-9223372036854775808 ≤ c.a ∧ c.a ≤ 9223372036854775807) ∧ -9223372036854775808 ≤ c.b ∧ c.b ≤ 9223372036854775807 := by
  simp [okC, inI]
theorem okP_iff (l : List Cl) : okP l = true ↔ l.length ≤ 100000 ∧ ∀ c ∈ l, okC c = true := by
  simp [okP]
theorem itoaK_len {n : Int} (h : -9223372036854775808 ≤ n ∧ n ≤ 9223372036854775807) : (itoaK n).length ≤ 21 := by
  rw [itoaK_eq h.1 h.2]; exact Lib.itoa_length_le n h.1 h.2
theorem wordK_len (no : Int) : (wordK no).length ≤ 5 := by
  unfold wordK kdOf
  (repeat' split) <;> simp
theorem lineF_len {c : Cl} (h : okC c = true) : (lineF c).length ≤ 50 := by
  obtain ⟨_, h1, h2⟩ := (okC_iff c).1 h
  have := itoaK_len h1
  have := itoaK_len h2
  have := wordK_len c.no
  simp only [lineF, List.length_append, List.length_cons, List.length_nil]
  omega
theorem printF_len : ∀ {l : List Cl}, (∀ c ∈ l, okC c = true) → (printF l).length ≤ 50 * l.length
  | [], _ => by simp [printF]
  | c :: l, h => by
    have h1 := lineF_len (h c (by simp))
    have h2 := printF_len (l := l) fun d hd => h d (by simp [hd])
    simp only [printF, List.map_cons, List.flatten_cons, List.length_append, List.length_cons] at h2 ⊢
    omega
theorem printF_append (l m : List Cl) : printF (l ++ m) = printF l ++ printF m := by simp [printF]
theorem printF_one (c : Cl) : printF [c] = lineF c := by simp [printF]
theorem printF_take {l : List Cl} {i : Nat} (h : i < l.length) : printF (l.take (i + 1)) = printF (l.take i) ++ lineF l[i] := by
  rw [List.take_succ_eq_append_getElem h, printF_append, printF_one]
theorem qprintR_0_eq (l : List Cl) (bl : Bool) (h : okP l = true) : ∀ (k i : Nat), i + k = l.length → qprintR_0 (k + 1) l bl (printF (l.take i)) i = some (.str (printF l)) := by
  obtain ⟨hn, hok⟩ := (okP_iff l).1 h
  intro k
  induction k with
  | zero =>
    intro i hi
    unfold qprintR_0
    rw [if_neg (by omega), List.take_of_length_le (by omega)]
  | succ k ih =>
    intro i hi
    have h1 : i < l.length := by omega
    have hc := hok _ (List.getElem_mem h1)
    obtain ⟨c1, c2, c3⟩ := (okC_iff _).1 hc
    have la := itoaK_len c2
    have lb := itoaK_len c3
    have lw := wordK_len l[i].no
    have hp : (printF (l.take i)).length ≤ 5000000 := by
      have := printF_len (l := l.take i) fun c hc => hok c (List.mem_of_mem_take hc)
      simp only [List.length_take] at this
      omega
    have ih' := ih (i + 1) (by omega)
    rw [printF_take h1] at ih'
    generalize hpp : printF (l.take i) = p at hp ih' ⊢
    unfold qprintR_0
    rw [if_pos (by omega), if_pos (by omega)]
    simp only [Int.toNat_natCast, List.getElem?_eq_getElem h1, Option.bind_some, wordF, if_pos c1, letB]
    rw [if_pos (by omega), if_pos (by simp only [List.length_append, List.length_cons, List.length_nil]; omega), if_pos c2, if_pos (by simp only [List.length_append, List.length_cons, List.length_nil]; omega),
      if_pos (by simp only [List.length_append, List.length_cons, List.length_nil]; omega), if_pos c3, if_pos (by simp only [List.length_append, List.length_cons, List.length_nil]; omega), if_pos (by simp only [List.length_append, List.length_cons, List.length_nil]; omega), w64_at h1 (by omega)]
    rw [← ih']
    congr 1
    simp only [lineF, List.append_assoc]
theorem qprintR_eq (l : List Cl) (bl : Bool) (h : okP l = true) : qprintR (l.length + 1) l bl = some (.str (printF l)) := by
  unfold qprintR
  exact qprintR_0_eq l bl h l.length 0 (by omega)
theorem printR_ok (l : List Cl) (bl : Bool) (h : okP l = true) : Spec FF 23 [.im (l.map eC) bl] (.str (printF l)) := qprintR_ok l bl (qprintR_eq l bl h)
end Go.Proofs.Hz
