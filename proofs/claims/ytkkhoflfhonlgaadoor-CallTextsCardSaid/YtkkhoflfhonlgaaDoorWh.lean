/-
  Chapter 15: are two rows the same?
  Conditions: none.
-/
import Derived.Test.YtkkhoflfhonlgaaDoorWf
import Derived.Test.YtkkhoflfhonlgaaDoorWg
import Derived.Test.YtkkhoflfhonlgaaDoorWd
open Go Go.Proofs
namespace Go.Proofs.Hz
theorem kinds_no {P : Int → Prop} (h0 : P 0) (h1 : P 1) (h2 : P 2) (h3 : P 3) (h4 : P 4) (h5 : P 5) (h6 : P 6) (h7 : P 7) (h8 : P 8) (h9 : P 9) {no : Int} (h : 0 ≤ no ∧ no ≤ 9) : P no := by
  rcases kd_cases' no with rfl | rfl | rfl | rfl | rfl | rfl | rfl | rfl | rfl | rfl | hh
  all_goals first | assumption | (exfalso; omega)
/-- One round, with a text already. -/
theorem qprint_round1 {l : List Cl} {bl : Bool} {p : List UInt8} {i : Nat} {c : Cl} (hi : l[i]? = some c) (hlt : i < l.length) (hc : okC c = true) (hp : p.length ≤ 5000000) (k : Nat) :
    qprint_0v1 (k + 1) l bl p i = qprint_0v1 k l bl (p ++ lineF c) (w64 ((i : Int) + 1)) := by
  obtain ⟨c1, c2, c3⟩ := (okC_iff _).1 hc
  have la := itoaK_len c2
  have lb := itoaK_len c3
  rw [qprint_0v1, if_pos (by omega), if_pos (by omega)]
  simp only [Int.toNat_natCast, hi, Option.bind_some, letB, lineF, wordK]
  obtain ⟨no, a, b⟩ := c
  simp only at c1 c2 c3 la lb ⊢
  rcases kd_cases' no with rfl | rfl | rfl | rfl | rfl | rfl | rfl | rfl | rfl | rfl | hh
  case inr.inr.inr.inr.inr.inr.inr.inr.inr.inr => omega
  all_goals
    simp only [Int.reduceEq, if_true, if_false]
    repeat rw [if_pos (by first | omega | (simp only [roomB, List.length_append, List.length_cons, List.length_nil]; omega) | simp)]
    try simp [kdOf]
theorem qprint_round0 {l : List Cl} {bl : Bool} {i : Nat} {c : Cl} (hi : l[i]? = some c) (hlt : i < l.length) (hc : okC c = true) (k : Nat) :
    qprint_0 (k + 1) l bl i = qprint_0v1 k l bl (lineF c) (w64 ((i : Int) + 1)) := by
  obtain ⟨c1, c2, c3⟩ := (okC_iff _).1 hc
  have la := itoaK_len c2
  have lb := itoaK_len c3
  rw [qprint_0, if_pos (by omega), if_pos (by omega)]
  simp only [Int.toNat_natCast, hi, Option.bind_some, letB, lineF, wordK]
  obtain ⟨no, a, b⟩ := c
  simp only at c1 c2 c3 la lb ⊢
  rcases kd_cases' no with rfl | rfl | rfl | rfl | rfl | rfl | rfl | rfl | rfl | rfl | hh
  case inr.inr.inr.inr.inr.inr.inr.inr.inr.inr => omega
  all_goals
    simp only [Int.reduceEq, if_true, if_false]
    repeat rw [if_pos (by first | omega | (simp only [roomB, List.length_append, List.length_cons, List.length_nil]; omega) | simp)]
    try rfl
theorem qprint_0v1_eq (l : List Cl) (bl : Bool) (h : okP l = true) : ∀ (k i : Nat), i + k = l.length → printF (l.take i) ≠ [] → qprint_0v1 (k + 1) l bl (printF (l.take i)) i = some (.str (printF l)) := by
  obtain ⟨hn, hok⟩ := (okP_iff l).1 h
  have hp : ∀ i, (printF (l.take i)).length ≤ 5000000 := fun i => by
    have := printF_len (l := l.take i) fun c hc => hok c (List.mem_of_mem_take hc)
    simp only [List.length_take] at this
    omega
  intro k
  induction k with
  | zero =>
    intro i hi hne
    have hlen : 0 < (printF (l.take i)).length := List.length_pos_iff.2 hne
    have hpi := hp i
    rw [List.take_of_length_le (by omega)] at hne hlen hpi ⊢
    rw [qprint_0v1, if_neg (by omega)]
    repeat rw [if_pos (by first | exact hne | omega | (simp only [roomB, List.length_nil]; omega))]
  | succ k ih =>
    intro i hi hne
    have h1 : i < l.length := by omega
    have hc := hok _ (List.getElem_mem h1)
    rw [qprint_round1 (List.getElem?_eq_getElem h1) h1 hc (hp i), w64_at h1 (by omega), ← printF_take h1]
    exact ih (i + 1) (by omega) (by rw [printF_take h1]; simp [hne])
theorem lineF_ne (c : Cl) : lineF c ≠ [] := by simp [lineF]
theorem qprint_eq (l : List Cl) (bl : Bool) (h : okP l = true) : qprint (l.length + 1) l bl = some (.str (printF l)) := by
  obtain ⟨hn, hok⟩ := (okP_iff l).1 h
  unfold qprint
  cases l with
  | nil =>
    show qprint_0 (0 + 1) [] bl 0 = _
    rw [qprint_0, if_neg (by simp)]
    rfl
  | cons c l =>
    have hc := hok c (by simp)
    have h0 : (c :: l)[0]? = some c := rfl
    have := qprint_round0 (bl := bl) h0 (by simp) hc (c :: l).length
    rw [show ((0 : Nat) : Int) = 0 from rfl] at this
    rw [this, show w64 (0 + 1) = ((1 : Nat) : Int) by decide]
    have e := qprint_0v1_eq (c :: l) bl h l.length 1 (by simp; omega) (by simp [printF, lineF])
    have h1 : printF ((c :: l).take 1) = lineF c := by simp [printF]
    rw [h1] at e
    exact e
theorem print_ok (l : List Cl) (bl : Bool) (h : okP l = true) : Spec FF 22 [.im (l.map eC) bl] (.str (printF l)) := qprint_ok l bl (qprint_eq l bl h)
end Go.Proofs.Hz
open Go Go.Proofs
namespace Go.Proofs.Hz
def qsameC (l : List Cl) (_bl : Bool) (m : List Cl) (_bm : Bool) : Option AV :=
  if List.length l ≤ 1000000 then some (.bool (eqC l m)) else none
def qsameCW : List AV := [(vf 0), (vf 1)]
def qsameCV (l : List Cl) (bl : Bool) (m : List Cl) (bm : Bool) (σ : Nat → Nat) : Val := (valL ([]) ([.im (List.map eC l) bl, .im (List.map eC m) bm]) [] σ 0)
def qsameCX (l : List Cl) (bl : Bool) (m : List Cl) (bm : Bool) (_σ : Nat → Nat) : List AV := [(.im (List.map eC l) bl), (.im (List.map eC m) bm)]
def qsameCY (_l : List Cl) (_bl : Bool) (_m : List Cl) (_bm : Bool) (_σ : Nat → Nat) : List Blk := []
theorem qsameCE (l : List Cl) (bl : Bool) (m : List Cl) (bm : Bool) (σ : Nat → Nat) : qsameCW.map (gm (qsameCV l bl m bm σ)) = qsameCX l bl m bm σ := by kernel_rfl
theorem qsameCG (l : List Cl) (bl : Bool) (m : List Cl) (bm : Bool) (σ : Nat → Nat) : ([] : List Blk).map (gB (qsameCV l bl m bm σ)) = qsameCY l bl m bm σ := by kernel_rfl
theorem qsameC_ok (l : List Cl) (bl : Bool) (m : List Cl) (bm : Bool) {r0 : AV} (h : qsameC l bl m bm = some r0) : Spec FF 20 [(.im (List.map eC l) bl), (.im (List.map eC m) bm)] r0 := by
  unfold qsameC at h
  have hσ : ∀ i j : Nat, (fun i : Nat => i) i = (fun i : Nat => i) j → i = j := fun _ _ e => e
  exact spec_begin (ρ := qsameCV l bl m bm (fun i => i)) (xs := qsameCW) (by kernel_rfl) rfl rfl (by kernel_rfl) (fun z0 S => have H := Tok.start hσ S 0 0 2 0 ([]) ([.im (List.map eC l) bl, .im (List.map eC m) bm]) [] (.c (OkF.im eC_ok _ _) <| .c (OkF.im eC_ok _ _) <| .n) .n (qsameCE l bl m bm _) (qsameCG l bl m bm _); reqE h (fun h0 h => have H := H.t 1 [.bool (eqC l m)] |>.s [(vf 0), (vf 1)] (vt 0) (equal_ok l m bl bm h0); H.e [] h))

end Go.Proofs.Hz
open Go Go.Proofs
namespace Go.Proofs.Hz
theorem sameC_ok (l m : List Cl) (bl bm : Bool) (h : l.length ≤ 1000000) : Spec FF 20 [.im (l.map eC) bl, .im (m.map eC) bm] (.bool (eqC l m)) := qsameC_ok l bl m bm (by unfold qsameC; rw [if_pos h])
end Go.Proofs.Hz
