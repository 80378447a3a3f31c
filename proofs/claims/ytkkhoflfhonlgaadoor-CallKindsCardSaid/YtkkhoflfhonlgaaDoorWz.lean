/-
  Chapter 15: what syscalls mean, by the document.
  Conditions: none.
-/
import Derived.Test.YtkkhoflfhonlgaaDoorWy
open Go Go.Proofs
namespace Go.Proofs.Hz
def qdecR (c : Cl) (t : Int) (id : Int) : Option AV :=
  if (!(mayF c)) = true then
    some (.tup [(.int .i64 0), (.agg [(.int .i64 0), (.int .i64 0), (.int .i64 0)]), (.int .i64 1)])
  else
    if c.no = 0 then
      some (.tup [(.int .i64 28), (.agg [(.int .i64 c.a), (.int .i64 c.b), (.int .i64 id)]), (.int .i64 0)])
    else
      if c.no = 1 then
        some (.tup [(.int .i64 29), (.agg [(.int .i64 c.a), (.int .i64 t), (.int .i64 0)]), (.int .i64 0)])
      else
        if c.no = 2 then
          some (.tup [(.int .i64 10), (.agg [(.int .i64 c.a), (.int .i64 0), (.int .i64 0)]), (.int .i64 0)])
        else
          if c.no = 3 then
            some (.tup [(.int .i64 16), (.agg [(.int .i64 c.a), (.int .i64 c.b), (.int .i64 0)]), (.int .i64 0)])
          else
            if c.no = 9 then
              some (.tup [(.int .i64 27), (.agg [(.int .i64 t), (.int .i64 id), (.int .i64 0)]), (.int .i64 0)])
            else
              some (.tup [(.int .i64 (w64 (13 + c.no))), (.agg [(.int .i64 c.a), (.int .i64 0), (.int .i64 0)]), (.int .i64 0)])
def qdecRW : List AV := [(.agg [(vt 0), (vt 1), (vt 2)]), (vt 3), (vt 4)]
def qdecRV (c : Cl) (t : Int) (id : Int) (σ : Nat → Nat) : Val := (valL ([.int .i64 c.no, .int .i64 c.a, .int .i64 c.b, .int .i64 t, .int .i64 id]) ([]) [] σ 0)
def qdecRX (c : Cl) (t : Int) (id : Int) (_σ : Nat → Nat) : List AV := [(.agg [(.int .i64 c.no), (.int .i64 c.a), (.int .i64 c.b)]), (.int .i64 t), (.int .i64 id)]
def qdecRY (_c : Cl) (_t : Int) (_id : Int) (_σ : Nat → Nat) : List Blk := []
theorem qdecRE (c : Cl) (t : Int) (id : Int) (σ : Nat → Nat) : qdecRW.map (gm (qdecRV c t id σ)) = qdecRX c t id σ := by kernel_rfl
theorem qdecRG (c : Cl) (t : Int) (id : Int) (σ : Nat → Nat) : ([] : List Blk).map (gB (qdecRV c t id σ)) = qdecRY c t id σ := by kernel_rfl
theorem qdecR_ok (c : Cl) (t : Int) (id : Int) {r0 : AV} (h : qdecR c t id = some r0) : Spec FF 13 [(.agg [(.int .i64 c.no), (.int .i64 c.a), (.int .i64 c.b)]), (.int .i64 t), (.int .i64 id)] r0 := by
  unfold qdecR at h
  have hσ : ∀ i j : Nat, (fun i : Nat => i) i = (fun i : Nat => i) j → i = j := fun _ _ e => e
  exact spec_begin (ρ := qdecRV c t id (fun i => i)) (xs := qdecRW) (by kernel_rfl) rfl rfl (by kernel_rfl) (fun z0 S => have H := Tok.start hσ S 0 5 0 0 ([.int .i64 c.no, .int .i64 c.a, .int .i64 c.b, .int .i64 t, .int .i64 id]) ([]) [] (.n) .n (qdecRE c t id _) (qdecRG c t id _); have H := H.t 7 [.bool (mayF c), .bool (!(mayF c))] |>.r [(.un .not (cT 5), (vt 6))] |>.s [(.agg [(vt 0), (vt 1), (vt 2)])] (vt 5) (mayF_ok c); iteE h (fun h0 h => have H := H.m 6 true h0; H.e [] h) (fun h0 h => have H := H.t 8 [.bool (decide (c.no = 0))] |>.r [(.bin .eql (cT 0) (cI 0), (vt 7))] |>.m 6 false (bF h0); iteE h (fun h1 h => have H := H.m 7 true (decide_eq_true h1); H.e [] h) (fun h1 h => have H := H.t 9 [.bool (decide (c.no = 1))] |>.r [(.bin .eql (cT 0) (cI 1), (vt 8))] |>.m 7 false (decide_eq_false h1); iteE h (fun h2 h => have H := H.m 8 true (decide_eq_true h2); H.e [] h) (fun h2 h => have H := H.t 10 [.bool (decide (c.no = 2))] |>.r [(.bin .eql (cT 0) (cI 2), (vt 9))] |>.m 8 false (decide_eq_false h2); iteE h (fun h3 h => have H := H.m 9 true (decide_eq_true h3); H.e [] h) (fun h3 h => have H := H.t 11 [.bool (decide (c.no = 3))] |>.r [(.bin .eql (cT 0) (cI 3), (vt 10))] |>.m 9 false (decide_eq_false h3); iteE h (fun h4 h => have H := H.m 10 true (decide_eq_true h4); H.e [] h) (fun h4 h => have H := H.t 12 [.bool (decide (c.no = 9))] |>.r [(.bin .eql (cT 0) (cI 9), (vt 11))] |>.m 10 false (decide_eq_false h4); iteE h (fun h5 h => have H := H.m 11 true (decide_eq_true h5); H.e [] h) (fun h5 h => have H := H.t 13 [.int .i64 (w64 (13 + c.no))] |>.r [(.bin .add (cI 13) (cT 0), (vt 12))] |>.m 11 false (decide_eq_false h5); H.e [] h)))))))

def qdecodes (c : Cl) (t : Int) (id : Int) (op : Int) (g0 : Int) (g1 : Int) (g2 : Int) : Option AV :=
  if (decE c) = 0 then
    if (decOp c) = op then
      some (.bool (((decR c t id 0) : Int) == g0 && (((decR c t id 1) : Int) == g1 && (((decR c t id 2) : Int) == g2 && true))))
    else
      some (.bool false)
  else
    some (.bool false)
def qdecodesW : List AV := [(.agg [(vt 0), (vt 1), (vt 2)]), (vt 3), (vt 4), (vt 5), (.agg [(vt 6), (vt 7), (vt 8)])]
def qdecodesV (c : Cl) (t : Int) (id : Int) (op : Int) (g0 : Int) (g1 : Int) (g2 : Int) (σ : Nat → Nat) : Val := (valL ([.int .i64 c.no, .int .i64 c.a, .int .i64 c.b, .int .i64 t, .int .i64 id, .int .i64 op, .int .i64 g0, .int .i64 g1, .int .i64 g2]) ([]) [] σ 0)
def qdecodesX (c : Cl) (t : Int) (id : Int) (op : Int) (g0 : Int) (g1 : Int) (g2 : Int) (_σ : Nat → Nat) : List AV := [(.agg [(.int .i64 c.no), (.int .i64 c.a), (.int .i64 c.b)]), (.int .i64 t), (.int .i64 id), (.int .i64 op), (.agg [(.int .i64 g0), (.int .i64 g1), (.int .i64 g2)])]
def qdecodesY (_c : Cl) (_t : Int) (_id : Int) (_op : Int) (_g0 : Int) (_g1 : Int) (_g2 : Int) (_σ : Nat → Nat) : List Blk := []
theorem qdecodesE (c : Cl) (t : Int) (id : Int) (op : Int) (g0 : Int) (g1 : Int) (g2 : Int) (σ : Nat → Nat) : qdecodesW.map (gm (qdecodesV c t id op g0 g1 g2 σ)) = qdecodesX c t id op g0 g1 g2 σ := by kernel_rfl
theorem qdecodesG (c : Cl) (t : Int) (id : Int) (op : Int) (g0 : Int) (g1 : Int) (g2 : Int) (σ : Nat → Nat) : ([] : List Blk).map (gB (qdecodesV c t id op g0 g1 g2 σ)) = qdecodesY c t id op g0 g1 g2 σ := by kernel_rfl
theorem qdecodes_ok (c : Cl) (t : Int) (id : Int) (op : Int) (g0 : Int) (g1 : Int) (g2 : Int) {r0 : AV} (h : qdecodes c t id op g0 g1 g2 = some r0) : Spec FF 24 [(.agg [(.int .i64 c.no), (.int .i64 c.a), (.int .i64 c.b)]), (.int .i64 t), (.int .i64 id), (.int .i64 op), (.agg [(.int .i64 g0), (.int .i64 g1), (.int .i64 g2)])] r0 := by
  unfold qdecodes at h
  have hσ : ∀ i j : Nat, (fun i : Nat => i) i = (fun i : Nat => i) j → i = j := fun _ _ e => e
  exact spec_begin (ρ := qdecodesV c t id op g0 g1 g2 (fun i => i)) (xs := qdecodesW) (by kernel_rfl) rfl rfl (by kernel_rfl) (fun z0 S => have H := Tok.start hσ S 0 9 0 0 ([.int .i64 c.no, .int .i64 c.a, .int .i64 c.b, .int .i64 t, .int .i64 id, .int .i64 op, .int .i64 g0, .int .i64 g1, .int .i64 g2]) ([]) [] (.n) .n (qdecodesE c t id op g0 g1 g2 _) (qdecodesG c t id op g0 g1 g2 _); have H := H.t 15 [.int .i64 (decOp c), .int .i64 (decR c t id 0), .int .i64 (decR c t id 1), .int .i64 (decR c t id 2), .int .i64 (decE c), .bool (decide ((decE c) = 0))] |>.r [(.bin .eql (cT 13) (cI 0), (vt 14))] |>.s [(.agg [(vt 0), (vt 1), (vt 2)]), (vt 3), (vt 4)] (.tup [(vt 9), (.agg [(vt 10), (vt 11), (vt 12)]), (vt 13)]) (decC_ok c t id); iteE h (fun h0 h => have H := H.t 16 [.bool (decide ((decOp c) = op))] |>.r [(.bin .eql (cT 9) (cT 5), (vt 15))] |>.m 14 true (decide_eq_true h0); iteE h (fun h1 h => have H := H.t 17 [.bool (((decR c t id 0) : Int) == g0 && (((decR c t id 1) : Int) == g1 && (((decR c t id 2) : Int) == g2 && true)))] |>.r [(.eqa false [0, 0, 0] (.c (.agg [(vt 10), (vt 11), (vt 12)])) (.c (.agg [(vt 6), (vt 7), (vt 8)])), (vt 16))] |>.m 15 true (decide_eq_true h1); H.e [] h) (fun h1 h => have H := H.m 15 false (decide_eq_false h1); H.e [] h)) (fun h0 h => have H := H.m 14 false (decide_eq_false h0); H.e [] h))

end Go.Proofs.Hz
open Go Go.Proofs
namespace Go.Proofs.Hz
theorem qdecR_eq (c : Cl) (t id : Int) : qdecR c t id = some (.tup [.int .i64 (decOp c), .agg [.int .i64 (decR c t id 0), .int .i64 (decR c t id 1), .int .i64 (decR c t id 2)], .int .i64 (decE c)]) := by
  have hr : ∀ i, decR c t id i = if mayF c then (if c.no = 0 then [c.a, c.b, id].getD i 0 else if c.no = 1 then [c.a, t, 0].getD i 0 else if c.no = 9 then [t, id, 0].getD i 0 else if c.no = 3 then [c.a, c.b, 0].getD i 0 else [c.a, 0, 0].getD i 0) else 0 := fun i => rfl
  unfold qdecR decOp decE
  simp only [hr]
  by_cases hm : mayF c = true
  · rw [if_neg (by simp [hm])]
    have hb := (may_iff c).1 hm
    simp only [hm, if_true]
    have hn : 0 ≤ c.no ∧ c.no ≤ 9 := by omega
    rcases kd_cases c.no with h | h | h | h | h | h | h | h | h | h | h
    case inr.inr.inr.inr.inr.inr.inr.inr.inr.inr => omega
    all_goals (simp [h, kdOf]; try decide)
  · rw [if_pos (by simp [hm])]
    simp [hm]
theorem qdecodes_eq (c : Cl) (t id op r0 r1 r2 : Int) : qdecodes c t id op r0 r1 r2 = some (.bool (decodesF c t id op r0 r1 r2)) := by
  unfold qdecodes decodesF
  by_cases h1 : decE c = 0
  · rw [if_pos h1]
    by_cases h2 : decOp c = op
    · rw [if_pos h2]
      congr 2
      rw [Bool.eq_iff_iff]
      simp [h1, h2]
    · rw [if_neg h2]; simp [h2]
  · rw [if_neg h1]; simp [h1]
theorem decR_ok (c : Cl) (t id : Int) : Spec FF 13 [c.av, .int .i64 t, .int .i64 id] (.tup [.int .i64 (decOp c), .agg [.int .i64 (decR c t id 0), .int .i64 (decR c t id 1), .int .i64 (decR c t id 2)], .int .i64 (decE c)]) := qdecR_ok c t id (qdecR_eq c t id)
theorem decodes_ok (c : Cl) (t id op r0 r1 r2 : Int) : Spec FF 24 [c.av, .int .i64 t, .int .i64 id, .int .i64 op, .agg [.int .i64 r0, .int .i64 r1, .int .i64 r2]] (.bool (decodesF c t id op r0 r1 r2)) := qdecodes_ok c t id op r0 r1 r2 (qdecodes_eq c t id op r0 r1 r2)
end Go.Proofs.Hz
