/-
  Chapter 14: a thread waits at one port at most; those that wait at any are those whose word says so.
  Conditions: none.
-/
import Derived.Test.YtoonekkcjcjgmaaGreatWd
import Derived.Test.YtoonekkcjcjgmaaGreatSf
open Go Go.Proofs
namespace Go.Proofs.Hz
theorem may_ok (s : SyS) : Spec FF 15 [s.av, .int .i64 60] (.bool (mayF s)) := qmay_ok s (by
  unfold qmay mayF
  by_cases h : small3F s = true
  · rw [if_pos h, if_pos h, h, Bool.true_and]
  · have h' : small3F s = false := by simpa using h
    rw [if_neg h, h']; rfl)
theorem waitsG_len (w : List Int) (p : Int) : ∀ (k t : Nat), (waitsG w p k t).length ≤ k
  | 0, _ => Nat.le_refl _
  | k + 1, t => by
    have := waitsG_len w p k (t + 1)
    unfold waitsG
    split
    · simp only [List.length_cons]; omega
    · omega
theorem port_w {p : Int} (h : isPortF p = true) : w64 (8 + p) = 8 + p := by
  simp only [isPortF, decide_eq_true_eq] at h
  exact w64i (by omega)
theorem qwaits_0v1_eq (s : SyS) (p : Int) (hp : isPortF p = true) (hw : 128 ≤ s.w.length) : ∀ (k i : Nat) (out : List Int), i + k = 16 → out.length ≤ i → qwaits_0v1 (k + 1) s p out i = some (.im ((out ++ waitsG s.w p k i).map eI) false) := by
  intro k
  induction k with
  | zero =>
    intro i out hi ho
    rw [qwaits_0v1, if_neg (by omega)]
    simp [waitsG]
  | succ k ih =>
    intro i out hi ho
    rw [qwaits_0v1, if_pos (by omega), if_pos hp, if_pos hw, port_w hp, w64_nat (by omega)]
    by_cases h : stC s.w i = 8 + p
    · rw [if_pos h, if_pos (by simp only [roomB, List.length_singleton]; omega), ih (i + 1) _ (by omega) (by rw [List.length_append, List.length_singleton]; omega), waitsG, if_pos h]
      simp
    · rw [if_neg h, ih (i + 1) _ (by omega) (by omega), waitsG, if_neg h]
theorem qwaits_0_eq (s : SyS) (p : Int) (hp : isPortF p = true) (hw : 128 ≤ s.w.length) : ∀ (k i : Nat), i + k = 16 → qwaits_0 (k + 1) s p i = some (.im ((waitsG s.w p k i).map eI) (waitsG s.w p k i).isEmpty) := by
  intro k
  induction k with
  | zero =>
    intro i hi
    rw [qwaits_0, if_neg (by omega)]
    rfl
  | succ k ih =>
    intro i hi
    rw [qwaits_0, if_pos (by omega), if_pos hp, if_pos hw, port_w hp, w64_nat (by omega)]
    by_cases h : stC s.w i = 8 + p
    · rw [if_pos h, waitsG, if_pos h]
      cases k with
      | zero =>
        have h16 : i + 1 = 16 := by omega
        rw [qwaits_0v1]
        · rw [if_neg (by omega)]
          rfl
      | succ k =>
        rw [qwaits_0v1_eq s p hp hw (k + 1) (i + 1) [(i : Int)] (by omega) (by simp)]
        rfl
    · rw [if_neg h, waitsG, if_neg h]
      exact ih (i + 1) (by omega)
theorem waits_ok (s : SyS) (p : Int) (h : 128 ≤ s.w.length) {y : List Int} (hy : y = waitsF s.w p) : Spec FF 39 [s.av, .int .i64 p] (.im (y.map eI) y.isEmpty) := by
  subst hy
  refine qwaits_ok (fu := 17) s p ?_
  unfold qwaits waitsF
  by_cases hp : isPortF p = true
  · rw [if_pos hp]
    exact qwaits_0_eq s p hp h 16 0 rfl
  · rw [if_neg hp, qwaits_0, if_pos (by omega), if_neg hp]
    rfl
end Go.Proofs.Hz
open Go Go.Proofs
namespace Go.Proofs.Hz
mutual
def qCounts_0 : Nat → SyS → Int → Option AV
  | 0, _, _ => none
  | fu + 1, s, p0 =>
    if p0 < 16 then
      qCounts_2 fu s p0 0 (-1)
    else
      if 128 ≤ List.length s.w then letB (waitsF s.w 8) fun x2 =>
      some (.bool (decide ((List.length x2 : Int) = 0))) else none
def qCounts_2 : Nat → SyS → Int → Int → Int → Option AV
  | 0, _, _, _, _ => none
  | fu + 1, s, p0, p1_0, p1_1 =>
    if p1_1 < 9 then
      if 128 ≤ List.length s.w then letB (waitsF s.w p1_1) fun x2 =>
      if List.length x2 ≤ 1000000 then if (inF x2 p0) = true then
        qCounts_2 fu s p0 (w64 (p1_0 + 1)) (w64 (p1_1 + 1))
      else
        qCounts_2 fu s p0 p1_0 (w64 (p1_1 + 1)) else none else none
    else
      if 128 ≤ List.length s.w then if p1_0 > 1 then
        none
      else
        if (stR s.w p0) ≥ 8 then
          if (!((decide (p1_0 = 1)) == (decide ((stR s.w p0) < 16)))) = true then
            none
          else
            qCounts_0 fu s (w64 (p0 + 1))
        else
          if (!((decide (p1_0 = 1)) == false)) = true then
            none
          else
            qCounts_0 fu s (w64 (p0 + 1)) else none
end
def qCounts_0W : List AV := [(.ptr 0 0), (.bool true), (vt 0)]
def qCounts_0C : List Blk := [.cells [(vf 0), (vf 1), (vt 1), (vf 2), (vf 3)] false 28]
def qCounts_0V (s : SyS) (p0 : Int) (σ : Nat → Nat) : Val := (valL ([.int .i64 p0, .bool s.bad]) ([.im (List.map eI s.w) s.bw, .im (List.map eI s.g) s.bg, .im (List.map eCo s.c) s.bc, .im (List.map eEv s.l) s.bl]) [] σ 1)
def qCounts_0X (_s : SyS) (p0 : Int) (σ : Nat → Nat) : List AV := [(.ptr (σ 0) 0), (.bool true), (.int .i64 p0)]
def qCounts_0Y (s : SyS) (_p0 : Int) (_σ : Nat → Nat) : List Blk := [.cells [(.im (List.map eI s.w) s.bw), (.im (List.map eI s.g) s.bg), (.bool s.bad), (.im (List.map eCo s.c) s.bc), (.im (List.map eEv s.l) s.bl)] false 28]
theorem qCounts_0E (s : SyS) (p0 : Int) (σ : Nat → Nat) : qCounts_0W.map (gm (qCounts_0V s p0 σ)) = qCounts_0X s p0 σ := by kernel_rfl
theorem qCounts_0G (s : SyS) (p0 : Int) (σ : Nat → Nat) : qCounts_0C.map (gB (qCounts_0V s p0 σ)) = qCounts_0Y s p0 σ := by kernel_rfl
def qCounts_2W : List AV := [(.ptr 0 0), (.bool true), (vt 0), (vt 1), (vt 2)]
def qCounts_2C : List Blk := [.cells [(vf 0), (vf 1), (vt 3), (vf 2), (vf 3)] false 28]
def qCounts_2V (s : SyS) (p0 : Int) (p1_0 : Int) (p1_1 : Int) (σ : Nat → Nat) : Val := (valL ([.int .i64 p0, .int .i64 p1_0, .int .i64 p1_1, .bool s.bad]) ([.im (List.map eI s.w) s.bw, .im (List.map eI s.g) s.bg, .im (List.map eCo s.c) s.bc, .im (List.map eEv s.l) s.bl]) [] σ 1)
def qCounts_2X (_s : SyS) (p0 : Int) (p1_0 : Int) (p1_1 : Int) (σ : Nat → Nat) : List AV := [(.ptr (σ 0) 0), (.bool true), (.int .i64 p0), (.int .i64 p1_0), (.int .i64 p1_1)]
def qCounts_2Y (s : SyS) (_p0 : Int) (_p1_0 : Int) (_p1_1 : Int) (_σ : Nat → Nat) : List Blk := [.cells [(.im (List.map eI s.w) s.bw), (.im (List.map eI s.g) s.bg), (.bool s.bad), (.im (List.map eCo s.c) s.bc), (.im (List.map eEv s.l) s.bl)] false 28]
theorem qCounts_2E (s : SyS) (p0 : Int) (p1_0 : Int) (p1_1 : Int) (σ : Nat → Nat) : qCounts_2W.map (gm (qCounts_2V s p0 p1_0 p1_1 σ)) = qCounts_2X s p0 p1_0 p1_1 σ := by kernel_rfl
theorem qCounts_2G (s : SyS) (p0 : Int) (p1_0 : Int) (p1_1 : Int) (σ : Nat → Nat) : qCounts_2C.map (gB (qCounts_2V s p0 p1_0 p1_1 σ)) = qCounts_2Y s p0 p1_0 p1_1 σ := by kernel_rfl
set_option maxHeartbeats 10000000 in
theorem qCounts_all : ∀ (fu : Nat), (∀ (s : SyS) (p0 : Int) {r0 : AV} {z0 : St} {σ : Nat → Nat}, (∀ i j, σ i = σ j → i = j) → qCounts_0 fu s p0 = some r0 → Sim (qCounts_0V s p0 σ) (tmpl [1, 3, 4] qCounts_0W qCounts_0C) z0 → J FF (fnOf FF 13) (cutK (fnOf FF 13) 0) (.code (.loop (cutB (fnOf FF 13) 0))) z0 r0) ∧ (∀ (s : SyS) (p0 : Int) (p1_0 : Int) (p1_1 : Int) {r0 : AV} {z0 : St} {σ : Nat → Nat}, (∀ i j, σ i = σ j → i = j) → qCounts_2 fu s p0 p1_0 p1_1 = some r0 → Sim (qCounts_2V s p0 p1_0 p1_1 σ) (tmpl [1, 3, 4, 5, 6] qCounts_2W qCounts_2C) z0 → J FF (fnOf FF 13) (cutK (fnOf FF 13) 2) (.code (.loop (cutB (fnOf FF 13) 2))) z0 r0) := by
  intro fu
  induction fu with
  | zero =>
    refine ⟨?_, ?_⟩
    · intro _ _ _ _ _ _ h _
      unfold qCounts_0 at h
      cases h
    · intro _ _ _ _ _ _ _ _ h _
      unfold qCounts_2 at h
      cases h
  | succ fu ih =>
    obtain ⟨ih0, ih1⟩ := ih
    refine ⟨?_, ?_⟩
    · intro s p0 r0 z0 σ hσ h S
      unfold qCounts_0 at h
      exact J_enter (have H := Tok.start hσ S 1 2 4 0 ([.int .i64 p0, .bool s.bad]) ([.im (List.map eI s.w) s.bw, .im (List.map eI s.g) s.bg, .im (List.map eCo s.c) s.bc, .im (List.map eEv s.l) s.bl]) [] (.c (OkF.im eI_ok _ _) <| .c (OkF.im eI_ok _ _) <| .c (OkF.im eCo_ok _ _) <| .c (OkF.im eEv_ok _ _) <| .n) (.n) (qCounts_0E s p0 _) (qCounts_0G s p0 _); have H := H.t 3 [.bool (decide (p0 < 16))] |>.r [(.bin .lss (cT 0) (cI 16), (vt 2))]; iteE h (fun h0 h => have H := H.m 2 true (decide_eq_true h0); H.k [0, 2] [1, 3, 4, 5, 6] [0] [(.ptr 0 0), (.bool true), (vt 0), (.int .i64 0), (.int .i64 (-1))] [.cells [(vf 0), (vf 1), (vt 1), (vf 2), (vf 3)] false 28] 1 (qCounts_2V s p0 0 (-1) _) (qCounts_2E s p0 0 (-1) _) (qCounts_2G s p0 0 (-1) _) (fun _ hi S => ih1 _ _ _ _ hi h S)) (fun h0 h => have H := H.m 2 false (decide_eq_false h0); reqE h (fun h1 h => letE h (fun x2 h2 h => have H := H.t 5 [.int .i64 (List.length x2 : Int), .bool (decide ((List.length x2 : Int) = 0))] |>.f 5 [.im (List.map eI x2) (List.isEmpty x2)] (.c (OkF.im eI_ok _ _) <| .n) |>.r [(.bin .eql (cT 3) (cI 0), (vt 4))] |>.s [(.agg [(vf 0), (vf 1), (vt 1), (vf 2), (vf 3)]), (.int .i64 8)] (vf 4) (waits_ok s 8 h1 h2) |>.c (p := (.len 0 (cF 4), (vt 3))) (fun _ _ _ => fLen (e := eI) (l := x2) (b := (List.isEmpty x2)) (by kernel_rfl) (by kernel_rfl)); H.e [0, 2] h))))
    · intro s p0 p1_0 p1_1 r0 z0 σ hσ h S
      unfold qCounts_2 at h
      exact J_enter (have H := Tok.start hσ S 1 4 4 0 ([.int .i64 p0, .int .i64 p1_0, .int .i64 p1_1, .bool s.bad]) ([.im (List.map eI s.w) s.bw, .im (List.map eI s.g) s.bg, .im (List.map eCo s.c) s.bc, .im (List.map eEv s.l) s.bl]) [] (.c (OkF.im eI_ok _ _) <| .c (OkF.im eI_ok _ _) <| .c (OkF.im eCo_ok _ _) <| .c (OkF.im eEv_ok _ _) <| .n) (.n) (qCounts_2E s p0 p1_0 p1_1 _) (qCounts_2G s p0 p1_0 p1_1 _); have H := H.t 5 [.bool (decide (p1_1 < 9))] |>.r [(.bin .lss (cT 2) (cI 9), (vt 4))]; iteE h (fun h0 h => have H := H.m 4 true (decide_eq_true h0); reqE h (fun h1 h => letE h (fun x2 h2 h => have H := H.f 5 [.im (List.map eI x2) (List.isEmpty x2)] (.c (OkF.im eI_ok _ _) <| .n) |>.s [(.agg [(vf 0), (vf 1), (vt 3), (vf 2), (vf 3)]), (vt 2)] (vf 4) (waits_ok s p1_1 h1 h2); reqE h (fun h3 h => have H := H.t 6 [.bool (inF x2 p0)] |>.s [(vf 4), (vt 0)] (vt 5) (in_ok x2 (List.isEmpty x2) p0 h3); iteE h (fun h4 h => have H := H.t 8 [.int .i64 (w64 (p1_0 + 1)), .int .i64 (w64 (p1_1 + 1))] |>.r [(.bin .add (cT 1) (cI 1), (vt 6)), (.bin .add (cT 2) (cI 1), (vt 7))] |>.m 5 true h4; H.k [0, 2] [1, 3, 4, 5, 6] [0] [(.ptr 0 0), (.bool true), (vt 0), (vt 6), (vt 7)] [.cells [(vf 0), (vf 1), (vt 3), (vf 2), (vf 3)] false 28] 1 (qCounts_2V s p0 (w64 (p1_0 + 1)) (w64 (p1_1 + 1)) _) (qCounts_2E s p0 (w64 (p1_0 + 1)) (w64 (p1_1 + 1)) _) (qCounts_2G s p0 (w64 (p1_0 + 1)) (w64 (p1_1 + 1)) _) (fun _ hi S => ih1 _ _ _ _ hi h S)) (fun h4 h => have H := H.t 7 [.int .i64 (w64 (p1_1 + 1))] |>.r [(.bin .add (cT 2) (cI 1), (vt 6))] |>.m 5 false (bF h4); H.k [0, 2] [1, 3, 4, 5, 6] [0] [(.ptr 0 0), (.bool true), (vt 0), (vt 1), (vt 6)] [.cells [(vf 0), (vf 1), (vt 3), (vf 2), (vf 3)] false 28] 1 (qCounts_2V s p0 p1_0 (w64 (p1_1 + 1)) _) (qCounts_2E s p0 p1_0 (w64 (p1_1 + 1)) _) (qCounts_2G s p0 p1_0 (w64 (p1_1 + 1)) _) (fun _ hi S => ih1 _ _ _ _ hi h S)))))) (fun h0 h => have H := H.m 4 false (decide_eq_false h0); reqE h (fun h1 h => have H := H.t 7 [.int .i64 (stR s.w p0), .bool (decide (p1_0 > 1))] |>.r [(.bin .gtr (cT 1) (cI 1), (vt 6))] |>.s [(.agg [(vf 0), (vf 1), (vt 3), (vf 2), (vf 3)]), (vt 0)] (vt 5) (stR_ok s p0 h1); iteE h (fun _ h => nomatch h) (fun h2 h => have H := H.t 9 [.bool (decide (p1_0 = 1)), .bool (decide ((stR s.w p0) ≥ 8))] |>.r [(.bin .eql (cT 1) (cI 1), (vt 7)), (.bin .geq (cT 5) (cI 8), (vt 8))] |>.m 6 false (decide_eq_false h2); iteE h (fun h3 h => have H := H.t 11 [.bool (decide ((stR s.w p0) < 16)), .bool (!((decide (p1_0 = 1)) == (decide ((stR s.w p0) < 16))))] |>.r [(.bin .lss (cT 5) (cI 16), (vt 9)), (.eqb true (cT 7) (cT 9), (vt 10))] |>.m 8 true (decide_eq_true h3); iteE h (fun _ h => nomatch h) (fun h4 h => have H := H.t 12 [.int .i64 (w64 (p0 + 1))] |>.r [(.bin .add (cT 0) (cI 1), (vt 11))] |>.m 10 false (bF h4); H.k [0, 2] [1, 3, 4] [0] [(.ptr 0 0), (.bool true), (vt 11)] [.cells [(vf 0), (vf 1), (vt 3), (vf 2), (vf 3)] false 28] 1 (qCounts_0V s (w64 (p0 + 1)) _) (qCounts_0E s (w64 (p0 + 1)) _) (qCounts_0G s (w64 (p0 + 1)) _) (fun _ hi S => ih0 _ _ hi h S))) (fun h3 h => have H := H.t 10 [.bool (!((decide (p1_0 = 1)) == false))] |>.r [(.eqb true (cT 7) (.c (.bool false)), (vt 9))] |>.m 8 false (decide_eq_false h3); iteE h (fun _ h => nomatch h) (fun h4 h => have H := H.t 11 [.int .i64 (w64 (p0 + 1))] |>.r [(.bin .add (cT 0) (cI 1), (vt 10))] |>.m 9 false (bF h4); H.k [0, 2] [1, 3, 4] [0] [(.ptr 0 0), (.bool true), (vt 10)] [.cells [(vf 0), (vf 1), (vt 3), (vf 2), (vf 3)] false 28] 1 (qCounts_0V s (w64 (p0 + 1)) _) (qCounts_0E s (w64 (p0 + 1)) _) (qCounts_0G s (w64 (p0 + 1)) _) (fun _ hi S => ih0 _ _ hi h S)))))))
theorem qCounts_0_ok : ∀ (fu : Nat), ∀ (s : SyS) (p0 : Int) {r0 : AV} {z0 : St} {σ : Nat → Nat}, (∀ i j, σ i = σ j → i = j) → qCounts_0 fu s p0 = some r0 → Sim (qCounts_0V s p0 σ) (tmpl [1, 3, 4] qCounts_0W qCounts_0C) z0 → J FF (fnOf FF 13) (cutK (fnOf FF 13) 0) (.code (.loop (cutB (fnOf FF 13) 0))) z0 r0 := fun fu => (qCounts_all fu).1
theorem qCounts_2_ok : ∀ (fu : Nat), ∀ (s : SyS) (p0 : Int) (p1_0 : Int) (p1_1 : Int) {r0 : AV} {z0 : St} {σ : Nat → Nat}, (∀ i j, σ i = σ j → i = j) → qCounts_2 fu s p0 p1_0 p1_1 = some r0 → Sim (qCounts_2V s p0 p1_0 p1_1 σ) (tmpl [1, 3, 4, 5, 6] qCounts_2W qCounts_2C) z0 → J FF (fnOf FF 13) (cutK (fnOf FF 13) 2) (.code (.loop (cutB (fnOf FF 13) 2))) z0 r0 := fun fu => (qCounts_all fu).2
def qCounts (fu : Nat) (s : SyS) : Option AV :=
  if (!(mayF s)) = true then
    some (.bool true)
  else
    qCounts_0 fu s 0
def qCountsW : List AV := [(.agg [(vf 0), (vf 1), (vt 0), (vf 2), (vf 3)])]
def qCountsV (s : SyS) (σ : Nat → Nat) : Val := (valL ([.bool s.bad]) ([.im (List.map eI s.w) s.bw, .im (List.map eI s.g) s.bg, .im (List.map eCo s.c) s.bc, .im (List.map eEv s.l) s.bl]) [] σ 0)
def qCountsX (s : SyS) (_σ : Nat → Nat) : List AV := [(.agg [(.im (List.map eI s.w) s.bw), (.im (List.map eI s.g) s.bg), (.bool s.bad), (.im (List.map eCo s.c) s.bc), (.im (List.map eEv s.l) s.bl)])]
def qCountsY (_s : SyS) (_σ : Nat → Nat) : List Blk := []
theorem qCountsE (s : SyS) (σ : Nat → Nat) : qCountsW.map (gm (qCountsV s σ)) = qCountsX s σ := by kernel_rfl
theorem qCountsG (s : SyS) (σ : Nat → Nat) : ([] : List Blk).map (gB (qCountsV s σ)) = qCountsY s σ := by kernel_rfl
theorem qCounts_ok {fu : Nat} (s : SyS) {r0 : AV} (h : qCounts fu s = some r0) : Spec FF 13 [(.agg [(.im (List.map eI s.w) s.bw), (.im (List.map eI s.g) s.bg), (.bool s.bad), (.im (List.map eCo s.c) s.bc), (.im (List.map eEv s.l) s.bl)])] r0 := by
  unfold qCounts at h
  have hσ : ∀ i j : Nat, (fun i : Nat => i) i = (fun i : Nat => i) j → i = j := fun _ _ e => e
  exact spec_begin (ρ := qCountsV s (fun i => i)) (xs := qCountsW) (by kernel_rfl) rfl rfl (by kernel_rfl) (fun z0 S => have H := Tok.start hσ S 0 1 4 0 ([.bool s.bad]) ([.im (List.map eI s.w) s.bw, .im (List.map eI s.g) s.bg, .im (List.map eCo s.c) s.bc, .im (List.map eEv s.l) s.bl]) [] (.c (OkF.im eI_ok _ _) <| .c (OkF.im eI_ok _ _) <| .c (OkF.im eCo_ok _ _) <| .c (OkF.im eEv_ok _ _) <| .n) .n (qCountsE s _) (qCountsG s _); have H := H.t 3 [.bool (mayF s), .bool (!(mayF s))] |>.r [(.un .not (cT 1), (vt 2))] |>.s [] (.bool true) shown_ok |>.s [(.agg [(vf 0), (vf 1), (vt 0), (vf 2), (vf 3)]), (.int .i64 60)] (vt 1) (may_ok s); iteE h (fun h0 h => have H := H.m 2 true h0; H.e [0, 2] h) (fun h0 h => have H := H.m 2 false (bF h0); H.k [0, 2] [1, 3, 4] [0] [(.ptr 0 0), (.bool true), (.int .i64 0)] [.cells [(vf 0), (vf 1), (vt 0), (vf 2), (vf 3)] false 28] 1 (qCounts_0V s 0 _) (qCounts_0E s 0 _) (qCounts_0G s 0 _) (fun _ hi S => qCounts_0_ok _ _ _ hi h S)))

end Go.Proofs.Hz
open Go Go.Proofs
namespace Go.Proofs.Hz
theorem mod_eq (w : Int) : modF w 2097152 = w % 2097152 := by
  have h1 := Int.tmod_eq_emod (a := w) (b := 2097152)
  have h2 := Int.emod_nonneg w (show (2097152 : Int) ≠ 0 by decide)
  have h3 := Int.emod_lt_of_pos w (show (0 : Int) < 2097152 by decide)
  have hn : ((2097152 : Int).natAbs : Int) = 2097152 := by decide
  unfold modF
  by_cases hc : 0 ≤ w ∨ (2097152 : Int) ∣ w
  · rw [if_pos hc, Int.natCast_zero] at h1
    split
    · omega
    · omega
  · rw [if_neg hc, hn] at h1
    split
    · rw [w64i (by omega)]
      omega
    · omega
theorem idxR_eq (w : Int) : idxR w = w / 2 % 1048576 := by
  unfold idxR
  rw [mod_eq]
  have h2 := Int.emod_nonneg w (show (2097152 : Int) ≠ 0 by decide)
  have h3 := Int.emod_lt_of_pos w (show (0 : Int) < 2097152 by decide)
  have e : Int.tdiv (w % 2097152) 2 = (w % 2097152) / 2 := Int.tdiv_eq_ediv_of_nonneg h2
  rw [e]
  have hw : IntKind.wrap .i64 ((w % 2097152) / 2) = (w % 2097152) / 2 := w64i (by omega)
  rw [hw]
  omega
theorem idxC_eq (w : Int) : idxC w = w / 2 % 1048576 := by
  unfold idxC
  have e1 : shT .shr .i64 w 1 = w / 2 := by
    have : shT .shr .i64 w 1 = w.fdiv 2 := by simp [shT, shBin, IntKind.bits]
    rw [this, Int.fdiv_eq_ediv_of_nonneg _ (by decide)]
  rw [e1]
  generalize w / 2 = x
  have e2 : bvT .and .i64 x 1048575 = IntKind.wrap .i64 ((BitVec.ofInt 64 x &&& BitVec.ofInt 64 1048575).toNat : Int) := rfl
  rw [e2, BitVec.toNat_and, BitVec.toNat_ofInt, BitVec.toNat_ofInt]
  have e3 : (1048575 % ((2 ^ 64 : Nat) : Int)).toNat = 2 ^ 20 - 1 := by decide
  rw [e3, Nat.and_two_pow_sub_one_eq_mod]
  have h : ((x % ((2 ^ 64 : Nat) : Int)).toNat % 2 ^ 20 : Nat) = (x % 1048576).toNat := by
    have h0 : (0 : Int) ≤ x % ((2 ^ 64 : Nat) : Int) := Int.emod_nonneg x (by decide)
    have : ((2 ^ 64 : Nat) : Int) = 18446744073709551616 := by decide
    rw [this] at h0 ⊢
    have : (2 : Nat) ^ 20 = 1048576 := by decide
    rw [this]
    omega
  rw [h]
  have hw : IntKind.wrap .i64 (((x % 1048576).toNat : Nat) : Int) = (((x % 1048576).toNat : Nat) : Int) := w64i (by omega)
  rw [hw]
  omega
theorem st_eq (w : List Int) (t : Int) : stC w t = stR w t := by
  unfold stC stR
  rw [idxC_eq, idxR_eq]
theorem mem_waitsG (w : List Int) (p : Int) (t : Nat) : ∀ (k i : Nat), (t : Int) ∈ waitsG w p k i ↔ (i ≤ t ∧ t < i + k) ∧ stC w t = 8 + p
  | 0, i => by
    simp only [waitsG, List.not_mem_nil, false_iff]
    omega
  | k + 1, i => by
    have ih := mem_waitsG w p t k (i + 1)
    unfold waitsG
    by_cases h : stC w i = 8 + p
    · rw [if_pos h, List.mem_cons, ih]
      constructor
      · rintro (h1 | h1)
        · have : t = i := by omega
          subst this; exact ⟨by omega, h⟩
        · exact ⟨by omega, h1.2⟩
      · rintro ⟨h1, h2⟩
        by_cases ht : t = i
        · left; omega
        · exact .inr ⟨by omega, h2⟩
    · rw [if_neg h, ih]
      constructor
      · rintro ⟨h1, h2⟩; exact ⟨by omega, h2⟩
      · rintro ⟨h1, h2⟩
        refine ⟨?_, h2⟩
        have : t ≠ i := fun e => by subst e; exact h h2
        omega
theorem in_waits (w : List Int) (p : Int) {t : Nat} (ht : t < 16) : inF (waitsF w p) t = decide ((0 ≤ p ∧ p < 8) ∧ stC w t = 8 + p) := by
  unfold inF waitsF isPortF
  by_cases hp : 0 ≤ p ∧ p < 8
  · rw [if_pos (by simp [hp]), Bool.eq_iff_iff, decide_eq_true_eq, decide_eq_true_eq, mem_waitsG]
    constructor
    · rintro ⟨_, h⟩; exact ⟨hp, h⟩
    · rintro ⟨_, h⟩; exact ⟨by omega, h⟩
  · rw [if_neg (by simp; omega), decide_eq_false (by simp), decide_eq_false (fun h => hp h.1)]
theorem waitsF_len (w : List Int) (p : Int) : (waitsF w p).length ≤ 16 := by
  unfold waitsF
  split
  · exact waitsG_len w p 16 0
  · simp
/-- How many ports up to one a thread waits at. -/
def cntN (w : List Int) (t : Nat) (p : Int) : Int := if 8 ≤ stC w t ∧ stC w t < 16 ∧ stC w t < 8 + p then 1 else 0
theorem may_len {s : SyS} (h : mayF s = true) : 128 ≤ s.w.length := by
  simp only [mayF, right3F, right2F, Bool.and_eq_true, decide_eq_true_eq] at h
  omega
theorem qCounts_run (s : SyS) (hw : 128 ≤ s.w.length) : ∀ (m : Nat),
    (∀ (fu t : Nat), 16 - t = m → 12 * m < fu → t ≤ 16 → qCounts_0 fu s t = some (.bool true)) ∧
    (∀ (k fu t : Nat) (p : Int), 16 - t = m + 1 → 12 * m + 1 + k < fu → t < 16 → p + k = 9 → -1 ≤ p → qCounts_2 fu s t (cntN s.w t p) p = some (.bool true)) := by
  have inner : ∀ (m : Nat), (∀ (fu t : Nat), 16 - t = m → 12 * m < fu → t ≤ 16 → qCounts_0 fu s t = some (.bool true)) →
      ∀ (k fu t : Nat) (p : Int), 16 - t = m + 1 → 12 * m + 1 + k < fu → t < 16 → p + k = 9 → -1 ≤ p → qCounts_2 fu s t (cntN s.w t p) p = some (.bool true) := by
    intro m p0 k
    induction k with
    | zero =>
      intro fu t p h1 h2 ht hp hp1
      cases fu with
      | zero => omega
      | succ fu =>
        have hnext := p0 fu (t + 1) (by omega) (by omega) (by omega)
        have hc : cntN s.w t p = if 8 ≤ stC s.w t ∧ stC s.w t < 16 then 1 else 0 := by
          unfold cntN
          by_cases h : 8 ≤ stC s.w t ∧ stC s.w t < 16
          · rw [if_pos h, if_pos ⟨h.1, h.2, by omega⟩]
          · rw [if_neg h, if_neg (by omega)]
        rw [qCounts_2, if_neg (by omega), if_pos hw, hc, ← st_eq, w64_nat (by omega)]
        by_cases h8 : 8 ≤ stC s.w t
        · by_cases h16 : stC s.w t < 16
          · rw [if_pos (show 8 ≤ stC s.w t ∧ stC s.w t < 16 from ⟨h8, h16⟩), if_neg (by omega), if_pos h8, if_neg (by simp [h16]), hnext]
          · rw [if_neg (show ¬ (8 ≤ stC s.w t ∧ stC s.w t < 16) by omega), if_neg (by omega), if_pos h8, if_neg (by simp [h16]), hnext]
        · rw [if_neg (show ¬ (8 ≤ stC s.w t ∧ stC s.w t < 16) by omega), if_neg (by omega), if_neg (by omega), if_neg (by simp), hnext]
    | succ k ih =>
      intro fu t p h1 h2 ht hp hp1
      cases fu with
      | zero => omega
      | succ fu =>
        have hl := waitsF_len s.w p
        have w1 : w64 (p + 1) = p + 1 := w64i (by omega)
        have hrec := ih fu t (p + 1) h1 (by omega) ht (by omega) (by omega)
        rw [qCounts_2, if_pos (by omega), if_pos hw]
        unfold letB
        simp only
        rw [if_pos (by omega), in_waits s.w p ht, w1]
        by_cases hin : (0 ≤ p ∧ p < 8) ∧ stC s.w t = 8 + p
        · rw [if_pos (by simp [hin])]
          have e : w64 (cntN s.w t p + 1) = cntN s.w t (p + 1) := by
            unfold cntN
            rw [if_neg (by omega), if_pos (by omega)]
            rfl
          rw [e]; exact hrec
        · rw [if_neg (by simpa using hin)]
          have e : cntN s.w t p = cntN s.w t (p + 1) := by
            unfold cntN
            by_cases hq : 8 ≤ stC s.w t ∧ stC s.w t < 16 ∧ stC s.w t < 8 + p
            · rw [if_pos hq, if_pos (by omega)]
            · rw [if_neg hq, if_neg (by omega)]
          rw [e]; exact hrec
  intro m
  induction m with
  | zero =>
    have p0 : ∀ (fu t : Nat), 16 - t = 0 → 12 * 0 < fu → t ≤ 16 → qCounts_0 fu s t = some (.bool true) := fun fu t h1 h2 h3 => by
      cases fu with
      | zero => omega
      | succ fu =>
        rw [qCounts_0, if_neg (by omega), if_pos hw]
        rfl
    exact ⟨p0, inner 0 p0⟩
  | succ m ih =>
    have p0 : ∀ (fu t : Nat), 16 - t = m + 1 → 12 * (m + 1) < fu → t ≤ 16 → qCounts_0 fu s t = some (.bool true) := fun fu t h1 h2 h3 => by
      cases fu with
      | zero => omega
      | succ fu =>
        rw [qCounts_0, if_pos (by omega)]
        have h := ih.2 10 fu t (-1) (by omega) (by omega) (by omega) (by omega) (by omega)
        have e : cntN s.w t (-1) = 0 := by
          unfold cntN
          rw [if_neg (by omega)]
        rw [e] at h
        exact h
    exact ⟨p0, inner (m + 1) p0⟩
theorem counts_ok (s : SyS) : Spec FF 13 [s.av] (.bool true) := qCounts_ok (fu := 200) s (by
  unfold qCounts
  by_cases h : mayF s = true
  · rw [if_neg (by simp [h])]
    exact (qCounts_run s (may_len h) 16).1 200 0 rfl (by omega) (by omega)
  · rw [if_pos (by simpa using h)])
end Go.Proofs.Hz
