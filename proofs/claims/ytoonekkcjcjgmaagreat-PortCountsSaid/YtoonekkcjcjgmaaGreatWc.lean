/-
  Chapter 14: walks through functions (part c), written by a program of our own (wip/tools).
  Conditions: none.
-/
import Derived.Test.YtoonekkcjcjgmaaGreatWb
open Go Go.Proofs
namespace Go.Proofs.Hz
theorem idxR_ok (w : Int) : Spec FF 65 [.int .i64 w] (.int .i64 (idxR w)) := qidxR_ok w rfl
theorem idxC_ok (w : Int) : Spec FF 64 [.int .i64 w] (.int .i64 (idxC w)) := qidxC_ok w rfl
/-- A row of which all ahead of a place is as it should be. -/
theorem all_step {α : Type} {l : List α} {p : α → Bool} {i : Nat} (h : i < l.length) (ht : (l.take i).all p = true) (hp : p l[i] = true) : (l.take (i + 1)).all p = true := by
  rw [List.take_succ_eq_append_getElem h, List.all_append, ht]
  simp [hp]
theorem all_bad {α : Type} {l : List α} {p : α → Bool} {i : Nat} (h : i < l.length) (hp : p l[i] = false) : l.all p = false := by
  cases hq : l.all p with
  | false => rfl
  | true => rw [List.all_eq_true.1 hq _ (List.getElem_mem h)] at hp; cases hp
theorem qcore_0_eq (c : CoS) (hl : c.f.length ≤ 45) : ∀ (k i : Nat), i + k = c.f.length → (c.f.take i).all frF = true → qcore_0 (k + 1) c i = some (.bool (c.f.all frF)) := by
  intro k
  induction k with
  | zero =>
    intro i hi ht
    rw [qcore_0, if_neg (by omega)]
    rw [List.take_of_length_le (by omega)] at ht
    rw [ht]
  | succ k ih =>
    intro i hi ht
    have h1 : i < c.f.length := by omega
    rw [qcore_0, if_pos (by omega), if_pos (by omega), Int.toNat_natCast, List.getElem?_eq_getElem h1, Option.bind_some]
    by_cases hf : frF c.f[i] = true
    · have h0 := hf
      simp only [frF, Bool.and_eq_true] at h0
      obtain ⟨a0, a1, a2, a3, a4, a5, a6, a7⟩ := h0
      rw [a0, a1, a2, a3, a4, a5, a6, a7]
      simp only [Bool.not_true, Bool.false_eq_true, if_false]
      rw [w64_nat (by omega)]
      exact ih (i + 1) (by omega) (all_step h1 ht hf)
    · have hb := all_bad (p := frF) h1 (by simpa using hf)
      rw [hb]
      (repeat' split) <;> first | rfl | (exfalso; apply hf; simp only [frF]; simp_all)
theorem core_ok (c : CoS) (h : c.f.length ≤ 45) : Spec FF 103 [.agg [.im (c.f.map eFr) c.bf, .int .i64 c.v, .int .i64 c.e, .int .i64 c.x0, .int .i64 c.x1, .int .i64 c.x2, .im (c.ret.map eI) c.bret]] (.bool (coreF c)) := qcore_ok (fu := c.f.length + 1) c (by
  unfold qcore coreF
  have e := qcore_0_eq c h c.f.length 0 (by omega) rfl
  rw [show ((0 : Nat) : Int) = 0 from rfl] at e
  rw [e]
  cases nearF c.v <;> cases nearF c.x0 <;> cases nearF c.x1 <;> cases nearF c.x2 <;> rfl)
def fr30 (f : FrS) : Bool := decide (f.s.length ≤ 30)
theorem smallC_eq (c : CoS) : smallC c = (decide (c.f.length ≤ 45 ∧ c.ret.length ≤ 210) && c.f.all fr30) := rfl
/-- From a core on, and from a frame of it on; the fuel is as much as there is to be done. -/
theorem qsmall3_in (s : SyS) (hc : s.c.length ≤ 9) : ∀ (m : Nat),
    (∀ (fu i : Nat), s.c.length - i = m → 60 * m < fu → i ≤ s.c.length → (s.c.take i).all smallC = true → qsmall3_0 fu s i = some (.bool (s.c.all smallC))) ∧
    (∀ (k fu i j : Nat), s.c.length - i = m + 1 → 60 * m + 1 + k < fu → ∀ (hi : i < s.c.length), j + k = s.c[i].f.length → s.c[i].f.length ≤ 45 → s.c[i].ret.length ≤ 210 → (s.c.take i).all smallC = true → (s.c[i].f.take j).all fr30 = true → qsmall3_2 fu s i j = some (.bool (s.c.all smallC))) := by
  intro m
  induction m with
  | zero =>
    have p0 : ∀ (fu i : Nat), s.c.length - i = 0 → 60 * 0 < fu → i ≤ s.c.length → (s.c.take i).all smallC = true → qsmall3_0 fu s i = some (.bool (s.c.all smallC)) := fun fu i h1 h2 h3 ht => by
      cases fu with
      | zero => omega
      | succ fu =>
        rw [qsmall3_0, if_neg (by omega)]
        rw [List.take_of_length_le (by omega)] at ht
        rw [ht]
    exact ⟨p0, inner 0 (hc := hc) p0⟩
  | succ m ih =>
    have p0 : ∀ (fu i : Nat), s.c.length - i = m + 1 → 60 * (m + 1) < fu → i ≤ s.c.length → (s.c.take i).all smallC = true → qsmall3_0 fu s i = some (.bool (s.c.all smallC)) := fun fu i h1 h2 h3 ht => by
      cases fu with
      | zero => omega
      | succ fu =>
        have hi : i < s.c.length := by omega
        rw [qsmall3_0, if_pos (by omega), if_pos (by omega), Int.toNat_natCast, List.getElem?_eq_getElem hi, Option.bind_some]
        have bad : smallC s.c[i] = false → s.c.all smallC = false := all_bad (p := smallC) hi
        by_cases c1 : (List.length s.c[i].f : Int) > 45
        · rw [if_pos c1, bad (by rw [smallC_eq, decide_eq_false (by omega)]; rfl)]
        by_cases c2 : (List.length s.c[i].ret : Int) > 210
        · rw [if_neg c1, if_pos c2, bad (by rw [smallC_eq, decide_eq_false (by omega)]; rfl)]
        rw [if_neg c1, if_neg c2]
        exact ih.2 s.c[i].f.length fu i 0 (by omega) (by omega) hi (by omega) (by omega) (by omega) ht rfl
    exact ⟨p0, inner (m + 1) (hc := hc) p0⟩
where
  inner (m : Nat) {s : SyS} {hc : s.c.length ≤ 9} (p0 : ∀ (fu i : Nat), s.c.length - i = m → 60 * m < fu → i ≤ s.c.length → (s.c.take i).all smallC = true → qsmall3_0 fu s i = some (.bool (s.c.all smallC))) :
      ∀ (k fu i j : Nat), s.c.length - i = m + 1 → 60 * m + 1 + k < fu → ∀ (hi : i < s.c.length), j + k = s.c[i].f.length → s.c[i].f.length ≤ 45 → s.c[i].ret.length ≤ 210 → (s.c.take i).all smallC = true → (s.c[i].f.take j).all fr30 = true → qsmall3_2 fu s i j = some (.bool (s.c.all smallC)) := by
    intro k
    induction k with
    | zero =>
      intro fu i j h1 h2 hi hj hf hr ht hs
      cases fu with
      | zero => omega
      | succ fu =>
        rw [qsmall3_2, if_pos (by omega), Int.toNat_natCast, List.getElem?_eq_getElem hi, Option.bind_some, if_neg (by omega), w64_nat (by omega)]
        refine p0 fu (i + 1) (by omega) (by omega) (by omega) (all_step hi ht ?_)
        rw [List.take_of_length_le (by omega)] at hs
        rw [smallC_eq, hs, decide_eq_true ⟨hf, hr⟩]; rfl
    | succ k ih =>
      intro fu i j h1 h2 hi hj hf hr ht hs
      cases fu with
      | zero => omega
      | succ fu =>
        have hjl : j < s.c[i].f.length := by omega
        rw [qsmall3_2, if_pos (by omega), Int.toNat_natCast, List.getElem?_eq_getElem hi, Option.bind_some, if_pos (by omega), if_pos (by omega), Int.toNat_natCast, List.getElem?_eq_getElem hjl, Option.bind_some]
        by_cases c1 : (List.length s.c[i].f[j].s : Int) > 30
        · rw [if_pos c1, all_bad (p := smallC) hi (by rw [smallC_eq, all_bad (p := fr30) hjl (by unfold fr30; rw [decide_eq_false (by omega)]), Bool.and_false])]
        · rw [if_neg c1, w64_nat (by omega)]
          exact ih fu i (j + 1) h1 (by omega) hi (by omega) hf hr ht (all_step hjl hs (by unfold fr30; rw [decide_eq_true (by omega)]))
theorem small3_ok (s : SyS) : Spec FF 54 [s.av, .int .i64 60] (.bool (small3F s)) := qsmall3_ok (fu := 60 * s.c.length + 1) s (by
  unfold qsmall3 small3F
  by_cases c1 : small2F s.w s.g = true
  · rw [if_neg (by simp [c1]), c1, Bool.true_and]
    by_cases c2 : (List.length s.c : Int) > 9
    · rw [if_pos c2, decide_eq_false (by omega)]; rfl
    by_cases c3 : (List.length s.l : Int) > 200
    · rw [if_neg c2, if_pos c3, decide_eq_false (by omega)]; rfl
    rw [if_neg c2, if_neg c3, decide_eq_true (by omega), Bool.true_and]
    exact (qsmall3_in s (by omega) s.c.length).1 _ 0 (by omega) (by omega) (by omega) rfl
  · rw [if_pos (by simp [c1])]
    have : small2F s.w s.g = false := by simpa using c1
    rw [this]; rfl)
end Go.Proofs.Hz
open Go Go.Proofs
namespace Go.Proofs.Hz
mutual
def qright3_0 : Nat → SyS → Int → Option AV
  | 0, _, _ => none
  | fu + 1, s, p0 =>
    if p0 < (List.length s.c : Int) then
      if 0 ≤ p0 then Option.bind (s.c[Int.toNat p0]?) fun x2 =>
      if List.length x2.f ≤ 45 then if (!(coreF x2)) = true then
        some (.bool false)
      else
        if (List.length x2.f : Int) > 40 then
          some (.bool false)
        else
          if (List.length x2.ret : Int) > 200 then
            some (.bool false)
          else
            qright3_2 fu s p0 0 else none else none
    else
      some (.bool true)
def qright3_2 : Nat → SyS → Int → Int → Option AV
  | 0, _, _, _ => none
  | fu + 1, s, p0, p1_0 =>
    if 0 ≤ p0 then Option.bind (s.c[Int.toNat p0]?) fun x1 =>
    if p1_0 < (List.length x1.f : Int) then
      if 0 ≤ p1_0 then Option.bind (x1.f[Int.toNat p1_0]?) fun x4 =>
      if (List.length x4.s : Int) > 24 then
        some (.bool false)
      else
        qright3_2 fu s p0 (w64 (p1_0 + 1)) else none
    else
      qright3_0 fu s (w64 (p0 + 1)) else none
end
def qright3_0W : List AV := [(.ptr 0 0), (vt 0)]
def qright3_0C : List Blk := [.cells [(vf 0), (vf 1), (vt 1), (vf 2), (vf 3)] false 28]
def qright3_0V (s : SyS) (p0 : Int) (σ : Nat → Nat) : Val := (valL ([.int .i64 p0, .bool s.bad]) ([.im (List.map eI s.w) s.bw, .im (List.map eI s.g) s.bg, .im (List.map eCo s.c) s.bc, .im (List.map eEv s.l) s.bl]) [] σ 1)
def qright3_0X (_s : SyS) (p0 : Int) (σ : Nat → Nat) : List AV := [(.ptr (σ 0) 0), (.int .i64 p0)]
def qright3_0Y (s : SyS) (_p0 : Int) (_σ : Nat → Nat) : List Blk := [.cells [(.im (List.map eI s.w) s.bw), (.im (List.map eI s.g) s.bg), (.bool s.bad), (.im (List.map eCo s.c) s.bc), (.im (List.map eEv s.l) s.bl)] false 28]
theorem qright3_0E (s : SyS) (p0 : Int) (σ : Nat → Nat) : qright3_0W.map (gm (qright3_0V s p0 σ)) = qright3_0X s p0 σ := by kernel_rfl
theorem qright3_0G (s : SyS) (p0 : Int) (σ : Nat → Nat) : qright3_0C.map (gB (qright3_0V s p0 σ)) = qright3_0Y s p0 σ := by kernel_rfl
def qright3_2W : List AV := [(.ptr 0 0), (vt 0), (vt 1)]
def qright3_2C : List Blk := [.cells [(vf 0), (vf 1), (vt 2), (vf 2), (vf 3)] false 28]
def qright3_2V (s : SyS) (p0 : Int) (p1_0 : Int) (σ : Nat → Nat) : Val := (valL ([.int .i64 p0, .int .i64 p1_0, .bool s.bad]) ([.im (List.map eI s.w) s.bw, .im (List.map eI s.g) s.bg, .im (List.map eCo s.c) s.bc, .im (List.map eEv s.l) s.bl]) [] σ 1)
def qright3_2X (_s : SyS) (p0 : Int) (p1_0 : Int) (σ : Nat → Nat) : List AV := [(.ptr (σ 0) 0), (.int .i64 p0), (.int .i64 p1_0)]
def qright3_2Y (s : SyS) (_p0 : Int) (_p1_0 : Int) (_σ : Nat → Nat) : List Blk := [.cells [(.im (List.map eI s.w) s.bw), (.im (List.map eI s.g) s.bg), (.bool s.bad), (.im (List.map eCo s.c) s.bc), (.im (List.map eEv s.l) s.bl)] false 28]
theorem qright3_2E (s : SyS) (p0 : Int) (p1_0 : Int) (σ : Nat → Nat) : qright3_2W.map (gm (qright3_2V s p0 p1_0 σ)) = qright3_2X s p0 p1_0 σ := by kernel_rfl
theorem qright3_2G (s : SyS) (p0 : Int) (p1_0 : Int) (σ : Nat → Nat) : qright3_2C.map (gB (qright3_2V s p0 p1_0 σ)) = qright3_2Y s p0 p1_0 σ := by kernel_rfl
set_option maxHeartbeats 10000000 in
theorem qright3_all : ∀ (fu : Nat), (∀ (s : SyS) (p0 : Int) {r0 : AV} {z0 : St} {σ : Nat → Nat}, (∀ i j, σ i = σ j → i = j) → qright3_0 fu s p0 = some r0 → Sim (qright3_0V s p0 σ) (tmpl [1, 4] qright3_0W qright3_0C) z0 → J FF (fnOf FF 55) (cutK (fnOf FF 55) 0) (.code (.loop (cutB (fnOf FF 55) 0))) z0 r0) ∧ (∀ (s : SyS) (p0 : Int) (p1_0 : Int) {r0 : AV} {z0 : St} {σ : Nat → Nat}, (∀ i j, σ i = σ j → i = j) → qright3_2 fu s p0 p1_0 = some r0 → Sim (qright3_2V s p0 p1_0 σ) (tmpl [1, 4, 6] qright3_2W qright3_2C) z0 → J FF (fnOf FF 55) (cutK (fnOf FF 55) 2) (.code (.loop (cutB (fnOf FF 55) 2))) z0 r0) := by
  intro fu
  induction fu with
  | zero =>
    refine ⟨?_, ?_⟩
    · intro _ _ _ _ _ _ h _
      unfold qright3_0 at h
      cases h
    · intro _ _ _ _ _ _ _ h _
      unfold qright3_2 at h
      cases h
  | succ fu ih =>
    obtain ⟨ih0, ih1⟩ := ih
    refine ⟨?_, ?_⟩
    · intro s p0 r0 z0 σ hσ h S
      unfold qright3_0 at h
      exact J_enter (have H := Tok.start hσ S 1 2 4 0 ([.int .i64 p0, .bool s.bad]) ([.im (List.map eI s.w) s.bw, .im (List.map eI s.g) s.bg, .im (List.map eCo s.c) s.bc, .im (List.map eEv s.l) s.bl]) [] (.c (OkF.im eI_ok _ _) <| .c (OkF.im eI_ok _ _) <| .c (OkF.im eCo_ok _ _) <| .c (OkF.im eEv_ok _ _) <| .n) (.n) (qright3_0E s p0 _) (qright3_0G s p0 _); have H := H.t 4 [.int .i64 (List.length s.c : Int), .bool (decide (p0 < (List.length s.c : Int)))] |>.r [(.bin .lss (cT 0) (cT 2), (vt 3))] |>.c (p := (.len 0 (cF 2), (vt 2))) (fun _ _ _ => fLen (e := eCo) (l := s.c) (b := s.bc) (by kernel_rfl) (by kernel_rfl)); iteE h (fun h0 h => have H := H.m 3 true (decide_eq_true h0); reqE h (fun h1 h => bindE h (fun x2 h2 h => have H := H.t 9 [.int .i64 x2.v, .int .i64 x2.e, .int .i64 x2.x0, .int .i64 x2.x1, .int .i64 x2.x2] |>.f 6 [.im (List.map eFr x2.f) x2.bf, .im (List.map eI x2.ret) x2.bret] (.c (OkF.im eFr_ok _ _) <| .c (OkF.im eI_ok _ _) <| .n) |>.c (p := (.iaS 7 (cF 2) (cT 0), (.ip ([(vf 4)] ++ vT 4 5 ++ [(vf 5)]) 0))) (fun _ _ _ => fIa (sz := 7) (e := eCo) (l := s.c) (b := s.bc) (k := .i64) (n := p0) (y := x2) eCo_ok (by kernel_rfl) (by kernel_rfl) h1 h2 (by kernel_rfl)); reqE h (fun h3 h => have H := H.t 11 [.bool (coreF x2), .bool (!(coreF x2))] |>.r [(.un .not (cT 9), (vt 10))] |>.s [(.agg ([(vf 4)] ++ vT 4 5 ++ [(vf 5)]))] (vt 9) (core_ok x2 h3); iteE h (fun h4 h => have H := H.m 10 true h4; H.e [0, 2] h) (fun h4 h => have H := H.t 13 [.int .i64 (List.length x2.f : Int), .bool (decide ((List.length x2.f : Int) > 40))] |>.r [(.bin .gtr (cT 11) (cI 40), (vt 12))] |>.m 10 false (bF h4) |>.c (p := (.len 0 (cF 4), (vt 11))) (fun _ _ _ => fLen (e := eFr) (l := x2.f) (b := x2.bf) (by kernel_rfl) (by kernel_rfl)); iteE h (fun h5 h => have H := H.m 12 true (decide_eq_true h5); H.e [0, 2] h) (fun h5 h => have H := H.t 15 [.int .i64 (List.length x2.ret : Int), .bool (decide ((List.length x2.ret : Int) > 200))] |>.r [(.bin .gtr (cT 13) (cI 200), (vt 14))] |>.m 12 false (decide_eq_false h5) |>.c (p := (.len 0 (cF 5), (vt 13))) (fun _ _ _ => fLen (e := eI) (l := x2.ret) (b := x2.bret) (by kernel_rfl) (by kernel_rfl)); iteE h (fun h6 h => have H := H.m 14 true (decide_eq_true h6); H.e [0, 2] h) (fun h6 h => have H := H.m 14 false (decide_eq_false h6); H.k [0, 2] [1, 4, 6] [0] [(.ptr 0 0), (vt 0), (.int .i64 0)] [.cells [(vf 0), (vf 1), (vt 1), (vf 2), (vf 3)] false 28] 1 (qright3_2V s p0 0 _) (qright3_2E s p0 0 _) (qright3_2G s p0 0 _) (fun _ hi S => ih1 _ _ _ hi h S)))))))) (fun h0 h => have H := H.m 3 false (decide_eq_false h0); H.e [0, 2] h))
    · intro s p0 p1_0 r0 z0 σ hσ h S
      unfold qright3_2 at h
      exact J_enter (have H := Tok.start hσ S 1 3 4 0 ([.int .i64 p0, .int .i64 p1_0, .bool s.bad]) ([.im (List.map eI s.w) s.bw, .im (List.map eI s.g) s.bg, .im (List.map eCo s.c) s.bc, .im (List.map eEv s.l) s.bl]) [] (.c (OkF.im eI_ok _ _) <| .c (OkF.im eI_ok _ _) <| .c (OkF.im eCo_ok _ _) <| .c (OkF.im eEv_ok _ _) <| .n) (.n) (qright3_2E s p0 p1_0 _) (qright3_2G s p0 p1_0 _); reqE h (fun h0 h => bindE h (fun x1 h1 h => have H := H.t 10 [.int .i64 x1.v, .int .i64 x1.e, .int .i64 x1.x0, .int .i64 x1.x1, .int .i64 x1.x2, .int .i64 (List.length x1.f : Int), .bool (decide (p1_0 < (List.length x1.f : Int)))] |>.f 6 [.im (List.map eFr x1.f) x1.bf, .im (List.map eI x1.ret) x1.bret] (.c (OkF.im eFr_ok _ _) <| .c (OkF.im eI_ok _ _) <| .n) |>.r [(.bin .lss (cT 1) (cT 8), (vt 9))] |>.c (p := (.iaS 7 (cF 2) (cT 0), (.ip ([(vf 4)] ++ vT 3 5 ++ [(vf 5)]) 0))) (fun _ _ _ => fIa (sz := 7) (e := eCo) (l := s.c) (b := s.bc) (k := .i64) (n := p0) (y := x1) eCo_ok (by kernel_rfl) (by kernel_rfl) h0 h1 (by kernel_rfl)) |>.c (p := (.len 0 (cF 4), (vt 8))) (fun _ _ _ => fLen (e := eFr) (l := x1.f) (b := x1.bf) (by kernel_rfl) (by kernel_rfl)); iteE h (fun h2 h => have H := H.m 9 true (decide_eq_true h2); reqE h (fun h3 h => bindE h (fun x4 h4 h => have H := H.t 22 [.int .i64 x4.op, .int .i64 x4.pc, .int .i64 x4.r0, .int .i64 x4.r1, .int .i64 x4.r2, .int .i64 x4.r3, .int .i64 x4.r4, .int .i64 x4.r5, .int .i64 x4.r6, .int .i64 x4.r7, .int .i64 (List.length x4.s : Int), .bool (decide ((List.length x4.s : Int) > 24))] |>.f 7 [.im (List.map eI x4.s) x4.bs] (.c (OkF.im eI_ok _ _) <| .n) |>.r [(.bin .gtr (cT 20) (cI 24), (vt 21))] |>.c (p := (.iaS 11 (cF 4) (cT 1), (.ip (vT 10 10 ++ [(vf 6)]) 0))) (fun _ _ _ => fIa (sz := 11) (e := eFr) (l := x1.f) (b := x1.bf) (k := .i64) (n := p1_0) (y := x4) eFr_ok (by kernel_rfl) (by kernel_rfl) h3 h4 (by kernel_rfl)) |>.c (p := (.len 0 (cF 6), (vt 20))) (fun _ _ _ => fLen (e := eI) (l := x4.s) (b := x4.bs) (by kernel_rfl) (by kernel_rfl)); iteE h (fun h5 h => have H := H.m 21 true (decide_eq_true h5); H.e [0, 2] h) (fun h5 h => have H := H.t 23 [.int .i64 (w64 (p1_0 + 1))] |>.r [(.bin .add (cT 1) (cI 1), (vt 22))] |>.m 21 false (decide_eq_false h5); H.k [0, 2] [1, 4, 6] [0] [(.ptr 0 0), (vt 0), (vt 22)] [.cells [(vf 0), (vf 1), (vt 2), (vf 2), (vf 3)] false 28] 1 (qright3_2V s p0 (w64 (p1_0 + 1)) _) (qright3_2E s p0 (w64 (p1_0 + 1)) _) (qright3_2G s p0 (w64 (p1_0 + 1)) _) (fun _ hi S => ih1 _ _ _ hi h S))))) (fun h2 h => have H := H.t 11 [.int .i64 (w64 (p0 + 1))] |>.r [(.bin .add (cT 0) (cI 1), (vt 10))] |>.m 9 false (decide_eq_false h2); H.k [0, 2] [1, 4] [0] [(.ptr 0 0), (vt 10)] [.cells [(vf 0), (vf 1), (vt 2), (vf 2), (vf 3)] false 28] 1 (qright3_0V s (w64 (p0 + 1)) _) (qright3_0E s (w64 (p0 + 1)) _) (qright3_0G s (w64 (p0 + 1)) _) (fun _ hi S => ih0 _ _ hi h S)))))
theorem qright3_0_ok : ∀ (fu : Nat), ∀ (s : SyS) (p0 : Int) {r0 : AV} {z0 : St} {σ : Nat → Nat}, (∀ i j, σ i = σ j → i = j) → qright3_0 fu s p0 = some r0 → Sim (qright3_0V s p0 σ) (tmpl [1, 4] qright3_0W qright3_0C) z0 → J FF (fnOf FF 55) (cutK (fnOf FF 55) 0) (.code (.loop (cutB (fnOf FF 55) 0))) z0 r0 := fun fu => (qright3_all fu).1
theorem qright3_2_ok : ∀ (fu : Nat), ∀ (s : SyS) (p0 : Int) (p1_0 : Int) {r0 : AV} {z0 : St} {σ : Nat → Nat}, (∀ i j, σ i = σ j → i = j) → qright3_2 fu s p0 p1_0 = some r0 → Sim (qright3_2V s p0 p1_0 σ) (tmpl [1, 4, 6] qright3_2W qright3_2C) z0 → J FF (fnOf FF 55) (cutK (fnOf FF 55) 2) (.code (.loop (cutB (fnOf FF 55) 2))) z0 r0 := fun fu => (qright3_all fu).2
def qright3 (fu : Nat) (s : SyS) : Option AV :=
  if small2F s.w s.g = true then if (!(right2F s.w s.g)) = true then
    some (.bool false)
  else
    if (List.length s.c : Int) < 1 then
      some (.bool false)
    else
      if (List.length s.c : Int) > 8 then
        some (.bool false)
      else
        qright3_0 fu s 0 else none
def qright3W : List AV := [(.agg [(vf 0), (vf 1), (vt 0), (vf 2), (vf 3)])]
def qright3V (s : SyS) (σ : Nat → Nat) : Val := (valL ([.bool s.bad]) ([.im (List.map eI s.w) s.bw, .im (List.map eI s.g) s.bg, .im (List.map eCo s.c) s.bc, .im (List.map eEv s.l) s.bl]) [] σ 0)
def qright3X (s : SyS) (_σ : Nat → Nat) : List AV := [(.agg [(.im (List.map eI s.w) s.bw), (.im (List.map eI s.g) s.bg), (.bool s.bad), (.im (List.map eCo s.c) s.bc), (.im (List.map eEv s.l) s.bl)])]
def qright3Y (_s : SyS) (_σ : Nat → Nat) : List Blk := []
theorem qright3E (s : SyS) (σ : Nat → Nat) : qright3W.map (gm (qright3V s σ)) = qright3X s σ := by kernel_rfl
theorem qright3G (s : SyS) (σ : Nat → Nat) : ([] : List Blk).map (gB (qright3V s σ)) = qright3Y s σ := by kernel_rfl
theorem qright3_ok {fu : Nat} (s : SyS) {r0 : AV} (h : qright3 fu s = some r0) : Spec FF 55 [(.agg [(.im (List.map eI s.w) s.bw), (.im (List.map eI s.g) s.bg), (.bool s.bad), (.im (List.map eCo s.c) s.bc), (.im (List.map eEv s.l) s.bl)])] r0 := by
  unfold qright3 at h
  have hσ : ∀ i j : Nat, (fun i : Nat => i) i = (fun i : Nat => i) j → i = j := fun _ _ e => e
  exact spec_begin (ρ := qright3V s (fun i => i)) (xs := qright3W) (by kernel_rfl) rfl rfl (by kernel_rfl) (fun z0 S => have H := Tok.start hσ S 0 1 4 0 ([.bool s.bad]) ([.im (List.map eI s.w) s.bw, .im (List.map eI s.g) s.bg, .im (List.map eCo s.c) s.bc, .im (List.map eEv s.l) s.bl]) [] (.c (OkF.im eI_ok _ _) <| .c (OkF.im eI_ok _ _) <| .c (OkF.im eCo_ok _ _) <| .c (OkF.im eEv_ok _ _) <| .n) .n (qright3E s _) (qright3G s _); reqE h (fun h0 h => have H := H.t 3 [.bool (right2F s.w s.g), .bool (!(right2F s.w s.g))] |>.r [(.un .not (cT 1), (vt 2))] |>.s [(.agg [(vf 0), (vf 1), (vt 0)])] (vt 1) (right2_ok s.w s.bw s.g s.bg s.bad h0); iteE h (fun h1 h => have H := H.m 2 true h1; H.e [0, 2] h) (fun h1 h => have H := H.t 5 [.int .i64 (List.length s.c : Int), .bool (decide ((List.length s.c : Int) < 1))] |>.r [(.bin .lss (cT 3) (cI 1), (vt 4))] |>.m 2 false (bF h1) |>.c (p := (.len 0 (cF 2), (vt 3))) (fun _ _ _ => fLen (e := eCo) (l := s.c) (b := s.bc) (by kernel_rfl) (by kernel_rfl)); iteE h (fun h2 h => have H := H.m 4 true (decide_eq_true h2); H.e [0, 2] h) (fun h2 h => have H := H.t 6 [.bool (decide ((List.length s.c : Int) > 8))] |>.r [(.bin .gtr (cT 3) (cI 8), (vt 5))] |>.m 4 false (decide_eq_false h2); iteE h (fun h3 h => have H := H.m 5 true (decide_eq_true h3); H.e [0, 2] h) (fun h3 h => have H := H.m 5 false (decide_eq_false h3); H.k [0, 2] [1, 4] [0] [(.ptr 0 0), (.int .i64 0)] [.cells [(vf 0), (vf 1), (vt 0), (vf 2), (vf 3)] false 28] 1 (qright3_0V s 0 _) (qright3_0E s 0 _) (qright3_0G s 0 _) (fun _ hi S => qright3_0_ok _ _ _ hi h S))))))

def qstC (s : SyS) (t : Int) : Option AV :=
  if (!(belowF t 16)) = true then
    some (.int .i64 0)
  else
    if 0 ≤ (w64 (96 + t)) then Option.bind (s.w[Int.toNat (w64 (96 + t))]?) fun x2 =>
    some (.int .i64 (idxC x2)) else none
def qstCW : List AV := [(.agg [(vf 0), (vf 1), (vt 0), (vf 2), (vf 3)]), (vt 1)]
def qstCV (s : SyS) (t : Int) (σ : Nat → Nat) : Val := (valL ([.bool s.bad, .int .i64 t]) ([.im (List.map eI s.w) s.bw, .im (List.map eI s.g) s.bg, .im (List.map eCo s.c) s.bc, .im (List.map eEv s.l) s.bl]) [] σ 0)
def qstCX (s : SyS) (t : Int) (_σ : Nat → Nat) : List AV := [(.agg [(.im (List.map eI s.w) s.bw), (.im (List.map eI s.g) s.bg), (.bool s.bad), (.im (List.map eCo s.c) s.bc), (.im (List.map eEv s.l) s.bl)]), (.int .i64 t)]
def qstCY (_s : SyS) (_t : Int) (_σ : Nat → Nat) : List Blk := []
theorem qstCE (s : SyS) (t : Int) (σ : Nat → Nat) : qstCW.map (gm (qstCV s t σ)) = qstCX s t σ := by kernel_rfl
theorem qstCG (s : SyS) (t : Int) (σ : Nat → Nat) : ([] : List Blk).map (gB (qstCV s t σ)) = qstCY s t σ := by kernel_rfl
theorem qstC_ok (s : SyS) (t : Int) {r0 : AV} (h : qstC s t = some r0) : Spec FF 19 [(.agg [(.im (List.map eI s.w) s.bw), (.im (List.map eI s.g) s.bg), (.bool s.bad), (.im (List.map eCo s.c) s.bc), (.im (List.map eEv s.l) s.bl)]), (.int .i64 t)] r0 := by
  unfold qstC at h
  have hσ : ∀ i j : Nat, (fun i : Nat => i) i = (fun i : Nat => i) j → i = j := fun _ _ e => e
  exact spec_begin (ρ := qstCV s t (fun i => i)) (xs := qstCW) (by kernel_rfl) rfl rfl (by kernel_rfl) (fun z0 S => have H := Tok.start hσ S 0 2 4 0 ([.bool s.bad, .int .i64 t]) ([.im (List.map eI s.w) s.bw, .im (List.map eI s.g) s.bg, .im (List.map eCo s.c) s.bc, .im (List.map eEv s.l) s.bl]) [] (.c (OkF.im eI_ok _ _) <| .c (OkF.im eI_ok _ _) <| .c (OkF.im eCo_ok _ _) <| .c (OkF.im eEv_ok _ _) <| .n) .n (qstCE s t _) (qstCG s t _); have H := H.t 4 [.bool (belowF t 16), .bool (!(belowF t 16))] |>.r [(.un .not (cT 2), (vt 3))] |>.s [(vt 1), (.int .i64 16)] (vt 2) (belowF_ok t 16); iteE h (fun h0 h => have H := H.m 3 true h0; H.e [] h) (fun h0 h => have H := H.t 5 [.int .i64 (w64 (96 + t))] |>.r [(.bin .add (cI 96) (cT 1), (vt 4))] |>.m 3 false (bF h0); reqE h (fun h1 h => bindE h (fun x2 h2 h => have H := H.t 7 [.int .i64 x2, .int .i64 (idxC x2)] |>.c (p := (.iaS 1 (cF 0) (cT 4), (.ip [(vt 5)] 0))) (fun _ _ _ => fIa (sz := 1) (e := eI) (l := s.w) (b := s.bw) (k := .i64) (n := (w64 (96 + t))) (y := x2) eI_ok (by kernel_rfl) (by kernel_rfl) h1 h2 (by kernel_rfl)) |>.s [(vt 5)] (vt 6) (idxC_ok x2); H.e [] h))))

def qstR (s : SyS) (t : Int) : Option AV :=
  if t < 0 then
    some (.int .i64 0)
  else
    if t > 15 then
      some (.int .i64 0)
    else
      if 0 ≤ (w64 (96 + t)) then Option.bind (s.w[Int.toNat (w64 (96 + t))]?) fun x3 =>
      some (.int .i64 (idxR x3)) else none
def qstRW : List AV := [(.agg [(vf 0), (vf 1), (vt 0), (vf 2), (vf 3)]), (vt 1)]
def qstRV (s : SyS) (t : Int) (σ : Nat → Nat) : Val := (valL ([.bool s.bad, .int .i64 t]) ([.im (List.map eI s.w) s.bw, .im (List.map eI s.g) s.bg, .im (List.map eCo s.c) s.bc, .im (List.map eEv s.l) s.bl]) [] σ 0)
def qstRX (s : SyS) (t : Int) (_σ : Nat → Nat) : List AV := [(.agg [(.im (List.map eI s.w) s.bw), (.im (List.map eI s.g) s.bg), (.bool s.bad), (.im (List.map eCo s.c) s.bc), (.im (List.map eEv s.l) s.bl)]), (.int .i64 t)]
def qstRY (_s : SyS) (_t : Int) (_σ : Nat → Nat) : List Blk := []
theorem qstRE (s : SyS) (t : Int) (σ : Nat → Nat) : qstRW.map (gm (qstRV s t σ)) = qstRX s t σ := by kernel_rfl
theorem qstRG (s : SyS) (t : Int) (σ : Nat → Nat) : ([] : List Blk).map (gB (qstRV s t σ)) = qstRY s t σ := by kernel_rfl
theorem qstR_ok (s : SyS) (t : Int) {r0 : AV} (h : qstR s t = some r0) : Spec FF 20 [(.agg [(.im (List.map eI s.w) s.bw), (.im (List.map eI s.g) s.bg), (.bool s.bad), (.im (List.map eCo s.c) s.bc), (.im (List.map eEv s.l) s.bl)]), (.int .i64 t)] r0 := by
  unfold qstR at h
  have hσ : ∀ i j : Nat, (fun i : Nat => i) i = (fun i : Nat => i) j → i = j := fun _ _ e => e
  exact spec_begin (ρ := qstRV s t (fun i => i)) (xs := qstRW) (by kernel_rfl) rfl rfl (by kernel_rfl) (fun z0 S => have H := Tok.start hσ S 0 2 4 0 ([.bool s.bad, .int .i64 t]) ([.im (List.map eI s.w) s.bw, .im (List.map eI s.g) s.bg, .im (List.map eCo s.c) s.bc, .im (List.map eEv s.l) s.bl]) [] (.c (OkF.im eI_ok _ _) <| .c (OkF.im eI_ok _ _) <| .c (OkF.im eCo_ok _ _) <| .c (OkF.im eEv_ok _ _) <| .n) .n (qstRE s t _) (qstRG s t _); have H := H.t 3 [.bool (decide (t < 0))] |>.r [(.bin .lss (cT 1) (cI 0), (vt 2))]; iteE h (fun h0 h => have H := H.m 2 true (decide_eq_true h0); H.e [] h) (fun h0 h => have H := H.t 4 [.bool (decide (t > 15))] |>.r [(.bin .gtr (cT 1) (cI 15), (vt 3))] |>.m 2 false (decide_eq_false h0); iteE h (fun h1 h => have H := H.m 3 true (decide_eq_true h1); H.e [] h) (fun h1 h => have H := H.t 5 [.int .i64 (w64 (96 + t))] |>.r [(.bin .add (cI 96) (cT 1), (vt 4))] |>.m 3 false (decide_eq_false h1); reqE h (fun h2 h => bindE h (fun x3 h3 h => have H := H.t 7 [.int .i64 x3, .int .i64 (idxR x3)] |>.c (p := (.iaS 1 (cF 0) (cT 4), (.ip [(vt 5)] 0))) (fun _ _ _ => fIa (sz := 1) (e := eI) (l := s.w) (b := s.bw) (k := .i64) (n := (w64 (96 + t))) (y := x3) eI_ok (by kernel_rfl) (by kernel_rfl) h2 h3 (by kernel_rfl)) |>.s [(vt 5)] (vt 6) (idxR_ok x3); H.e [] h)))))

end Go.Proofs.Hz
