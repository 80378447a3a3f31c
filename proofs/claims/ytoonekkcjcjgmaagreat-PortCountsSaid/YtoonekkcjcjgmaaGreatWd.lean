/-
  Chapter 14: walks through functions (part d), written by a program of our own (wip/tools).
  Conditions: none.
-/
import Derived.Test.YtoonekkcjcjgmaaGreatWc
open Go Go.Proofs
namespace Go.Proofs.Hz
def fr24 (f : FrS) : Bool := decide (f.s.length ≤ 24)
theorem rightC_eq (c : CoS) : rightC c = (coreF c && (decide (c.f.length ≤ 40 ∧ c.ret.length ≤ 200) && c.f.all fr24)) := rfl
/-- From a core on, and from a frame of it on; the fuel is as much as there is to be done. -/
theorem qright3_in (s : SyS) (hc : s.c.length ≤ 9) (hf45 : ∀ c ∈ s.c, c.f.length ≤ 45) : ∀ (m : Nat),
    (∀ (fu i : Nat), s.c.length - i = m → 60 * m < fu → i ≤ s.c.length → (s.c.take i).all rightC = true → qright3_0 fu s i = some (.bool (s.c.all rightC))) ∧
    (∀ (k fu i j : Nat), s.c.length - i = m + 1 → 60 * m + 1 + k < fu → ∀ (hi : i < s.c.length), j + k = s.c[i].f.length → s.c[i].f.length ≤ 40 → s.c[i].ret.length ≤ 200 → coreF s.c[i] = true → (s.c.take i).all rightC = true → (s.c[i].f.take j).all fr24 = true → qright3_2 fu s i j = some (.bool (s.c.all rightC))) := by
  have inner : ∀ (m : Nat), (∀ (fu i : Nat), s.c.length - i = m → 60 * m < fu → i ≤ s.c.length → (s.c.take i).all rightC = true → qright3_0 fu s i = some (.bool (s.c.all rightC))) →
      ∀ (k fu i j : Nat), s.c.length - i = m + 1 → 60 * m + 1 + k < fu → ∀ (hi : i < s.c.length), j + k = s.c[i].f.length → s.c[i].f.length ≤ 40 → s.c[i].ret.length ≤ 200 → coreF s.c[i] = true → (s.c.take i).all rightC = true → (s.c[i].f.take j).all fr24 = true → qright3_2 fu s i j = some (.bool (s.c.all rightC)) := by
    intro m p0 k
    induction k with
    | zero =>
      intro fu i j h1 h2 hi hj hf hr hco ht hs
      cases fu with
      | zero => omega
      | succ fu =>
        rw [qright3_2, if_pos (by omega), Int.toNat_natCast, List.getElem?_eq_getElem hi, Option.bind_some, if_neg (by omega), w64_nat (by omega)]
        refine p0 fu (i + 1) (by omega) (by omega) (by omega) (all_step hi ht ?_)
        rw [List.take_of_length_le (by omega)] at hs
        rw [rightC_eq, hs, decide_eq_true ⟨hf, hr⟩, hco]; rfl
    | succ k ih =>
      intro fu i j h1 h2 hi hj hf hr hco ht hs
      cases fu with
      | zero => omega
      | succ fu =>
        have hjl : j < s.c[i].f.length := by omega
        rw [qright3_2, if_pos (by omega), Int.toNat_natCast, List.getElem?_eq_getElem hi, Option.bind_some, if_pos (by omega), if_pos (by omega), Int.toNat_natCast, List.getElem?_eq_getElem hjl, Option.bind_some]
        by_cases c1 : (List.length s.c[i].f[j].s : Int) > 24
        · rw [if_pos c1, all_bad (p := rightC) hi (by rw [rightC_eq, all_bad (p := fr24) hjl (by unfold fr24; rw [decide_eq_false (by omega)]), Bool.and_false, Bool.and_false])]
        · rw [if_neg c1, w64_nat (by omega)]
          exact ih fu i (j + 1) h1 (by omega) hi (by omega) hf hr hco ht (all_step hjl hs (by unfold fr24; rw [decide_eq_true (by omega)]))
  intro m
  induction m with
  | zero =>
    have p0 : ∀ (fu i : Nat), s.c.length - i = 0 → 60 * 0 < fu → i ≤ s.c.length → (s.c.take i).all rightC = true → qright3_0 fu s i = some (.bool (s.c.all rightC)) := fun fu i h1 h2 h3 ht => by
      cases fu with
      | zero => omega
      | succ fu =>
        rw [qright3_0, if_neg (by omega)]
        rw [List.take_of_length_le (by omega)] at ht
        rw [ht]
    exact ⟨p0, inner 0 p0⟩
  | succ m ih =>
    have p0 : ∀ (fu i : Nat), s.c.length - i = m + 1 → 60 * (m + 1) < fu → i ≤ s.c.length → (s.c.take i).all rightC = true → qright3_0 fu s i = some (.bool (s.c.all rightC)) := fun fu i h1 h2 h3 ht => by
      cases fu with
      | zero => omega
      | succ fu =>
        have hi : i < s.c.length := by omega
        have h45 := hf45 _ (List.getElem_mem hi)
        rw [qright3_0, if_pos (by omega), if_pos (by omega), Int.toNat_natCast, List.getElem?_eq_getElem hi, Option.bind_some, if_pos h45]
        have bad : rightC s.c[i] = false → s.c.all rightC = false := all_bad (p := rightC) hi
        by_cases c0 : coreF s.c[i] = true
        · rw [if_neg (by simp [c0])]
          by_cases c1 : (List.length s.c[i].f : Int) > 40
          · rw [if_pos c1, bad (by rw [rightC_eq, decide_eq_false (by omega)]; simp)]
          by_cases c2 : (List.length s.c[i].ret : Int) > 200
          · rw [if_neg c1, if_pos c2, bad (by rw [rightC_eq, decide_eq_false (by omega)]; simp)]
          rw [if_neg c1, if_neg c2]
          exact ih.2 s.c[i].f.length fu i 0 (by omega) (by omega) hi (by omega) (by omega) (by omega) c0 ht rfl
        · have c0' : coreF s.c[i] = false := by simpa using c0
          rw [if_pos (by simp [c0']), bad (by rw [rightC_eq, c0']; rfl)]
    exact ⟨p0, inner (m + 1) p0⟩
theorem small3_of {s : SyS} (h : small3F s = true) : small2F s.w s.g = true ∧ s.c.length ≤ 9 ∧ ∀ c ∈ s.c, c.f.length ≤ 45 := by
  simp only [small3F, Bool.and_eq_true, decide_eq_true_eq] at h
  refine ⟨h.1, h.2.1.1, fun c hc => ?_⟩
  have := List.all_eq_true.1 h.2.2 c hc
  rw [smallC_eq, Bool.and_eq_true, decide_eq_true_eq] at this
  exact this.1.1
theorem right3_ok (s : SyS) (h : small3F s = true) : Spec FF 55 [s.av] (.bool (right3F s)) := qright3_ok (fu := 60 * s.c.length + 1) s (by
  obtain ⟨h1, h2, h3⟩ := small3_of h
  unfold qright3 right3F
  rw [if_pos h1]
  by_cases c1 : right2F s.w s.g = true
  · rw [if_neg (by simp [c1]), c1, Bool.true_and]
    by_cases c2 : (List.length s.c : Int) < 1
    · rw [if_pos c2, decide_eq_false (by omega)]; rfl
    by_cases c3 : (List.length s.c : Int) > 8
    · rw [if_neg c2, if_pos c3, decide_eq_false (by omega)]; rfl
    rw [if_neg c2, if_neg c3, decide_eq_true (by omega), Bool.true_and]
    exact (qright3_in s h2 h3 s.c.length).1 _ 0 (by omega) (by omega) (by omega) rfl
  · have c1' : right2F s.w s.g = false := by simpa using c1
    rw [if_pos (by simp [c1']), c1']; rfl)
theorem stC_ok (s : SyS) (t : Int) (h : 128 ≤ s.w.length) : Spec FF 19 [s.av, .int .i64 t] (.int .i64 (stC s.w t)) := qstC_ok s t (by
  unfold qstC stC belowF
  by_cases c : 0 ≤ t ∧ t < 16
  · have hw : w64 (96 + t) = 96 + t := w64i (by omega)
    have hlt : (96 + t).toNat < s.w.length := by omega
    rw [if_neg (by simp [c]), if_pos c, hw, if_pos (by omega), List.getElem?_eq_getElem hlt, Option.bind_some, List.getD_eq_getElem?_getD, List.getElem?_eq_getElem hlt]
    rfl
  · rw [if_pos (by simp; omega), if_neg c])
theorem stR_ok (s : SyS) (t : Int) (h : 128 ≤ s.w.length) : Spec FF 20 [s.av, .int .i64 t] (.int .i64 (stR s.w t)) := qstR_ok s t (by
  unfold qstR stR
  by_cases c1 : t < 0
  · rw [if_pos c1, if_neg (by omega)]
  by_cases c2 : t > 15
  · rw [if_neg c1, if_pos c2, if_neg (by omega)]
  have hw : w64 (96 + t) = 96 + t := w64i (by omega)
  have hlt : (96 + t).toNat < s.w.length := by omega
  rw [if_neg c1, if_neg c2, if_pos (by omega), hw, if_pos (by omega), List.getElem?_eq_getElem hlt, Option.bind_some, List.getD_eq_getElem?_getD, List.getElem?_eq_getElem hlt]
  rfl)
end Go.Proofs.Hz
open Go Go.Proofs
namespace Go.Proofs.Hz
def qmay (s : SyS) : Option AV :=
  if (small3F s) = true then
    if small3F s = true then some (.bool (right3F s)) else none
  else
    some (.bool false)
def qmayW : List AV := [(.agg [(vf 0), (vf 1), (vt 0), (vf 2), (vf 3)]), (.int .i64 60)]
def qmayV (s : SyS) (σ : Nat → Nat) : Val := (valL ([.bool s.bad]) ([.im (List.map eI s.w) s.bw, .im (List.map eI s.g) s.bg, .im (List.map eCo s.c) s.bc, .im (List.map eEv s.l) s.bl]) [] σ 0)
def qmayX (s : SyS) (_σ : Nat → Nat) : List AV := [(.agg [(.im (List.map eI s.w) s.bw), (.im (List.map eI s.g) s.bg), (.bool s.bad), (.im (List.map eCo s.c) s.bc), (.im (List.map eEv s.l) s.bl)]), (.int .i64 60)]
def qmayY (_s : SyS) (_σ : Nat → Nat) : List Blk := []
theorem qmayE (s : SyS) (σ : Nat → Nat) : qmayW.map (gm (qmayV s σ)) = qmayX s σ := by kernel_rfl
theorem qmayG (s : SyS) (σ : Nat → Nat) : ([] : List Blk).map (gB (qmayV s σ)) = qmayY s σ := by kernel_rfl
theorem qmay_ok (s : SyS) {r0 : AV} (h : qmay s = some r0) : Spec FF 15 [(.agg [(.im (List.map eI s.w) s.bw), (.im (List.map eI s.g) s.bg), (.bool s.bad), (.im (List.map eCo s.c) s.bc), (.im (List.map eEv s.l) s.bl)]), (.int .i64 60)] r0 := by
  unfold qmay at h
  have hσ : ∀ i j : Nat, (fun i : Nat => i) i = (fun i : Nat => i) j → i = j := fun _ _ e => e
  exact spec_begin (ρ := qmayV s (fun i => i)) (xs := qmayW) (by kernel_rfl) rfl rfl (by kernel_rfl) (fun z0 S => have H := Tok.start hσ S 0 1 4 0 ([.bool s.bad]) ([.im (List.map eI s.w) s.bw, .im (List.map eI s.g) s.bg, .im (List.map eCo s.c) s.bc, .im (List.map eEv s.l) s.bl]) [] (.c (OkF.im eI_ok _ _) <| .c (OkF.im eI_ok _ _) <| .c (OkF.im eCo_ok _ _) <| .c (OkF.im eEv_ok _ _) <| .n) .n (qmayE s _) (qmayG s _); have H := H.t 2 [.bool (small3F s)] |>.s [(.agg [(vf 0), (vf 1), (vt 0), (vf 2), (vf 3)]), (.int .i64 60)] (vt 1) (small3_ok s); iteE h (fun h0 h => have H := H.m 1 true h0; reqE h (fun h1 h => have H := H.t 3 [.bool (right3F s)] |>.s [(.agg [(vf 0), (vf 1), (vt 0), (vf 2), (vf 3)])] (vt 2) (right3_ok s h1); H.e [] h)) (fun h0 h => have H := H.m 1 false (bF h0); H.e [] h))

def qwaits_0v1 : Nat → SyS → Int → List Int → Int → Option AV
  | 0, _, _, _, _ => none
  | fu + 1, s, p, p1_0, p1_1 =>
    if p1_1 < 16 then
      if (isPortF p) = true then
        if 128 ≤ List.length s.w then if (stC s.w p1_1) = (w64 (8 + p)) then
          if (List.length p1_0 + List.length [p1_1]) * 8 ≤ roomB ∧ List.length p1_0 + List.length [p1_1] ≤ roomB then qwaits_0v1 fu s p (p1_0 ++ [p1_1]) (w64 (p1_1 + 1)) else none
        else
          qwaits_0v1 fu s p p1_0 (w64 (p1_1 + 1)) else none
      else
        some (.im (List.map eI p1_0) false)
    else
      some (.im (List.map eI p1_0) false)
def qwaits_0v1W : List AV := [(vt 0), (.ptr 0 0), (.sl 1 0 1000001 1 none), (vt 1)]
def qwaits_0v1C : List Blk := [.cells [(vf 0), (vf 1), (vt 2), (vf 2), (vf 3)] false 28, .own 1000001 false 3]
def qwaits_0v1V (s : SyS) (p : Int) (p1_0 : List Int) (p1_1 : Int) (σ : Nat → Nat) : Val := (valL ([.int .i64 p, .int .i64 p1_1, .bool s.bad]) ([.im (List.map eI s.w) s.bw, .im (List.map eI s.g) s.bg, .im (List.map eCo s.c) s.bc, .im (List.map eEv s.l) s.bl]) [(1, List.map eI p1_0)] σ 2)
def qwaits_0v1X (_s : SyS) (p : Int) (p1_0 : List Int) (p1_1 : Int) (σ : Nat → Nat) : List AV := [(.int .i64 p), (.ptr (σ 0) 0), (.sl (σ 1) 0 (List.length (List.map eI p1_0)) 1 none), (.int .i64 p1_1)]
def qwaits_0v1Y (s : SyS) (_p : Int) (p1_0 : List Int) (_p1_1 : Int) (_σ : Nat → Nat) : List Blk := [.cells [(.im (List.map eI s.w) s.bw), (.im (List.map eI s.g) s.bg), (.bool s.bad), (.im (List.map eCo s.c) s.bc), (.im (List.map eEv s.l) s.bl)] false 28, .cells (List.flatten (List.map eI p1_0)) false 3]
theorem qwaits_0v1E (s : SyS) (p : Int) (p1_0 : List Int) (p1_1 : Int) (σ : Nat → Nat) : qwaits_0v1W.map (gm (qwaits_0v1V s p p1_0 p1_1 σ)) = qwaits_0v1X s p p1_0 p1_1 σ := by kernel_rfl
theorem qwaits_0v1G (s : SyS) (p : Int) (p1_0 : List Int) (p1_1 : Int) (σ : Nat → Nat) : qwaits_0v1C.map (gB (qwaits_0v1V s p p1_0 p1_1 σ)) = qwaits_0v1Y s p p1_0 p1_1 σ := by kernel_rfl
theorem qwaits_0v1_ok : ∀ (fu : Nat), ∀ (s : SyS) (p : Int) (p1_0 : List Int) (p1_1 : Int) {r0 : AV} {z0 : St} {σ : Nat → Nat}, (∀ i j, σ i = σ j → i = j) → qwaits_0v1 fu s p p1_0 p1_1 = some r0 → Sim (qwaits_0v1V s p p1_0 p1_1 σ) (tmpl [1, 2, 5, 6] qwaits_0v1W qwaits_0v1C) z0 → J FF (fnOf FF 39) (cutK (fnOf FF 39) 0) (.code (.loop (cutB (fnOf FF 39) 0))) z0 r0 := by
  intro fu
  induction fu with
  | zero =>
    intro _ _ _ _ _ _ _ _ h _
    unfold qwaits_0v1 at h
    cases h
  | succ fu ih =>
    intro s p p1_0 p1_1 r0 z0 σ hσ h S
    unfold qwaits_0v1 at h
    exact J_enter (have H := Tok.start hσ S 2 3 4 1 ([.int .i64 p, .int .i64 p1_1, .bool s.bad]) ([.im (List.map eI s.w) s.bw, .im (List.map eI s.g) s.bg, .im (List.map eCo s.c) s.bc, .im (List.map eEv s.l) s.bl]) [(0, 1, List.map eI p1_0)] (.c (OkF.im eI_ok _ _) <| .c (OkF.im eI_ok _ _) <| .c (OkF.im eCo_ok _ _) <| .c (OkF.im eEv_ok _ _) <| .n) (.c (OkO.own eI_ok _) <| .n) (qwaits_0v1E s p p1_0 p1_1 _) (qwaits_0v1G s p p1_0 p1_1 _); have H := H.t 4 [.bool (decide (p1_1 < 16))] |>.r [(.bin .lss (cT 1) (cI 16), (vt 3))]; iteE h (fun h0 h => have H := H.t 5 [.bool (isPortF p)] |>.m 3 true (decide_eq_true h0) |>.s [(vt 0)] (vt 4) (isPortF_ok p); iteE h (fun h1 h => have H := H.m 4 true h1; reqE h (fun h2 h => have H := H.t 8 [.int .i64 (stC s.w p1_1), .int .i64 (w64 (8 + p)), .bool (decide ((stC s.w p1_1) = (w64 (8 + p))))] |>.r [(.bin .add (cI 8) (cT 0), (vt 6)), (.bin .eql (cT 5) (cT 6), (vt 7))] |>.s [(.agg [(vf 0), (vf 1), (vt 2), (vf 2), (vf 3)]), (vt 1)] (vt 5) (stC_ok s p1_1 h2); iteE h (fun h3 h => have H := H.m 7 true (decide_eq_true h3); reqE h (fun h4 h => have H := H.t 9 [.int .i64 (w64 (p1_1 + 1))] |>.o 1 (1, List.map eI (p1_0 ++ [p1_1])) (.own eI_ok _) |>.r [(.bin .add (cT 1) (cI 1), (vt 8))] |>.a ⟨true, 1, 8, (vf 1000001), (.im [[(vt 1)]] true), 1001001⟩ (fun _ _ _ => fApp (e := eI) (l := p1_0) (m := [p1_1]) (cb := false) (cx := true) (by kernel_rfl) (by kernel_rfl) (by kernel_rfl) h4 (.inl rfl) (by decide) (by decide) (by decide)); H.k [0] [1, 2, 5, 6] [0, 3] [(vt 0), (.ptr 0 0), (.sl 3 0 1001001 1 none), (vt 8)] [.cells [(vf 0), (vf 1), (vt 2), (vf 2), (vf 3)] false 28, .own 1001001 false 3] 4 (qwaits_0v1V s p (p1_0 ++ [p1_1]) (w64 (p1_1 + 1)) _) (qwaits_0v1E s p (p1_0 ++ [p1_1]) (w64 (p1_1 + 1)) _) (qwaits_0v1G s p (p1_0 ++ [p1_1]) (w64 (p1_1 + 1)) _) (fun _ hi S => ih _ _ _ _ hi h S))) (fun h3 h => have H := H.t 9 [.int .i64 (w64 (p1_1 + 1))] |>.r [(.bin .add (cT 1) (cI 1), (vt 8))] |>.m 7 false (decide_eq_false h3); H.k [0] [1, 2, 5, 6] [0, 1] [(vt 0), (.ptr 0 0), (.sl 1 0 1000001 1 none), (vt 8)] [.cells [(vf 0), (vf 1), (vt 2), (vf 2), (vf 3)] false 28, .own 1000001 false 3] 2 (qwaits_0v1V s p p1_0 (w64 (p1_1 + 1)) _) (qwaits_0v1E s p p1_0 (w64 (p1_1 + 1)) _) (qwaits_0v1G s p p1_0 (w64 (p1_1 + 1)) _) (fun _ hi S => ih _ _ _ _ hi h S)))) (fun h1 h => have H := H.m 4 false (bF h1); H.e [0] h)) (fun h0 h => have H := H.m 3 false (decide_eq_false h0); H.e [0] h))
def qwaits_0 : Nat → SyS → Int → Int → Option AV
  | 0, _, _, _ => none
  | fu + 1, s, p, p0 =>
    if p0 < 16 then
      if (isPortF p) = true then
        if 128 ≤ List.length s.w then if (stC s.w p0) = (w64 (8 + p)) then
          qwaits_0v1 fu s p [p0] (w64 (p0 + 1))
        else
          qwaits_0 fu s p (w64 (p0 + 1)) else none
      else
        some (.im [] true)
    else
      some (.im [] true)
def qwaits_0W : List AV := [(vt 0), (.ptr 0 0), (.im [] true), (vt 1)]
def qwaits_0C : List Blk := [.cells [(vf 0), (vf 1), (vt 2), (vf 2), (vf 3)] false 28]
def qwaits_0V (s : SyS) (p : Int) (p0 : Int) (σ : Nat → Nat) : Val := (valL ([.int .i64 p, .int .i64 p0, .bool s.bad]) ([.im (List.map eI s.w) s.bw, .im (List.map eI s.g) s.bg, .im (List.map eCo s.c) s.bc, .im (List.map eEv s.l) s.bl]) [] σ 1)
def qwaits_0X (_s : SyS) (p : Int) (p0 : Int) (σ : Nat → Nat) : List AV := [(.int .i64 p), (.ptr (σ 0) 0), (.im [] true), (.int .i64 p0)]
def qwaits_0Y (s : SyS) (_p : Int) (_p0 : Int) (_σ : Nat → Nat) : List Blk := [.cells [(.im (List.map eI s.w) s.bw), (.im (List.map eI s.g) s.bg), (.bool s.bad), (.im (List.map eCo s.c) s.bc), (.im (List.map eEv s.l) s.bl)] false 28]
theorem qwaits_0E (s : SyS) (p : Int) (p0 : Int) (σ : Nat → Nat) : qwaits_0W.map (gm (qwaits_0V s p p0 σ)) = qwaits_0X s p p0 σ := by kernel_rfl
theorem qwaits_0G (s : SyS) (p : Int) (p0 : Int) (σ : Nat → Nat) : qwaits_0C.map (gB (qwaits_0V s p p0 σ)) = qwaits_0Y s p p0 σ := by kernel_rfl
theorem qwaits_0_ok : ∀ (fu : Nat), ∀ (s : SyS) (p : Int) (p0 : Int) {r0 : AV} {z0 : St} {σ : Nat → Nat}, (∀ i j, σ i = σ j → i = j) → qwaits_0 fu s p p0 = some r0 → Sim (qwaits_0V s p p0 σ) (tmpl [1, 2, 5, 6] qwaits_0W qwaits_0C) z0 → J FF (fnOf FF 39) (cutK (fnOf FF 39) 0) (.code (.loop (cutB (fnOf FF 39) 0))) z0 r0 := by
  intro fu
  induction fu with
  | zero =>
    intro _ _ _ _ _ _ _ h _
    unfold qwaits_0 at h
    cases h
  | succ fu ih =>
    intro s p p0 r0 z0 σ hσ h S
    unfold qwaits_0 at h
    exact J_enter (have H := Tok.start hσ S 1 3 4 0 ([.int .i64 p, .int .i64 p0, .bool s.bad]) ([.im (List.map eI s.w) s.bw, .im (List.map eI s.g) s.bg, .im (List.map eCo s.c) s.bc, .im (List.map eEv s.l) s.bl]) [] (.c (OkF.im eI_ok _ _) <| .c (OkF.im eI_ok _ _) <| .c (OkF.im eCo_ok _ _) <| .c (OkF.im eEv_ok _ _) <| .n) (.n) (qwaits_0E s p p0 _) (qwaits_0G s p p0 _); have H := H.t 4 [.bool (decide (p0 < 16))] |>.r [(.bin .lss (cT 1) (cI 16), (vt 3))]; iteE h (fun h0 h => have H := H.t 5 [.bool (isPortF p)] |>.m 3 true (decide_eq_true h0) |>.s [(vt 0)] (vt 4) (isPortF_ok p); iteE h (fun h1 h => have H := H.m 4 true h1; reqE h (fun h2 h => have H := H.t 8 [.int .i64 (stC s.w p0), .int .i64 (w64 (8 + p)), .bool (decide ((stC s.w p0) = (w64 (8 + p))))] |>.r [(.bin .add (cI 8) (cT 0), (vt 6)), (.bin .eql (cT 5) (cT 6), (vt 7))] |>.s [(.agg [(vf 0), (vf 1), (vt 2), (vf 2), (vf 3)]), (vt 1)] (vt 5) (stC_ok s p0 h2); iteE h (fun h3 h => have H := H.t 9 [.int .i64 (w64 (p0 + 1))] |>.r [(.bin .add (cT 1) (cI 1), (vt 8))] |>.m 7 true (decide_eq_true h3); H.k [0] [1, 2, 5, 6] [0, 2] [(vt 0), (.ptr 0 0), (.sl 2 0 1 1 none), (vt 8)] [.cells [(vf 0), (vf 1), (vt 2), (vf 2), (vf 3)] false 28, .cells [(vt 1)] false 3] 3 (qwaits_0v1V s p [p0] (w64 (p0 + 1)) _) (qwaits_0v1E s p [p0] (w64 (p0 + 1)) _) (qwaits_0v1G s p [p0] (w64 (p0 + 1)) _) (fun _ hi S => qwaits_0v1_ok _ _ _ _ _ hi h S)) (fun h3 h => have H := H.t 9 [.int .i64 (w64 (p0 + 1))] |>.r [(.bin .add (cT 1) (cI 1), (vt 8))] |>.m 7 false (decide_eq_false h3); H.k [0] [1, 2, 5, 6] [0] [(vt 0), (.ptr 0 0), (.im [] true), (vt 8)] [.cells [(vf 0), (vf 1), (vt 2), (vf 2), (vf 3)] false 28] 1 (qwaits_0V s p (w64 (p0 + 1)) _) (qwaits_0E s p (w64 (p0 + 1)) _) (qwaits_0G s p (w64 (p0 + 1)) _) (fun _ hi S => ih _ _ _ hi h S)))) (fun h1 h => have H := H.m 4 false (bF h1); H.e [0] h)) (fun h0 h => have H := H.m 3 false (decide_eq_false h0); H.e [0] h))
def qwaits (fu : Nat) (s : SyS) (p : Int) : Option AV :=
  qwaits_0 fu s p 0
def qwaitsW : List AV := [(.agg [(vf 0), (vf 1), (vt 0), (vf 2), (vf 3)]), (vt 1)]
def qwaitsV (s : SyS) (p : Int) (σ : Nat → Nat) : Val := (valL ([.bool s.bad, .int .i64 p]) ([.im (List.map eI s.w) s.bw, .im (List.map eI s.g) s.bg, .im (List.map eCo s.c) s.bc, .im (List.map eEv s.l) s.bl]) [] σ 0)
def qwaitsX (s : SyS) (p : Int) (_σ : Nat → Nat) : List AV := [(.agg [(.im (List.map eI s.w) s.bw), (.im (List.map eI s.g) s.bg), (.bool s.bad), (.im (List.map eCo s.c) s.bc), (.im (List.map eEv s.l) s.bl)]), (.int .i64 p)]
def qwaitsY (_s : SyS) (_p : Int) (_σ : Nat → Nat) : List Blk := []
theorem qwaitsE (s : SyS) (p : Int) (σ : Nat → Nat) : qwaitsW.map (gm (qwaitsV s p σ)) = qwaitsX s p σ := by kernel_rfl
theorem qwaitsG (s : SyS) (p : Int) (σ : Nat → Nat) : ([] : List Blk).map (gB (qwaitsV s p σ)) = qwaitsY s p σ := by kernel_rfl
theorem qwaits_ok {fu : Nat} (s : SyS) (p : Int) {r0 : AV} (h : qwaits fu s p = some r0) : Spec FF 39 [(.agg [(.im (List.map eI s.w) s.bw), (.im (List.map eI s.g) s.bg), (.bool s.bad), (.im (List.map eCo s.c) s.bc), (.im (List.map eEv s.l) s.bl)]), (.int .i64 p)] r0 := by
  unfold qwaits at h
  have hσ : ∀ i j : Nat, (fun i : Nat => i) i = (fun i : Nat => i) j → i = j := fun _ _ e => e
  exact spec_begin (ρ := qwaitsV s p (fun i => i)) (xs := qwaitsW) (by kernel_rfl) rfl rfl (by kernel_rfl) (fun z0 S => have H := Tok.start hσ S 0 2 4 0 ([.bool s.bad, .int .i64 p]) ([.im (List.map eI s.w) s.bw, .im (List.map eI s.g) s.bg, .im (List.map eCo s.c) s.bc, .im (List.map eEv s.l) s.bl]) [] (.c (OkF.im eI_ok _ _) <| .c (OkF.im eI_ok _ _) <| .c (OkF.im eCo_ok _ _) <| .c (OkF.im eEv_ok _ _) <| .n) .n (qwaitsE s p _) (qwaitsG s p _); H.k [0] [1, 2, 5, 6] [0] [(vt 1), (.ptr 0 0), (.im [] true), (.int .i64 0)] [.cells [(vf 0), (vf 1), (vt 0), (vf 2), (vf 3)] false 28] 1 (qwaits_0V s p 0 _) (qwaits_0E s p 0 _) (qwaits_0G s p 0 _) (fun _ hi S => qwaits_0_ok _ _ _ _ hi h S))

end Go.Proofs.Hz
