/-
  Chapter 14: walks through functions (part a), written by a program of our own (wip/tools).
  Conditions: none.
-/
import Derived.Test.YtoonekkcjcjgmaaGreatN
open Go Go.Proofs
namespace Go.Proofs.Hz
def qnear (n : Int) : Option AV :=
  if n ≥ (-2305843009213693952) then
    some (.bool (decide (n ≤ 2305843009213693952)))
  else
    some (.bool false)
def qnearW : List AV := [(vt 0)]
def qnearV (n : Int) (σ : Nat → Nat) : Val := (valL ([.int .i64 n]) ([]) [] σ 0)
def qnearX (n : Int) (_σ : Nat → Nat) : List AV := [(.int .i64 n)]
def qnearY (_n : Int) (_σ : Nat → Nat) : List Blk := []
theorem qnearE (n : Int) (σ : Nat → Nat) : qnearW.map (gm (qnearV n σ)) = qnearX n σ := by kernel_rfl
theorem qnearG (n : Int) (σ : Nat → Nat) : ([] : List Blk).map (gB (qnearV n σ)) = qnearY n σ := by kernel_rfl
theorem qnear_ok (n : Int) {r0 : AV} (h : qnear n = some r0) : Spec FF 171 [(.int .i64 n)] r0 := by
  unfold qnear at h
  have hσ : ∀ i j : Nat, (fun i : Nat => i) i = (fun i : Nat => i) j → i = j := fun _ _ e => e
  exact spec_begin (ρ := qnearV n (fun i => i)) (xs := qnearW) (by kernel_rfl) rfl rfl (by kernel_rfl) (fun z0 S => have H := Tok.start hσ S 0 1 0 0 ([.int .i64 n]) ([]) [] (.n) .n (qnearE n _) (qnearG n _); have H := H.t 2 [.bool (decide (n ≥ (-2305843009213693952)))] |>.r [(.bin .geq (cT 0) (cI (-2305843009213693952)), (vt 1))]; iteE h (fun h0 h => have H := H.t 3 [.bool (decide (n ≤ 2305843009213693952))] |>.r [(.bin .leq (cT 0) (cI 2305843009213693952), (vt 2))] |>.m 1 true (decide_eq_true h0); H.e [] h) (fun h0 h => have H := H.m 1 false (decide_eq_false h0); H.e [] h))

def qbelow (n : Int) (m : Int) : Option AV :=
  if n ≥ 0 then
    some (.bool (decide (n < m)))
  else
    some (.bool false)
def qbelowW : List AV := [(vt 0), (vt 1)]
def qbelowV (n : Int) (m : Int) (σ : Nat → Nat) : Val := (valL ([.int .i64 n, .int .i64 m]) ([]) [] σ 0)
def qbelowX (n : Int) (m : Int) (_σ : Nat → Nat) : List AV := [(.int .i64 n), (.int .i64 m)]
def qbelowY (_n : Int) (_m : Int) (_σ : Nat → Nat) : List Blk := []
theorem qbelowE (n : Int) (m : Int) (σ : Nat → Nat) : qbelowW.map (gm (qbelowV n m σ)) = qbelowX n m σ := by kernel_rfl
theorem qbelowG (n : Int) (m : Int) (σ : Nat → Nat) : ([] : List Blk).map (gB (qbelowV n m σ)) = qbelowY n m σ := by kernel_rfl
theorem qbelow_ok (n : Int) (m : Int) {r0 : AV} (h : qbelow n m = some r0) : Spec FF 56 [(.int .i64 n), (.int .i64 m)] r0 := by
  unfold qbelow at h
  have hσ : ∀ i j : Nat, (fun i : Nat => i) i = (fun i : Nat => i) j → i = j := fun _ _ e => e
  exact spec_begin (ρ := qbelowV n m (fun i => i)) (xs := qbelowW) (by kernel_rfl) rfl rfl (by kernel_rfl) (fun z0 S => have H := Tok.start hσ S 0 2 0 0 ([.int .i64 n, .int .i64 m]) ([]) [] (.n) .n (qbelowE n m _) (qbelowG n m _); have H := H.t 3 [.bool (decide (n ≥ 0))] |>.r [(.bin .geq (cT 0) (cI 0), (vt 2))]; iteE h (fun h0 h => have H := H.t 4 [.bool (decide (n < m))] |>.r [(.bin .lss (cT 0) (cT 1), (vt 3))] |>.m 2 true (decide_eq_true h0); H.e [] h) (fun h0 h => have H := H.m 2 false (decide_eq_false h0); H.e [] h))

def qisPort (p : Int) : Option AV :=
  if p ≥ 0 then
    some (.bool (decide (p < 8)))
  else
    some (.bool false)
def qisPortW : List AV := [(vt 0)]
def qisPortV (p : Int) (σ : Nat → Nat) : Val := (valL ([.int .i64 p]) ([]) [] σ 0)
def qisPortX (p : Int) (_σ : Nat → Nat) : List AV := [(.int .i64 p)]
def qisPortY (_p : Int) (_σ : Nat → Nat) : List Blk := []
theorem qisPortE (p : Int) (σ : Nat → Nat) : qisPortW.map (gm (qisPortV p σ)) = qisPortX p σ := by kernel_rfl
theorem qisPortG (p : Int) (σ : Nat → Nat) : ([] : List Blk).map (gB (qisPortV p σ)) = qisPortY p σ := by kernel_rfl
theorem qisPort_ok (p : Int) {r0 : AV} (h : qisPort p = some r0) : Spec FF 83 [(.int .i64 p)] r0 := by
  unfold qisPort at h
  have hσ : ∀ i j : Nat, (fun i : Nat => i) i = (fun i : Nat => i) j → i = j := fun _ _ e => e
  exact spec_begin (ρ := qisPortV p (fun i => i)) (xs := qisPortW) (by kernel_rfl) rfl rfl (by kernel_rfl) (fun z0 S => have H := Tok.start hσ S 0 1 0 0 ([.int .i64 p]) ([]) [] (.n) .n (qisPortE p _) (qisPortG p _); have H := H.t 2 [.bool (decide (p ≥ 0))] |>.r [(.bin .geq (cT 0) (cI 0), (vt 1))]; iteE h (fun h0 h => have H := H.t 3 [.bool (decide (p < 8))] |>.r [(.bin .lss (cT 0) (cI 8), (vt 2))] |>.m 1 true (decide_eq_true h0); H.e [] h) (fun h0 h => have H := H.m 1 false (decide_eq_false h0); H.e [] h))

def qmodA (a : Int) : Option AV :=
  if (Int.tmod a 2097152) < 0 then
    some (.int .i64 (w64 ((Int.tmod a 2097152) + 2097152)))
  else
    some (.int .i64 (Int.tmod a 2097152))
def qmodAW : List AV := [(vt 0), (.int .i64 2097152)]
def qmodAV (a : Int) (σ : Nat → Nat) : Val := (valL ([.int .i64 a]) ([]) [] σ 0)
def qmodAX (a : Int) (_σ : Nat → Nat) : List AV := [(.int .i64 a), (.int .i64 2097152)]
def qmodAY (_a : Int) (_σ : Nat → Nat) : List Blk := []
theorem qmodAE (a : Int) (σ : Nat → Nat) : qmodAW.map (gm (qmodAV a σ)) = qmodAX a σ := by kernel_rfl
theorem qmodAG (a : Int) (σ : Nat → Nat) : ([] : List Blk).map (gB (qmodAV a σ)) = qmodAY a σ := by kernel_rfl
theorem qmodA_ok (a : Int) {r0 : AV} (h : qmodA a = some r0) : Spec FF 111 [(.int .i64 a), (.int .i64 2097152)] r0 := by
  unfold qmodA at h
  have hσ : ∀ i j : Nat, (fun i : Nat => i) i = (fun i : Nat => i) j → i = j := fun _ _ e => e
  exact spec_begin (ρ := qmodAV a (fun i => i)) (xs := qmodAW) (by kernel_rfl) rfl rfl (by kernel_rfl) (fun z0 S => have H := Tok.start hσ S 0 1 0 0 ([.int .i64 a]) ([]) [] (.n) .n (qmodAE a _) (qmodAG a _); have H := H.t 3 [.int .i64 (Int.tmod a 2097152), .bool (decide ((Int.tmod a 2097152) < 0))] |>.r [(.bin .lss (cT 1) (cI 0), (vt 2))] |>.c (p := (.bin .rem (cT 0) (cI 2097152), (vt 1))) (fun _ _ _ => fRem (k := .i64) (a := a) (b := 2097152) (by kernel_rfl) (by kernel_rfl) (by decide) (by kernel_rfl)); iteE h (fun h0 h => have H := H.t 4 [.int .i64 (w64 ((Int.tmod a 2097152) + 2097152))] |>.r [(.bin .add (cT 1) (cI 2097152), (vt 3))] |>.m 2 true (decide_eq_true h0); H.e [] h) (fun h0 h => have H := H.m 2 false (decide_eq_false h0); H.e [] h))

def qcut1 (w : Int) : Option AV :=
  some (.int .i64 (bvT .and .i64 (shT .shr .i64 w 1) 1048575))
def qcut1W : List AV := [(vt 0), (.int .i64 1)]
def qcut1V (w : Int) (σ : Nat → Nat) : Val := (valL ([.int .i64 w]) ([]) [] σ 0)
def qcut1X (w : Int) (_σ : Nat → Nat) : List AV := [(.int .i64 w), (.int .i64 1)]
def qcut1Y (_w : Int) (_σ : Nat → Nat) : List Blk := []
theorem qcut1E (w : Int) (σ : Nat → Nat) : qcut1W.map (gm (qcut1V w σ)) = qcut1X w σ := by kernel_rfl
theorem qcut1G (w : Int) (σ : Nat → Nat) : ([] : List Blk).map (gB (qcut1V w σ)) = qcut1Y w σ := by kernel_rfl
theorem qcut1_ok (w : Int) {r0 : AV} (h : qcut1 w = some r0) : Spec FF 110 [(.int .i64 w), (.int .i64 1)] r0 := by
  unfold qcut1 at h
  have hσ : ∀ i j : Nat, (fun i : Nat => i) i = (fun i : Nat => i) j → i = j := fun _ _ e => e
  exact spec_begin (ρ := qcut1V w (fun i => i)) (xs := qcut1W) (by kernel_rfl) rfl rfl (by kernel_rfl) (fun z0 S => have H := Tok.start hσ S 0 1 0 0 ([.int .i64 w]) ([]) [] (.n) .n (qcut1E w _) (qcut1G w _); have H := H.t 3 [.int .i64 (shT .shr .i64 w 1), .int .i64 (bvT .and .i64 (shT .shr .i64 w 1) 1048575)] |>.s [(.int .i64 1)] (.int .i64 1) (show Spec FF 173 [(.int .i64 1)] (.int .i64 1) from ⟨80, by kernel_rfl⟩) |>.c (p := (.bin .shr (cT 0) (cI 1), (vt 1))) (fun _ _ _ => fSh (k := .i64) (k' := .i64) (a := w) (b := 1) (by simp) (by kernel_rfl) (by kernel_rfl) (by decide) (by kernel_rfl)) |>.s [] (.agg [(.int .i64 1), (.int .i64 20), (.int .i64 40)]) (show Spec FF 172 [] (.agg [(.int .i64 1), (.int .i64 20), (.int .i64 40)]) from ⟨80, by kernel_rfl⟩) |>.c (p := (.bin .and (cT 1) (cI 1048575), (vt 2))) (fun _ _ _ => fBv (k := .i64) (a := (shT .shr .i64 w 1)) (b := 1048575) (by simp) (by kernel_rfl) (by kernel_rfl) (by kernel_rfl)); H.e [] h)

def qsmall2 (w : List Int) (_bw : Bool) (g : List Int) (_bg : Bool) (_bad : Bool) : Option AV :=
  if (List.length g : Int) ≤ 61 then
    some (.bool (decide ((List.length w : Int) ≤ 368)))
  else
    some (.bool false)
def qsmall2W : List AV := [(.agg [(vf 0), (vf 1), (vt 0)]), (.int .i64 60)]
def qsmall2V (w : List Int) (bw : Bool) (g : List Int) (bg : Bool) (bad : Bool) (σ : Nat → Nat) : Val := (valL ([.bool bad]) ([.im (List.map eI w) bw, .im (List.map eI g) bg]) [] σ 0)
def qsmall2X (w : List Int) (bw : Bool) (g : List Int) (bg : Bool) (bad : Bool) (_σ : Nat → Nat) : List AV := [(.agg [(.im (List.map eI w) bw), (.im (List.map eI g) bg), (.bool bad)]), (.int .i64 60)]
def qsmall2Y (_w : List Int) (_bw : Bool) (_g : List Int) (_bg : Bool) (_bad : Bool) (_σ : Nat → Nat) : List Blk := []
theorem qsmall2E (w : List Int) (bw : Bool) (g : List Int) (bg : Bool) (bad : Bool) (σ : Nat → Nat) : qsmall2W.map (gm (qsmall2V w bw g bg bad σ)) = qsmall2X w bw g bg bad σ := by kernel_rfl
theorem qsmall2G (w : List Int) (bw : Bool) (g : List Int) (bg : Bool) (bad : Bool) (σ : Nat → Nat) : ([] : List Blk).map (gB (qsmall2V w bw g bg bad σ)) = qsmall2Y w bw g bg bad σ := by kernel_rfl
theorem qsmall2_ok (w : List Int) (bw : Bool) (g : List Int) (bg : Bool) (bad : Bool) {r0 : AV} (h : qsmall2 w bw g bg bad = some r0) : Spec FF 101 [(.agg [(.im (List.map eI w) bw), (.im (List.map eI g) bg), (.bool bad)]), (.int .i64 60)] r0 := by
  unfold qsmall2 at h
  have hσ : ∀ i j : Nat, (fun i : Nat => i) i = (fun i : Nat => i) j → i = j := fun _ _ e => e
  exact spec_begin (ρ := qsmall2V w bw g bg bad (fun i => i)) (xs := qsmall2W) (by kernel_rfl) rfl rfl (by kernel_rfl) (fun z0 S => have H := Tok.start hσ S 0 1 2 0 ([.bool bad]) ([.im (List.map eI w) bw, .im (List.map eI g) bg]) [] (.c (OkF.im eI_ok _ _) <| .c (OkF.im eI_ok _ _) <| .n) .n (qsmall2E w bw g bg bad _) (qsmall2G w bw g bg bad _); have H := H.t 3 [.int .i64 (List.length g : Int), .bool (decide ((List.length g : Int) ≤ 61))] |>.r [(.bin .leq (cT 1) (cI 61), (vt 2))] |>.c (p := (.len 0 (cF 1), (vt 1))) (fun _ _ _ => fLen (e := eI) (l := g) (b := bg) (by kernel_rfl) (by kernel_rfl)); iteE h (fun h0 h => have H := H.t 5 [.int .i64 (List.length w : Int), .bool (decide ((List.length w : Int) ≤ 368))] |>.r [(.bin .leq (cT 3) (cI 368), (vt 4))] |>.m 2 true (decide_eq_true h0) |>.c (p := (.len 0 (cF 0), (vt 3))) (fun _ _ _ => fLen (e := eI) (l := w) (b := bw) (by kernel_rfl) (by kernel_rfl)); H.e [] h) (fun h0 h => have H := H.m 2 false (decide_eq_false h0); H.e [] h))

def qright2_0 : Nat → List Int → Bool → List Int → Bool → Bool → Int → Option AV
  | 0, _, _, _, _, _, _ => none
  | fu + 1, w, bw, g, bg, bad, p0 =>
    if p0 ≤ (w64 ((List.length g : Int) - 1)) then
      if 0 ≤ p0 then Option.bind (g[Int.toNat p0]?) fun x2 =>
      if x2 < 0 then
        some (.bool false)
      else
        if x2 > 2 then
          some (.bool false)
        else
          qright2_0 fu w bw g bg bad (w64 (p0 + 1)) else none
    else
      some (.bool true)
def qright2_0W : List AV := [(.ptr 0 0), (vt 0), (vt 1)]
def qright2_0C : List Blk := [.cells [(vf 0), (vf 1), (vt 2)] false 24]
def qright2_0V (w : List Int) (bw : Bool) (g : List Int) (bg : Bool) (bad : Bool) (p0 : Int) (σ : Nat → Nat) : Val := (valL ([.int .i64 (w64 ((List.length g : Int) - 1)), .int .i64 p0, .bool bad]) ([.im (List.map eI w) bw, .im (List.map eI g) bg]) [] σ 1)
def qright2_0X (_w : List Int) (_bw : Bool) (g : List Int) (_bg : Bool) (_bad : Bool) (p0 : Int) (σ : Nat → Nat) : List AV := [(.ptr (σ 0) 0), (.int .i64 (w64 ((List.length g : Int) - 1))), (.int .i64 p0)]
def qright2_0Y (w : List Int) (bw : Bool) (g : List Int) (bg : Bool) (bad : Bool) (_p0 : Int) (_σ : Nat → Nat) : List Blk := [.cells [(.im (List.map eI w) bw), (.im (List.map eI g) bg), (.bool bad)] false 24]
theorem qright2_0E (w : List Int) (bw : Bool) (g : List Int) (bg : Bool) (bad : Bool) (p0 : Int) (σ : Nat → Nat) : qright2_0W.map (gm (qright2_0V w bw g bg bad p0 σ)) = qright2_0X w bw g bg bad p0 σ := by kernel_rfl
theorem qright2_0G (w : List Int) (bw : Bool) (g : List Int) (bg : Bool) (bad : Bool) (p0 : Int) (σ : Nat → Nat) : qright2_0C.map (gB (qright2_0V w bw g bg bad p0 σ)) = qright2_0Y w bw g bg bad p0 σ := by kernel_rfl
theorem qright2_0_ok : ∀ (fu : Nat), ∀ (w : List Int) (bw : Bool) (g : List Int) (bg : Bool) (bad : Bool) (p0 : Int) {r0 : AV} {z0 : St} {σ : Nat → Nat}, (∀ i j, σ i = σ j → i = j) → qright2_0 fu w bw g bg bad p0 = some r0 → Sim (qright2_0V w bw g bg bad p0 σ) (tmpl [1, 3, 4] qright2_0W qright2_0C) z0 → J FF (fnOf FF 102) (cutK (fnOf FF 102) 0) (.code (.loop (cutB (fnOf FF 102) 0))) z0 r0 := by
  intro fu
  induction fu with
  | zero =>
    intro _ _ _ _ _ _ _ _ _ _ h _
    unfold qright2_0 at h
    cases h
  | succ fu ih =>
    intro w bw g bg bad p0 r0 z0 σ hσ h S
    unfold qright2_0 at h
    exact J_enter (have H := Tok.start hσ S 1 3 2 0 ([.int .i64 (w64 ((List.length g : Int) - 1)), .int .i64 p0, .bool bad]) ([.im (List.map eI w) bw, .im (List.map eI g) bg]) [] (.c (OkF.im eI_ok _ _) <| .c (OkF.im eI_ok _ _) <| .n) (.n) (qright2_0E w bw g bg bad p0 _) (qright2_0G w bw g bg bad p0 _); have H := H.t 4 [.bool (decide (p0 ≤ (w64 ((List.length g : Int) - 1))))] |>.r [(.bin .leq (cT 1) (cT 0), (vt 3))]; iteE h (fun h0 h => have H := H.m 3 true (decide_eq_true h0); reqE h (fun h1 h => bindE h (fun x2 h2 h => have H := H.t 6 [.int .i64 x2, .bool (decide (x2 < 0))] |>.r [(.bin .lss (cT 4) (cI 0), (vt 5))] |>.c (p := (.iaS 1 (cF 1) (cT 1), (.ip [(vt 4)] 0))) (fun _ _ _ => fIa (sz := 1) (e := eI) (l := g) (b := bg) (k := .i64) (n := p0) (y := x2) eI_ok (by kernel_rfl) (by kernel_rfl) h1 h2 (by kernel_rfl)); iteE h (fun h3 h => have H := H.m 5 true (decide_eq_true h3); H.e [0] h) (fun h3 h => have H := H.t 7 [.bool (decide (x2 > 2))] |>.r [(.bin .gtr (cT 4) (cI 2), (vt 6))] |>.m 5 false (decide_eq_false h3); iteE h (fun h4 h => have H := H.m 6 true (decide_eq_true h4); H.e [0] h) (fun h4 h => have H := H.t 8 [.int .i64 (w64 (p0 + 1))] |>.r [(.bin .add (cT 1) (cI 1), (vt 7))] |>.m 6 false (decide_eq_false h4); H.k [0] [1, 3, 4] [0] [(.ptr 0 0), (vt 0), (vt 7)] [.cells [(vf 0), (vf 1), (vt 2)] false 24] 1 (qright2_0V w bw g bg bad (w64 (p0 + 1)) _) (qright2_0E w bw g bg bad (w64 (p0 + 1)) _) (qright2_0G w bw g bg bad (w64 (p0 + 1)) _) (fun _ hi S => ih _ _ _ _ _ _ hi h S)))))) (fun h0 h => have H := H.m 3 false (decide_eq_false h0); H.e [0] h))
def qright2 (fu : Nat) (w : List Int) (bw : Bool) (g : List Int) (bg : Bool) (bad : Bool) : Option AV :=
  if (w64 ((List.length g : Int) - 1)) < 1 then
    some (.bool false)
  else
    if (w64 ((List.length g : Int) - 1)) > 200 then
      some (.bool false)
    else
      if (List.length w : Int) = (w64 (128 + (w64 (4 * (w64 ((List.length g : Int) - 1)))))) then
        Option.bind (g[Int.toNat 0]?) fun x3 =>
        if x3 = 0 then
          qright2_0 fu w bw g bg bad 0
        else
          some (.bool false)
      else
        some (.bool false)
def qright2W : List AV := [(.agg [(vf 0), (vf 1), (vt 0)])]
def qright2V (w : List Int) (bw : Bool) (g : List Int) (bg : Bool) (bad : Bool) (σ : Nat → Nat) : Val := (valL ([.bool bad]) ([.im (List.map eI w) bw, .im (List.map eI g) bg]) [] σ 0)
def qright2X (w : List Int) (bw : Bool) (g : List Int) (bg : Bool) (bad : Bool) (_σ : Nat → Nat) : List AV := [(.agg [(.im (List.map eI w) bw), (.im (List.map eI g) bg), (.bool bad)])]
def qright2Y (_w : List Int) (_bw : Bool) (_g : List Int) (_bg : Bool) (_bad : Bool) (_σ : Nat → Nat) : List Blk := []
theorem qright2E (w : List Int) (bw : Bool) (g : List Int) (bg : Bool) (bad : Bool) (σ : Nat → Nat) : qright2W.map (gm (qright2V w bw g bg bad σ)) = qright2X w bw g bg bad σ := by kernel_rfl
theorem qright2G (w : List Int) (bw : Bool) (g : List Int) (bg : Bool) (bad : Bool) (σ : Nat → Nat) : ([] : List Blk).map (gB (qright2V w bw g bg bad σ)) = qright2Y w bw g bg bad σ := by kernel_rfl
theorem qright2_ok {fu : Nat} (w : List Int) (bw : Bool) (g : List Int) (bg : Bool) (bad : Bool) {r0 : AV} (h : qright2 fu w bw g bg bad = some r0) : Spec FF 102 [(.agg [(.im (List.map eI w) bw), (.im (List.map eI g) bg), (.bool bad)])] r0 := by
  unfold qright2 at h
  have hσ : ∀ i j : Nat, (fun i : Nat => i) i = (fun i : Nat => i) j → i = j := fun _ _ e => e
  exact spec_begin (ρ := qright2V w bw g bg bad (fun i => i)) (xs := qright2W) (by kernel_rfl) rfl rfl (by kernel_rfl) (fun z0 S => have H := Tok.start hσ S 0 1 2 0 ([.bool bad]) ([.im (List.map eI w) bw, .im (List.map eI g) bg]) [] (.c (OkF.im eI_ok _ _) <| .c (OkF.im eI_ok _ _) <| .n) .n (qright2E w bw g bg bad _) (qright2G w bw g bg bad _); have H := H.t 4 [.int .i64 (List.length g : Int), .int .i64 (w64 ((List.length g : Int) - 1)), .bool (decide ((w64 ((List.length g : Int) - 1)) < 1))] |>.r [(.bin .sub (cT 1) (cI 1), (vt 2)), (.bin .lss (cT 2) (cI 1), (vt 3))] |>.c (p := (.len 0 (cF 1), (vt 1))) (fun _ _ _ => fLen (e := eI) (l := g) (b := bg) (by kernel_rfl) (by kernel_rfl)); iteE h (fun h0 h => have H := H.m 3 true (decide_eq_true h0); H.e [0] h) (fun h0 h => have H := H.t 5 [.bool (decide ((w64 ((List.length g : Int) - 1)) > 200))] |>.r [(.bin .gtr (cT 2) (cI 200), (vt 4))] |>.m 3 false (decide_eq_false h0); iteE h (fun h1 h => have H := H.m 4 true (decide_eq_true h1); H.e [0] h) (fun h1 h => have H := H.t 9 [.int .i64 (List.length w : Int), .int .i64 (w64 (4 * (w64 ((List.length g : Int) - 1)))), .int .i64 (w64 (128 + (w64 (4 * (w64 ((List.length g : Int) - 1)))))), .bool (!decide ((List.length w : Int) = (w64 (128 + (w64 (4 * (w64 ((List.length g : Int) - 1))))))))] |>.r [(.bin .mul (cI 4) (cT 2), (vt 6)), (.bin .add (cI 128) (cT 6), (vt 7)), (.bin .neq (cT 5) (cT 7), (vt 8))] |>.m 4 false (decide_eq_false h1) |>.c (p := (.len 0 (cF 0), (vt 5))) (fun _ _ _ => fLen (e := eI) (l := w) (b := bw) (by kernel_rfl) (by kernel_rfl)); iteE h (fun h2 h => have H := H.m 8 false (nT h2); bindE h (fun x3 h3 h => have H := H.t 11 [.int .i64 x3, .bool (!decide (x3 = 0))] |>.r [(.bin .neq (cT 9) (cI 0), (vt 10))] |>.c (p := (.iaS 1 (cF 1) (cI 0), (.ip [(vt 9)] 0))) (fun _ _ _ => fIa (sz := 1) (e := eI) (l := g) (b := bg) (k := .i64) (n := 0) (y := x3) eI_ok (by kernel_rfl) (by kernel_rfl) (by decide) h3 (by kernel_rfl)); iteE h (fun h4 h => have H := H.m 10 false (nT h4); H.k [0] [1, 3, 4] [0] [(.ptr 0 0), (vt 2), (.int .i64 0)] [.cells [(vf 0), (vf 1), (vt 0)] false 24] 1 (qright2_0V w bw g bg bad 0 _) (qright2_0E w bw g bg bad 0 _) (qright2_0G w bw g bg bad 0 _) (fun _ hi S => qright2_0_ok _ _ _ _ _ _ _ hi h S)) (fun h4 h => have H := H.m 10 true (nF h4); H.e [0] h))) (fun h2 h => have H := H.m 8 true (nF h2); H.e [0] h))))

def qin_0 : Nat → List Int → Bool → Int → Int → Option AV
  | 0, _, _, _, _ => none
  | fu + 1, l, bl, n, p0 =>
    if p0 < (List.length l : Int) then
      if 0 ≤ p0 then Option.bind (l[Int.toNat p0]?) fun x2 =>
      if x2 = n then
        some (.bool true)
      else
        qin_0 fu l bl n (w64 (p0 + 1)) else none
    else
      some (.bool false)
def qin_0W : List AV := [(vf 0), (vt 0), (vt 1)]
def qin_0C : List Blk := []
def qin_0V (l : List Int) (bl : Bool) (n : Int) (p0 : Int) (σ : Nat → Nat) : Val := (valL ([.int .i64 n, .int .i64 p0]) ([.im (List.map eI l) bl]) [] σ 0)
def qin_0X (l : List Int) (bl : Bool) (n : Int) (p0 : Int) (_σ : Nat → Nat) : List AV := [(.im (List.map eI l) bl), (.int .i64 n), (.int .i64 p0)]
def qin_0Y (_l : List Int) (_bl : Bool) (_n : Int) (_p0 : Int) (_σ : Nat → Nat) : List Blk := []
theorem qin_0E (l : List Int) (bl : Bool) (n : Int) (p0 : Int) (σ : Nat → Nat) : qin_0W.map (gm (qin_0V l bl n p0 σ)) = qin_0X l bl n p0 σ := by kernel_rfl
theorem qin_0G (l : List Int) (bl : Bool) (n : Int) (p0 : Int) (σ : Nat → Nat) : qin_0C.map (gB (qin_0V l bl n p0 σ)) = qin_0Y l bl n p0 σ := by kernel_rfl
theorem qin_0_ok : ∀ (fu : Nat), ∀ (l : List Int) (bl : Bool) (n : Int) (p0 : Int) {r0 : AV} {z0 : St} {σ : Nat → Nat}, (∀ i j, σ i = σ j → i = j) → qin_0 fu l bl n p0 = some r0 → Sim (qin_0V l bl n p0 σ) (tmpl [0, 1, 5] qin_0W qin_0C) z0 → J FF (fnOf FF 36) (cutK (fnOf FF 36) 0) (.code (.loop (cutB (fnOf FF 36) 0))) z0 r0 := by
  intro fu
  induction fu with
  | zero =>
    intro _ _ _ _ _ _ _ _ h _
    unfold qin_0 at h
    cases h
  | succ fu ih =>
    intro l bl n p0 r0 z0 σ hσ h S
    unfold qin_0 at h
    exact J_enter (have H := Tok.start hσ S 0 2 1 0 ([.int .i64 n, .int .i64 p0]) ([.im (List.map eI l) bl]) [] (.c (OkF.im eI_ok _ _) <| .n) (.n) (qin_0E l bl n p0 _) (qin_0G l bl n p0 _); have H := H.t 4 [.int .i64 (List.length l : Int), .bool (decide (p0 < (List.length l : Int)))] |>.r [(.bin .lss (cT 1) (cT 2), (vt 3))] |>.c (p := (.len 0 (cF 0), (vt 2))) (fun _ _ _ => fLen (e := eI) (l := l) (b := bl) (by kernel_rfl) (by kernel_rfl)); iteE h (fun h0 h => have H := H.m 3 true (decide_eq_true h0); reqE h (fun h1 h => bindE h (fun x2 h2 h => have H := H.t 6 [.int .i64 x2, .bool (decide (x2 = n))] |>.r [(.bin .eql (cT 4) (cT 0), (vt 5))] |>.c (p := (.iaS 1 (cF 0) (cT 1), (.ip [(vt 4)] 0))) (fun _ _ _ => fIa (sz := 1) (e := eI) (l := l) (b := bl) (k := .i64) (n := p0) (y := x2) eI_ok (by kernel_rfl) (by kernel_rfl) h1 h2 (by kernel_rfl)); iteE h (fun h3 h => have H := H.m 5 true (decide_eq_true h3); H.e [0] h) (fun h3 h => have H := H.t 7 [.int .i64 (w64 (p0 + 1))] |>.r [(.bin .add (cT 1) (cI 1), (vt 6))] |>.m 5 false (decide_eq_false h3); H.k [0] [0, 1, 5] [] [(vf 0), (vt 0), (vt 6)] [] 0 (qin_0V l bl n (w64 (p0 + 1)) _) (qin_0E l bl n (w64 (p0 + 1)) _) (qin_0G l bl n (w64 (p0 + 1)) _) (fun _ hi S => ih _ _ _ _ hi h S))))) (fun h0 h => have H := H.m 3 false (decide_eq_false h0); H.e [0] h))
def qin (fu : Nat) (l : List Int) (bl : Bool) (n : Int) : Option AV :=
  qin_0 fu l bl n 0
def qinW : List AV := [(vf 0), (vt 0)]
def qinV (l : List Int) (bl : Bool) (n : Int) (σ : Nat → Nat) : Val := (valL ([.int .i64 n]) ([.im (List.map eI l) bl]) [] σ 0)
def qinX (l : List Int) (bl : Bool) (n : Int) (_σ : Nat → Nat) : List AV := [(.im (List.map eI l) bl), (.int .i64 n)]
def qinY (_l : List Int) (_bl : Bool) (_n : Int) (_σ : Nat → Nat) : List Blk := []
theorem qinE (l : List Int) (bl : Bool) (n : Int) (σ : Nat → Nat) : qinW.map (gm (qinV l bl n σ)) = qinX l bl n σ := by kernel_rfl
theorem qinG (l : List Int) (bl : Bool) (n : Int) (σ : Nat → Nat) : ([] : List Blk).map (gB (qinV l bl n σ)) = qinY l bl n σ := by kernel_rfl
theorem qin_ok {fu : Nat} (l : List Int) (bl : Bool) (n : Int) {r0 : AV} (h : qin fu l bl n = some r0) : Spec FF 36 [(.im (List.map eI l) bl), (.int .i64 n)] r0 := by
  unfold qin at h
  have hσ : ∀ i j : Nat, (fun i : Nat => i) i = (fun i : Nat => i) j → i = j := fun _ _ e => e
  exact spec_begin (ρ := qinV l bl n (fun i => i)) (xs := qinW) (by kernel_rfl) rfl rfl (by kernel_rfl) (fun z0 S => have H := Tok.start hσ S 0 1 1 0 ([.int .i64 n]) ([.im (List.map eI l) bl]) [] (.c (OkF.im eI_ok _ _) <| .n) .n (qinE l bl n _) (qinG l bl n _); H.k [0] [0, 1, 5] [] [(vf 0), (vt 0), (.int .i64 0)] [] 0 (qin_0V l bl n 0 _) (qin_0E l bl n 0 _) (qin_0G l bl n 0 _) (fun _ hi S => qin_0_ok _ _ _ _ _ hi h S))

end Go.Proofs.Hz
