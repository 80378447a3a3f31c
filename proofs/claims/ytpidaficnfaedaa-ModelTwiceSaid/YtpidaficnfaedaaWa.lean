/-
  Chapter 17: walks through functions (part a), written by a program of our own (wip/tools).
  Conditions: none.
-/
import Derived.Test.YtpidaficnfaedaaN
open Go Go.Proofs
namespace Go.Proofs.Hz
def f45 (x : Int) : Option AV :=
  some (.bool (!decide (x = x)))
def f45W : List AV := [(vt 0)]
def f45V (x : Int) (σ : Nat → Nat) : Val := (valL ([.int .i64 x]) ([]) [] σ 0)
def f45X (x : Int) (_σ : Nat → Nat) : List AV := [(.int .i64 x)]
def f45Y (_x : Int) (_σ : Nat → Nat) : List Blk := []
theorem f45E (x : Int) (σ : Nat → Nat) : f45W.map (gm (f45V x σ)) = f45X x σ := by kernel_rfl
theorem f45G (x : Int) (σ : Nat → Nat) : ([] : List Blk).map (gB (f45V x σ)) = f45Y x σ := by kernel_rfl
theorem f45_ok (x : Int) {r0 : AV} (h : f45 x = some r0) : Spec FF 45 [(.int .i64 x)] r0 := by
  unfold f45 at h
  have hσ : ∀ i j : Nat, (fun i : Nat => i) i = (fun i : Nat => i) j → i = j := fun _ _ e => e
  exact spec_begin (ρ := f45V x (fun i => i)) (xs := f45W) (by kernel_rfl) rfl rfl (by kernel_rfl) (fun z0 S => have H := Tok.start hσ S 0 1 0 0 ([.int .i64 x]) ([]) [] (.n) .n (f45E x _) (f45G x _); have H := H.t 2 [.bool (!decide (x = x))] |>.r [(.bin .neq (cT 0) (cT 0), (vt 1))]; H.e [] h)

def f51 (x : Int) : Option AV :=
  some (.bool (!decide (x = x)))
def f51W : List AV := [(vt 0)]
def f51V (x : Int) (σ : Nat → Nat) : Val := (valL ([.int .i64 x]) ([]) [] σ 0)
def f51X (x : Int) (_σ : Nat → Nat) : List AV := [(.int .i64 x)]
def f51Y (_x : Int) (_σ : Nat → Nat) : List Blk := []
theorem f51E (x : Int) (σ : Nat → Nat) : f51W.map (gm (f51V x σ)) = f51X x σ := by kernel_rfl
theorem f51G (x : Int) (σ : Nat → Nat) : ([] : List Blk).map (gB (f51V x σ)) = f51Y x σ := by kernel_rfl
theorem f51_ok (x : Int) {r0 : AV} (h : f51 x = some r0) : Spec FF 51 [(.int .i64 x)] r0 := by
  unfold f51 at h
  have hσ : ∀ i j : Nat, (fun i : Nat => i) i = (fun i : Nat => i) j → i = j := fun _ _ e => e
  exact spec_begin (ρ := f51V x (fun i => i)) (xs := f51W) (by kernel_rfl) rfl rfl (by kernel_rfl) (fun z0 S => have H := Tok.start hσ S 0 1 0 0 ([.int .i64 x]) ([]) [] (.n) .n (f51E x _) (f51G x _); have H := H.t 2 [.bool (!decide (x = x))] |>.r [(.bin .neq (cT 0) (cT 0), (vt 1))]; H.e [] h)

def f37 (n : Int) (most : Int) : Option AV :=
  if n ≥ 0 then
    some (.bool (decide (n < most)))
  else
    some (.bool false)
def f37W : List AV := [(vt 0), (vt 1)]
def f37V (n : Int) (most : Int) (σ : Nat → Nat) : Val := (valL ([.int .i64 n, .int .i64 most]) ([]) [] σ 0)
def f37X (n : Int) (most : Int) (_σ : Nat → Nat) : List AV := [(.int .i64 n), (.int .i64 most)]
def f37Y (_n : Int) (_most : Int) (_σ : Nat → Nat) : List Blk := []
theorem f37E (n : Int) (most : Int) (σ : Nat → Nat) : f37W.map (gm (f37V n most σ)) = f37X n most σ := by kernel_rfl
theorem f37G (n : Int) (most : Int) (σ : Nat → Nat) : ([] : List Blk).map (gB (f37V n most σ)) = f37Y n most σ := by kernel_rfl
theorem f37_ok (n : Int) (most : Int) {r0 : AV} (h : f37 n most = some r0) : Spec FF 37 [(.int .i64 n), (.int .i64 most)] r0 := by
  unfold f37 at h
  have hσ : ∀ i j : Nat, (fun i : Nat => i) i = (fun i : Nat => i) j → i = j := fun _ _ e => e
  exact spec_begin (ρ := f37V n most (fun i => i)) (xs := f37W) (by kernel_rfl) rfl rfl (by kernel_rfl) (fun z0 S => have H := Tok.start hσ S 0 2 0 0 ([.int .i64 n, .int .i64 most]) ([]) [] (.n) .n (f37E n most _) (f37G n most _); have H := H.t 3 [.bool (decide (n ≥ 0))] |>.r [(.bin .geq (cT 0) (cI 0), (vt 2))]; iteE h (fun h0 h => have H := H.t 4 [.bool (decide (n < most))] |>.r [(.bin .lss (cT 0) (cT 1), (vt 3))] |>.m 2 true (decide_eq_true h0); H.e [] h) (fun h0 h => have H := H.m 2 false (decide_eq_false h0); H.e [] h))

def f29 (l : List Int) (_bl : Bool) : Option AV :=
  some (.im (List.map eI l) true)
def f29W : List AV := [(vf 0)]
def f29V (l : List Int) (bl : Bool) (σ : Nat → Nat) : Val := (valL ([]) ([.im (List.map eI l) bl]) [] σ 0)
def f29X (l : List Int) (bl : Bool) (_σ : Nat → Nat) : List AV := [(.im (List.map eI l) bl)]
def f29Y (_l : List Int) (_bl : Bool) (_σ : Nat → Nat) : List Blk := []
theorem f29E (l : List Int) (bl : Bool) (σ : Nat → Nat) : f29W.map (gm (f29V l bl σ)) = f29X l bl σ := by kernel_rfl
theorem f29G (l : List Int) (bl : Bool) (σ : Nat → Nat) : ([] : List Blk).map (gB (f29V l bl σ)) = f29Y l bl σ := by kernel_rfl
theorem f29_ok (l : List Int) (bl : Bool) {r0 : AV} (h : f29 l bl = some r0) : Spec FF 29 [(.im (List.map eI l) bl)] r0 := by
  unfold f29 at h
  have hσ : ∀ i j : Nat, (fun i : Nat => i) i = (fun i : Nat => i) j → i = j := fun _ _ e => e
  exact spec_begin (ρ := f29V l bl (fun i => i)) (xs := f29W) (by kernel_rfl) rfl rfl (by kernel_rfl) (fun z0 S => have H := Tok.start hσ S 0 0 1 0 ([]) ([.im (List.map eI l) bl]) [] (.c (OkF.im eI_ok _ _) <| .n) .n (f29E l bl _) (f29G l bl _); have H := H.t 1 [.int .i64 (List.length l : Int)] |>.f 2 [.im (List.map eI l) true] (.c (OkF.im eI_ok _ _) <| .n) |>.c (p := (.len 0 (cF 0), (vt 0))) (fun _ _ _ => fLen (e := eI) (l := l) (b := bl) (by kernel_rfl) (by kernel_rfl)) |>.c (p := (.slS 1 (cF 0) none (some (cT 0)) (some (cT 0)), (vf 1))) (fun _ _ _ => fSl (sz := 1) (e := eI) (l := l) (l' := l) (b := bl) (b' := true) (lo := none) (hi := (some ((vt 0), ((List.length l : Int) : Int)))) (mx := (some ((vt 0), ((List.length l : Int) : Int)))) eI_ok (by kernel_rfl) trivial ⟨.i64, by kernel_rfl⟩ ⟨.i64, by kernel_rfl⟩ (by simp [optN]) (by simp) (by simp [optN]) (by simp [optN]) (by kernel_rfl)); H.e [] h)

def f33_0 : Nat → List Int → Bool → List Int → Bool → Int → Option AV
  | 0, _, _, _, _, _ => none
  | fu + 1, l, bl, m, bm, p0 =>
    if p0 < (List.length l : Int) then
      if 0 ≤ p0 then Option.bind (l[Int.toNat p0]?) fun x2 =>
      Option.bind (m[Int.toNat p0]?) fun x3 =>
      if x2 = x3 then
        f33_0 fu l bl m bm (w64 (p0 + 1))
      else
        some (.bool false) else none
    else
      some (.bool true)
def f33_0W : List AV := [(vf 0), (vf 1), (vt 0)]
def f33_0C : List Blk := []
def f33_0V (l : List Int) (bl : Bool) (m : List Int) (bm : Bool) (p0 : Int) (σ : Nat → Nat) : Val := (valL ([.int .i64 p0]) ([.im (List.map eI l) bl, .im (List.map eI m) bm]) [] σ 0)
def f33_0X (l : List Int) (bl : Bool) (m : List Int) (bm : Bool) (p0 : Int) (_σ : Nat → Nat) : List AV := [(.im (List.map eI l) bl), (.im (List.map eI m) bm), (.int .i64 p0)]
def f33_0Y (_l : List Int) (_bl : Bool) (_m : List Int) (_bm : Bool) (_p0 : Int) (_σ : Nat → Nat) : List Blk := []
theorem f33_0E (l : List Int) (bl : Bool) (m : List Int) (bm : Bool) (p0 : Int) (σ : Nat → Nat) : f33_0W.map (gm (f33_0V l bl m bm p0 σ)) = f33_0X l bl m bm p0 σ := by kernel_rfl
theorem f33_0G (l : List Int) (bl : Bool) (m : List Int) (bm : Bool) (p0 : Int) (σ : Nat → Nat) : f33_0C.map (gB (f33_0V l bl m bm p0 σ)) = f33_0Y l bl m bm p0 σ := by kernel_rfl
theorem f33_0_ok : ∀ (fu : Nat) (l : List Int) (bl : Bool) (m : List Int) (bm : Bool) (p0 : Int) {r0 : AV} {z0 : St} {σ : Nat → Nat}, (∀ i j, σ i = σ j → i = j) → f33_0 fu l bl m bm p0 = some r0 → Sim (f33_0V l bl m bm p0 σ) (tmpl [0, 1, 5] f33_0W f33_0C) z0 → J FF (fnOf FF 33) (cutK (fnOf FF 33) 0) (.code (.loop (cutB (fnOf FF 33) 0))) z0 r0 := by
  intro fu
  induction fu with
  | zero =>
    intro _ _ _ _ _ _ _ _ _ h _
    unfold f33_0 at h
    cases h
  | succ fu ih =>
    intro l bl m bm p0 r0 z0 σ hσ h S
    unfold f33_0 at h
    exact J_enter (have H := Tok.start hσ S 0 1 2 0 ([.int .i64 p0]) ([.im (List.map eI l) bl, .im (List.map eI m) bm]) [] (.c (OkF.im eI_ok _ _) <| .c (OkF.im eI_ok _ _) <| .n) (.n) (f33_0E l bl m bm p0 _) (f33_0G l bl m bm p0 _); have H := H.t 3 [.int .i64 (List.length l : Int), .bool (decide (p0 < (List.length l : Int)))] |>.r [(.bin .lss (cT 0) (cT 1), (vt 2))] |>.c (p := (.len 0 (cF 0), (vt 1))) (fun _ _ _ => fLen (e := eI) (l := l) (b := bl) (by kernel_rfl) (by kernel_rfl)); iteE h (fun h0 h => have H := H.m 2 true (decide_eq_true h0); reqE h (fun h1 h => bindE h (fun x2 h2 h => have H := H.t 4 [.int .i64 x2] |>.c (p := (.iaS 1 (cF 0) (cT 0), (.ip [(vt 3)] 0))) (fun _ _ _ => fIa (sz := 1) (e := eI) (l := l) (b := bl) (k := .i64) (n := p0) (y := x2) eI_ok (by kernel_rfl) (by kernel_rfl) h1 h2 (by kernel_rfl)); bindE h (fun x3 h3 h => have H := H.t 6 [.int .i64 x3, .bool (!decide (x2 = x3))] |>.r [(.bin .neq (cT 3) (cT 4), (vt 5))] |>.c (p := (.iaS 1 (cF 1) (cT 0), (.ip [(vt 4)] 0))) (fun _ _ _ => fIa (sz := 1) (e := eI) (l := m) (b := bm) (k := .i64) (n := p0) (y := x3) eI_ok (by kernel_rfl) (by kernel_rfl) h1 h3 (by kernel_rfl)); iteE h (fun h4 h => have H := H.t 7 [.int .i64 (w64 (p0 + 1))] |>.r [(.bin .add (cT 0) (cI 1), (vt 6))] |>.m 5 false (nT h4); H.k [0] [0, 1, 5] [] [(vf 0), (vf 1), (vt 6)] [] 9 (f33_0V l bl m bm (w64 (p0 + 1)) _) (f33_0E l bl m bm (w64 (p0 + 1)) _) (f33_0G l bl m bm (w64 (p0 + 1)) _) (fun _ hi S => ih _ _ _ _ _ hi h S)) (fun h4 h => have H := H.m 5 true (nF h4); H.e [0] h))))) (fun h0 h => have H := H.m 2 false (decide_eq_false h0); H.e [0] h))
def f33 (fu : Nat) (l : List Int) (bl : Bool) (m : List Int) (bm : Bool) : Option AV :=
  if (List.length l : Int) = (List.length m : Int) then
    f33_0 fu l bl m bm 0
  else
    some (.bool false)
def f33W : List AV := [(vf 0), (vf 1)]
def f33V (l : List Int) (bl : Bool) (m : List Int) (bm : Bool) (σ : Nat → Nat) : Val := (valL ([]) ([.im (List.map eI l) bl, .im (List.map eI m) bm]) [] σ 0)
def f33X (l : List Int) (bl : Bool) (m : List Int) (bm : Bool) (_σ : Nat → Nat) : List AV := [(.im (List.map eI l) bl), (.im (List.map eI m) bm)]
def f33Y (_l : List Int) (_bl : Bool) (_m : List Int) (_bm : Bool) (_σ : Nat → Nat) : List Blk := []
theorem f33E (l : List Int) (bl : Bool) (m : List Int) (bm : Bool) (σ : Nat → Nat) : f33W.map (gm (f33V l bl m bm σ)) = f33X l bl m bm σ := by kernel_rfl
theorem f33G (l : List Int) (bl : Bool) (m : List Int) (bm : Bool) (σ : Nat → Nat) : ([] : List Blk).map (gB (f33V l bl m bm σ)) = f33Y l bl m bm σ := by kernel_rfl
theorem f33_ok {fu : Nat} (l : List Int) (bl : Bool) (m : List Int) (bm : Bool) {r0 : AV} (h : f33 fu l bl m bm = some r0) : Spec FF 33 [(.im (List.map eI l) bl), (.im (List.map eI m) bm)] r0 := by
  unfold f33 at h
  have hσ : ∀ i j : Nat, (fun i : Nat => i) i = (fun i : Nat => i) j → i = j := fun _ _ e => e
  exact spec_begin (ρ := f33V l bl m bm (fun i => i)) (xs := f33W) (by kernel_rfl) rfl rfl (by kernel_rfl) (fun z0 S => have H := Tok.start hσ S 0 0 2 0 ([]) ([.im (List.map eI l) bl, .im (List.map eI m) bm]) [] (.c (OkF.im eI_ok _ _) <| .c (OkF.im eI_ok _ _) <| .n) .n (f33E l bl m bm _) (f33G l bl m bm _); have H := H.t 3 [.int .i64 (List.length l : Int), .int .i64 (List.length m : Int), .bool (!decide ((List.length l : Int) = (List.length m : Int)))] |>.r [(.bin .neq (cT 0) (cT 1), (vt 2))] |>.c (p := (.len 0 (cF 0), (vt 0))) (fun _ _ _ => fLen (e := eI) (l := l) (b := bl) (by kernel_rfl) (by kernel_rfl)) |>.c (p := (.len 0 (cF 1), (vt 1))) (fun _ _ _ => fLen (e := eI) (l := m) (b := bm) (by kernel_rfl) (by kernel_rfl)); iteE h (fun h0 h => have H := H.m 2 false (nT h0); H.k [0] [0, 1, 5] [] [(vf 0), (vf 1), (.int .i64 0)] [] 0 (f33_0V l bl m bm 0 _) (f33_0E l bl m bm 0 _) (f33_0G l bl m bm 0 _) (fun _ hi S => f33_0_ok _ _ _ _ _ _ hi h S)) (fun h0 h => have H := H.m 2 true (nF h0); H.e [0] h))

def f49_0 : Nat → Int → Int → Int → Option AV
  | 0, _, _, _ => none
  | fu + 1, n, p0, p1 =>
    if p1 < 16 then
      if 0 ≤ p1 then if 0 ≤ (w64 (15 - p1)) then f49_0 fu n (bvT .or .i64 p0 (shT .shl .i64 (bvT .and .i64 (shT .shr .i64 n p1) 1) (w64 (15 - p1)))) (w64 (p1 + 1)) else none else none
    else
      some (.int .i64 p0)
def f49_0W : List AV := [(vt 0), (vt 1), (vt 2)]
def f49_0C : List Blk := []
def f49_0V (n : Int) (p0 : Int) (p1 : Int) (σ : Nat → Nat) : Val := (valL ([.int .i64 n, .int .i64 p0, .int .i64 p1]) ([]) [] σ 0)
def f49_0X (n : Int) (p0 : Int) (p1 : Int) (_σ : Nat → Nat) : List AV := [(.int .i64 n), (.int .i64 p0), (.int .i64 p1)]
def f49_0Y (_n : Int) (_p0 : Int) (_p1 : Int) (_σ : Nat → Nat) : List Blk := []
theorem f49_0E (n : Int) (p0 : Int) (p1 : Int) (σ : Nat → Nat) : f49_0W.map (gm (f49_0V n p0 p1 σ)) = f49_0X n p0 p1 σ := by kernel_rfl
theorem f49_0G (n : Int) (p0 : Int) (p1 : Int) (σ : Nat → Nat) : f49_0C.map (gB (f49_0V n p0 p1 σ)) = f49_0Y n p0 p1 σ := by kernel_rfl
theorem f49_0_ok : ∀ (fu : Nat) (n : Int) (p0 : Int) (p1 : Int) {r0 : AV} {z0 : St} {σ : Nat → Nat}, (∀ i j, σ i = σ j → i = j) → f49_0 fu n p0 p1 = some r0 → Sim (f49_0V n p0 p1 σ) (tmpl [0, 3, 5] f49_0W f49_0C) z0 → J FF (fnOf FF 49) (cutK (fnOf FF 49) 0) (.code (.loop (cutB (fnOf FF 49) 0))) z0 r0 := by
  intro fu
  induction fu with
  | zero =>
    intro _ _ _ _ _ _ _ h _
    unfold f49_0 at h
    cases h
  | succ fu ih =>
    intro n p0 p1 r0 z0 σ hσ h S
    unfold f49_0 at h
    exact J_enter (have H := Tok.start hσ S 0 3 0 0 ([.int .i64 n, .int .i64 p0, .int .i64 p1]) ([]) [] (.n) (.n) (f49_0E n p0 p1 _) (f49_0G n p0 p1 _); have H := H.t 4 [.bool (decide (p1 < 16))] |>.r [(.bin .lss (cT 2) (cI 16), (vt 3))]; iteE h (fun h0 h => have H := H.m 3 true (decide_eq_true h0); reqE h (fun h1 h => have H := H.t 7 [.int .i64 (shT .shr .i64 n p1), .int .i64 (bvT .and .i64 (shT .shr .i64 n p1) 1), .int .i64 (w64 (15 - p1))] |>.r [(.bin .sub (cI 15) (cT 2), (vt 6))] |>.c (p := (.bin .shr (cT 0) (cT 2), (vt 4))) (fun _ _ _ => fSh (k := .i64) (k' := .i64) (a := n) (b := p1) (by simp) (by kernel_rfl) (by kernel_rfl) h1 (by kernel_rfl)) |>.c (p := (.bin .and (cT 4) (cI 1), (vt 5))) (fun _ _ _ => fBv (k := .i64) (a := (shT .shr .i64 n p1)) (b := 1) (by simp) (by kernel_rfl) (by kernel_rfl) (by kernel_rfl)); reqE h (fun h2 h => have H := H.t 10 [.int .i64 (shT .shl .i64 (bvT .and .i64 (shT .shr .i64 n p1) 1) (w64 (15 - p1))), .int .i64 (bvT .or .i64 p0 (shT .shl .i64 (bvT .and .i64 (shT .shr .i64 n p1) 1) (w64 (15 - p1)))), .int .i64 (w64 (p1 + 1))] |>.r [(.bin .add (cT 2) (cI 1), (vt 9))] |>.c (p := (.bin .shl (cT 5) (cT 6), (vt 7))) (fun _ _ _ => fSh (k := .i64) (k' := .i64) (a := (bvT .and .i64 (shT .shr .i64 n p1) 1)) (b := (w64 (15 - p1))) (by simp) (by kernel_rfl) (by kernel_rfl) h2 (by kernel_rfl)) |>.c (p := (.bin .or (cT 1) (cT 7), (vt 8))) (fun _ _ _ => fBv (k := .i64) (a := p0) (b := (shT .shl .i64 (bvT .and .i64 (shT .shr .i64 n p1) 1) (w64 (15 - p1)))) (by simp) (by kernel_rfl) (by kernel_rfl) (by kernel_rfl)); H.k [0] [0, 3, 5] [] [(vt 0), (vt 8), (vt 9)] [] 0 (f49_0V n (bvT .or .i64 p0 (shT .shl .i64 (bvT .and .i64 (shT .shr .i64 n p1) 1) (w64 (15 - p1)))) (w64 (p1 + 1)) _) (f49_0E n (bvT .or .i64 p0 (shT .shl .i64 (bvT .and .i64 (shT .shr .i64 n p1) 1) (w64 (15 - p1)))) (w64 (p1 + 1)) _) (f49_0G n (bvT .or .i64 p0 (shT .shl .i64 (bvT .and .i64 (shT .shr .i64 n p1) 1) (w64 (15 - p1)))) (w64 (p1 + 1)) _) (fun _ hi S => ih _ _ _ hi h S)))) (fun h0 h => have H := H.m 3 false (decide_eq_false h0); H.e [0] h))
def f49 (fu : Nat) (n : Int) : Option AV :=
  f49_0 fu n 0 0
def f49W : List AV := [(vt 0)]
def f49V (n : Int) (σ : Nat → Nat) : Val := (valL ([.int .i64 n]) ([]) [] σ 0)
def f49X (n : Int) (_σ : Nat → Nat) : List AV := [(.int .i64 n)]
def f49Y (_n : Int) (_σ : Nat → Nat) : List Blk := []
theorem f49E (n : Int) (σ : Nat → Nat) : f49W.map (gm (f49V n σ)) = f49X n σ := by kernel_rfl
theorem f49G (n : Int) (σ : Nat → Nat) : ([] : List Blk).map (gB (f49V n σ)) = f49Y n σ := by kernel_rfl
theorem f49_ok {fu : Nat} (n : Int) {r0 : AV} (h : f49 fu n = some r0) : Spec FF 49 [(.int .i64 n)] r0 := by
  unfold f49 at h
  have hσ : ∀ i j : Nat, (fun i : Nat => i) i = (fun i : Nat => i) j → i = j := fun _ _ e => e
  exact spec_begin (ρ := f49V n (fun i => i)) (xs := f49W) (by kernel_rfl) rfl rfl (by kernel_rfl) (fun z0 S => have H := Tok.start hσ S 0 1 0 0 ([.int .i64 n]) ([]) [] (.n) .n (f49E n _) (f49G n _); H.k [0] [0, 3, 5] [] [(vt 0), (.int .i64 0), (.int .i64 0)] [] 0 (f49_0V n 0 0 _) (f49_0E n 0 0 _) (f49_0G n 0 0 _) (fun _ hi S => f49_0_ok _ _ _ _ hi h S))

def f52 (l1 : List Int) (_bl1 : Bool) (l2 : List Int) (_bl2 : Bool) (l3 : List Int) (_bl3 : Bool) : Option AV :=
  if (w64 (0 + (List.length l1 : Int))) < 0 then
    none
  else
    if (w64 ((w64 (0 + (List.length l1 : Int))) + (List.length l2 : Int))) < 0 then
      none
    else
      if (w64 ((w64 ((w64 (0 + (List.length l1 : Int))) + (List.length l2 : Int))) + (List.length l3 : Int))) < 0 then
        none
      else
        if (w64 ((w64 ((w64 ((w64 (0 + (List.length l1 : Int))) + (List.length l2 : Int))) + (List.length l3 : Int))) - 0)) > 0 then
          if 0 < (w64 ((w64 ((w64 ((w64 (0 + (List.length l1 : Int))) + (List.length l2 : Int))) + (List.length l3 : Int))) - 0)) then if (List.length ([] : List Int) + Int.toNat (w64 ((w64 ((w64 ((w64 (0 + (List.length l1 : Int))) + (List.length l2 : Int))) + (List.length l3 : Int))) - 0))) * 8 ≤ roomB ∧ List.length ([] : List Int) + Int.toNat (w64 ((w64 ((w64 ((w64 (0 + (List.length l1 : Int))) + (List.length l2 : Int))) + (List.length l3 : Int))) - 0)) ≤ roomB then if (List.length ([] : List Int) + List.length l1) * 8 ≤ roomB ∧ List.length ([] : List Int) + List.length l1 ≤ roomB then if (List.length l1 + List.length l2) * 8 ≤ roomB ∧ List.length l1 + List.length l2 ≤ roomB then if (List.length (l1 ++ l2) + List.length l3) * 8 ≤ roomB ∧ List.length (l1 ++ l2) + List.length l3 ≤ roomB then some (.im (List.map eI ((l1 ++ l2) ++ l3)) false) else none else none else none else none else none
        else
          if l1 = [] then
            if l2 = [] then
              if l3 = [] then
                some (.im [] true)
              else
                if (List.length ([] : List Int) + List.length l3) * 8 ≤ roomB ∧ List.length ([] : List Int) + List.length l3 ≤ roomB then some (.im (List.map eI l3) false) else none
            else
              if (List.length ([] : List Int) + List.length l2) * 8 ≤ roomB ∧ List.length ([] : List Int) + List.length l2 ≤ roomB then if (List.length l2 + List.length l3) * 8 ≤ roomB ∧ List.length l2 + List.length l3 ≤ roomB then some (.im (List.map eI (l2 ++ l3)) false) else none else none
          else
            if (List.length ([] : List Int) + List.length l1) * 8 ≤ roomB ∧ List.length ([] : List Int) + List.length l1 ≤ roomB then if (List.length l1 + List.length l2) * 8 ≤ roomB ∧ List.length l1 + List.length l2 ≤ roomB then if (List.length (l1 ++ l2) + List.length l3) * 8 ≤ roomB ∧ List.length (l1 ++ l2) + List.length l3 ≤ roomB then some (.im (List.map eI ((l1 ++ l2) ++ l3)) false) else none else none else none
def f52W : List AV := [(.im [[(vf 0)], [(vf 1)], [(vf 2)]] true)]
def f52V (l1 : List Int) (bl1 : Bool) (l2 : List Int) (bl2 : Bool) (l3 : List Int) (bl3 : Bool) (σ : Nat → Nat) : Val := (valL ([]) ([.im (List.map eI l1) bl1, .im (List.map eI l2) bl2, .im (List.map eI l3) bl3]) [] σ 0)
def f52X (l1 : List Int) (bl1 : Bool) (l2 : List Int) (bl2 : Bool) (l3 : List Int) (bl3 : Bool) (_σ : Nat → Nat) : List AV := [(.im [[(.im (List.map eI l1) bl1)], [(.im (List.map eI l2) bl2)], [(.im (List.map eI l3) bl3)]] true)]
def f52Y (_l1 : List Int) (_bl1 : Bool) (_l2 : List Int) (_bl2 : Bool) (_l3 : List Int) (_bl3 : Bool) (_σ : Nat → Nat) : List Blk := []
theorem f52E (l1 : List Int) (bl1 : Bool) (l2 : List Int) (bl2 : Bool) (l3 : List Int) (bl3 : Bool) (σ : Nat → Nat) : f52W.map (gm (f52V l1 bl1 l2 bl2 l3 bl3 σ)) = f52X l1 bl1 l2 bl2 l3 bl3 σ := by kernel_rfl
theorem f52G (l1 : List Int) (bl1 : Bool) (l2 : List Int) (bl2 : Bool) (l3 : List Int) (bl3 : Bool) (σ : Nat → Nat) : ([] : List Blk).map (gB (f52V l1 bl1 l2 bl2 l3 bl3 σ)) = f52Y l1 bl1 l2 bl2 l3 bl3 σ := by kernel_rfl
theorem f52_ok (l1 : List Int) (bl1 : Bool) (l2 : List Int) (bl2 : Bool) (l3 : List Int) (bl3 : Bool) {r0 : AV} (h : f52 l1 bl1 l2 bl2 l3 bl3 = some r0) : Spec FF 52 [(.im [[(.im (List.map eI l1) bl1)], [(.im (List.map eI l2) bl2)], [(.im (List.map eI l3) bl3)]] true)] r0 := by
  unfold f52 at h
  have hσ : ∀ i j : Nat, (fun i : Nat => i) i = (fun i : Nat => i) j → i = j := fun _ _ e => e
  exact spec_begin (ρ := f52V l1 bl1 l2 bl2 l3 bl3 (fun i => i)) (xs := f52W) (by kernel_rfl) rfl rfl (by kernel_rfl) (fun z0 S => have H := Tok.start hσ S 0 0 3 0 ([]) ([.im (List.map eI l1) bl1, .im (List.map eI l2) bl2, .im (List.map eI l3) bl3]) [] (.c (OkF.im eI_ok _ _) <| .c (OkF.im eI_ok _ _) <| .c (OkF.im eI_ok _ _) <| .n) .n (f52E l1 bl1 l2 bl2 l3 bl3 _) (f52G l1 bl1 l2 bl2 l3 bl3 _); have H := H.t 3 [.int .i64 (List.length l1 : Int), .int .i64 (w64 (0 + (List.length l1 : Int))), .bool (decide ((w64 (0 + (List.length l1 : Int))) < 0))] |>.r [(.bin .add (cI 0) (cT 0), (vt 1)), (.bin .lss (cT 1) (cI 0), (vt 2))] |>.c (p := (.len 0 (cF 0), (vt 0))) (fun _ _ _ => fLen (e := eI) (l := l1) (b := bl1) (by kernel_rfl) (by kernel_rfl)); iteE h (fun _ h => nomatch h) (fun h0 h => have H := H.t 6 [.int .i64 (List.length l2 : Int), .int .i64 (w64 ((w64 (0 + (List.length l1 : Int))) + (List.length l2 : Int))), .bool (decide ((w64 ((w64 (0 + (List.length l1 : Int))) + (List.length l2 : Int))) < 0))] |>.r [(.bin .add (cT 1) (cT 3), (vt 4)), (.bin .lss (cT 4) (cI 0), (vt 5))] |>.m 2 false (decide_eq_false h0) |>.c (p := (.len 0 (cF 1), (vt 3))) (fun _ _ _ => fLen (e := eI) (l := l2) (b := bl2) (by kernel_rfl) (by kernel_rfl)); iteE h (fun _ h => nomatch h) (fun h1 h => have H := H.t 9 [.int .i64 (List.length l3 : Int), .int .i64 (w64 ((w64 ((w64 (0 + (List.length l1 : Int))) + (List.length l2 : Int))) + (List.length l3 : Int))), .bool (decide ((w64 ((w64 ((w64 (0 + (List.length l1 : Int))) + (List.length l2 : Int))) + (List.length l3 : Int))) < 0))] |>.r [(.bin .add (cT 4) (cT 6), (vt 7)), (.bin .lss (cT 7) (cI 0), (vt 8))] |>.m 5 false (decide_eq_false h1) |>.c (p := (.len 0 (cF 2), (vt 6))) (fun _ _ _ => fLen (e := eI) (l := l3) (b := bl3) (by kernel_rfl) (by kernel_rfl)); iteE h (fun _ h => nomatch h) (fun h2 h => have H := H.t 11 [.int .i64 (w64 ((w64 ((w64 ((w64 (0 + (List.length l1 : Int))) + (List.length l2 : Int))) + (List.length l3 : Int))) - 0)), .bool (decide ((w64 ((w64 ((w64 ((w64 (0 + (List.length l1 : Int))) + (List.length l2 : Int))) + (List.length l3 : Int))) - 0)) > 0))] |>.r [(.bin .sub (cT 7) (cI 0), (vt 9)), (.bin .gtr (cT 9) (cI 0), (vt 10))] |>.m 8 false (decide_eq_false h2); iteE h (fun h3 h => have H := H.m 10 true (decide_eq_true h3); reqE h (fun h4 h => reqE h (fun h5 h => have H := H.o 0 (1, List.map eI (([] : List Int) ++ List.replicate (Int.toNat (w64 ((w64 ((w64 ((w64 (0 + (List.length l1 : Int))) + (List.length l2 : Int))) + (List.length l3 : Int))) - 0))) 0)) (.own eI_ok _) |>.n ⟨1, 8, [(.int .i64 0)], (.im [] true), (vt 9), 1000001⟩ (fun _ _ _ => fApn (e := eI) (z := 0) (l := ([] : List Int)) (n := (w64 ((w64 ((w64 ((w64 (0 + (List.length l1 : Int))) + (List.length l2 : Int))) + (List.length l3 : Int))) - 0))) (kk := .i64) (by kernel_rfl) (by kernel_rfl) h4 (by kernel_rfl) h5 (by decide) (by decide) (by decide)) |>.c (p := (.slS 1 (.c (.sl 0 0 1000001 1 none)) none (some (cI 0)) none, (.sl 0 0 0 1 none))) (fun _ _ _ => fSlOwn0); reqE h (fun h6 h => have H := H.o 1 (1, List.map eI l1) (.own eI_ok _) |>.a ⟨true, 1, 8, (.im [] true), (vf 0), 1001001⟩ (fun _ _ _ => fApp (e := eI) (l := ([] : List Int)) (m := l1) (cb := true) (cx := bl1) (by kernel_rfl) (by kernel_rfl) (by kernel_rfl) h6 (.inl rfl) (by decide) (by decide) (by decide)); reqE h (fun h7 h => have H := H.o 2 (1, List.map eI (l1 ++ l2)) (.own eI_ok _) |>.a ⟨true, 1, 8, (vf 1001001), (vf 1), 1002001⟩ (fun _ _ _ => fApp (e := eI) (l := l1) (m := l2) (cb := false) (cx := bl2) (by kernel_rfl) (by kernel_rfl) (by kernel_rfl) h7 (.inl rfl) (by decide) (by decide) (by decide)); reqE h (fun h8 h => have H := H.o 3 (1, List.map eI ((l1 ++ l2) ++ l3)) (.own eI_ok _) |>.a ⟨true, 1, 8, (vf 1002001), (vf 2), 1003001⟩ (fun _ _ _ => fApp (e := eI) (l := (l1 ++ l2)) (m := l3) (cb := false) (cx := bl3) (by kernel_rfl) (by kernel_rfl) (by kernel_rfl) h8 (.inl rfl) (by decide) (by decide) (by decide)); H.e [] h)))))) (fun h3 h => have H := H.m 10 false (decide_eq_false h3); iteE h (fun h4 h => have H := H.c (p := (.app 1 8 (.c (.im [] true)) (cF 0), (.im [] true))) (fun _ _ _ => fApp0 (A := List.map eI ([] : List Int)) (ca := true) (by kernel_rfl) (x := (vf 0)) (c := bl1) (show gm _ _ = _ from (show gm _ _ = .im (List.map eI l1) bl1 from (by kernel_rfl)).trans (by rw [h4]; rfl)) (by decide)); iteE h (fun h5 h => have H := H.c (p := (.app 1 8 (.c (.im [] true)) (cF 1), (.im [] true))) (fun _ _ _ => fApp0 (A := List.map eI ([] : List Int)) (ca := true) (by kernel_rfl) (x := (vf 1)) (c := bl2) (show gm _ _ = _ from (show gm _ _ = .im (List.map eI l2) bl2 from (by kernel_rfl)).trans (by rw [h5]; rfl)) (by decide)); iteE h (fun h6 h => have H := H.c (p := (.app 1 8 (.c (.im [] true)) (cF 2), (.im [] true))) (fun _ _ _ => fApp0 (A := List.map eI ([] : List Int)) (ca := true) (by kernel_rfl) (x := (vf 2)) (c := bl3) (show gm _ _ = _ from (show gm _ _ = .im (List.map eI l3) bl3 from (by kernel_rfl)).trans (by rw [h6]; rfl)) (by decide)); H.e [] h) (fun h6 h => reqE h (fun h7 h => have H := H.o 0 (1, List.map eI l3) (.own eI_ok _) |>.a ⟨false, 1, 8, (.im [] true), (vf 2), 1000001⟩ (fun _ _ _ => fApp (e := eI) (l := ([] : List Int)) (m := l3) (cb := true) (cx := bl3) (by kernel_rfl) (by kernel_rfl) (by kernel_rfl) h7 (.inr ⟨rfl, h6⟩) (by decide) (by decide) (by decide)); H.e [] h))) (fun h5 h => reqE h (fun h6 h => have H := H.o 0 (1, List.map eI l2) (.own eI_ok _) |>.a ⟨false, 1, 8, (.im [] true), (vf 1), 1000001⟩ (fun _ _ _ => fApp (e := eI) (l := ([] : List Int)) (m := l2) (cb := true) (cx := bl2) (by kernel_rfl) (by kernel_rfl) (by kernel_rfl) h6 (.inr ⟨rfl, h5⟩) (by decide) (by decide) (by decide)); reqE h (fun h7 h => have H := H.o 1 (1, List.map eI (l2 ++ l3)) (.own eI_ok _) |>.a ⟨true, 1, 8, (vf 1000001), (vf 2), 1001001⟩ (fun _ _ _ => fApp (e := eI) (l := l2) (m := l3) (cb := false) (cx := bl3) (by kernel_rfl) (by kernel_rfl) (by kernel_rfl) h7 (.inl rfl) (by decide) (by decide) (by decide)); H.e [] h)))) (fun h4 h => reqE h (fun h5 h => have H := H.o 0 (1, List.map eI l1) (.own eI_ok _) |>.a ⟨false, 1, 8, (.im [] true), (vf 0), 1000001⟩ (fun _ _ _ => fApp (e := eI) (l := ([] : List Int)) (m := l1) (cb := true) (cx := bl1) (by kernel_rfl) (by kernel_rfl) (by kernel_rfl) h5 (.inr ⟨rfl, h4⟩) (by decide) (by decide) (by decide)); reqE h (fun h6 h => have H := H.o 1 (1, List.map eI (l1 ++ l2)) (.own eI_ok _) |>.a ⟨true, 1, 8, (vf 1000001), (vf 1), 1001001⟩ (fun _ _ _ => fApp (e := eI) (l := l1) (m := l2) (cb := false) (cx := bl2) (by kernel_rfl) (by kernel_rfl) (by kernel_rfl) h6 (.inl rfl) (by decide) (by decide) (by decide)); reqE h (fun h7 h => have H := H.o 2 (1, List.map eI ((l1 ++ l2) ++ l3)) (.own eI_ok _) |>.a ⟨true, 1, 8, (vf 1001001), (vf 2), 1002001⟩ (fun _ _ _ => fApp (e := eI) (l := (l1 ++ l2)) (m := l3) (cb := false) (cx := bl3) (by kernel_rfl) (by kernel_rfl) (by kernel_rfl) h7 (.inl rfl) (by decide) (by decide) (by decide)); H.e [] h)))))))))

def f28 (m : Md) (p : Int) (l : List Int) (bl : Bool) : Option AV :=
  if p = 0 then
    some (Md.av (Md.setQ m 0 ⟨l, bl⟩))
  else
    if p = 1 then
      some (Md.av (Md.setQ m 1 ⟨l, bl⟩))
    else
      if p = 2 then
        some (Md.av (Md.setQ m 2 ⟨l, bl⟩))
      else
        if p = 3 then
          some (Md.av (Md.setQ m 3 ⟨l, bl⟩))
        else
          if p = 4 then
            some (Md.av (Md.setQ m 4 ⟨l, bl⟩))
          else
            if p = 5 then
              some (Md.av (Md.setQ m 5 ⟨l, bl⟩))
            else
              if p = 6 then
                some (Md.av (Md.setQ m 6 ⟨l, bl⟩))
              else
                if p = 7 then some (Md.av (Md.setQ m 7 ⟨l, bl⟩)) else none
def f28W : List AV := [(.agg (vF 0 10 ++ vT 0 32)), (vt 32), (vf 10)]
def f28V (m : Md) (p : Int) (l : List Int) (bl : Bool) (σ : Nat → Nat) : Val := (valL (ap (mdT m) ([.int .i64 p])) (ap (mdF m) ([.im (List.map eI l) bl])) [] σ 0)
def f28X (m : Md) (p : Int) (l : List Int) (bl : Bool) (_σ : Nat → Nat) : List AV := [(Md.av m), (.int .i64 p), (.im (List.map eI l) bl)]
def f28Y (_m : Md) (_p : Int) (_l : List Int) (_bl : Bool) (_σ : Nat → Nat) : List Blk := []
theorem f28E (m : Md) (p : Int) (l : List Int) (bl : Bool) (σ : Nat → Nat) : f28W.map (gm (f28V m p l bl σ)) = f28X m p l bl σ := by kernel_rfl
theorem f28G (m : Md) (p : Int) (l : List Int) (bl : Bool) (σ : Nat → Nat) : ([] : List Blk).map (gB (f28V m p l bl σ)) = f28Y m p l bl σ := by kernel_rfl
theorem f28_ok (m : Md) (p : Int) (l : List Int) (bl : Bool) {r0 : AV} (h : f28 m p l bl = some r0) : Spec FF 28 [(Md.av m), (.int .i64 p), (.im (List.map eI l) bl)] r0 := by
  unfold f28 at h
  have hσ : ∀ i j : Nat, (fun i : Nat => i) i = (fun i : Nat => i) j → i = j := fun _ _ e => e
  exact spec_begin (ρ := f28V m p l bl (fun i => i)) (xs := f28W) (by kernel_rfl) rfl rfl (by kernel_rfl) (fun z0 S => have H := Tok.start hσ S 0 33 11 0 (ap (mdT m) ([.int .i64 p])) (ap (mdF m) ([.im (List.map eI l) bl])) [] (AllP.ap (mdF_ok m) (.c (OkF.im eI_ok _ _) <| .n)) .n (f28E m p l bl _) (f28G m p l bl _); iteE h (fun h0 h => have H := H.c (p := (.iaA 8 1 (.c (.ptr 0 0)) (cT 32), (.ptr 0 0))) (fun _ _ _ => fIaP (j := 0) (k := .i64) (n := p) (by kernel_rfl) h0 (by decide)); H.e [] h) (fun _ h => iteE h (fun h1 h => have H := H.c (p := (.iaA 8 1 (.c (.ptr 0 0)) (cT 32), (.ptr 0 1))) (fun _ _ _ => fIaP (j := 1) (k := .i64) (n := p) (by kernel_rfl) h1 (by decide)); H.e [] h) (fun _ h => iteE h (fun h2 h => have H := H.c (p := (.iaA 8 1 (.c (.ptr 0 0)) (cT 32), (.ptr 0 2))) (fun _ _ _ => fIaP (j := 2) (k := .i64) (n := p) (by kernel_rfl) h2 (by decide)); H.e [] h) (fun _ h => iteE h (fun h3 h => have H := H.c (p := (.iaA 8 1 (.c (.ptr 0 0)) (cT 32), (.ptr 0 3))) (fun _ _ _ => fIaP (j := 3) (k := .i64) (n := p) (by kernel_rfl) h3 (by decide)); H.e [] h) (fun _ h => iteE h (fun h4 h => have H := H.c (p := (.iaA 8 1 (.c (.ptr 0 0)) (cT 32), (.ptr 0 4))) (fun _ _ _ => fIaP (j := 4) (k := .i64) (n := p) (by kernel_rfl) h4 (by decide)); H.e [] h) (fun _ h => iteE h (fun h5 h => have H := H.c (p := (.iaA 8 1 (.c (.ptr 0 0)) (cT 32), (.ptr 0 5))) (fun _ _ _ => fIaP (j := 5) (k := .i64) (n := p) (by kernel_rfl) h5 (by decide)); H.e [] h) (fun _ h => iteE h (fun h6 h => have H := H.c (p := (.iaA 8 1 (.c (.ptr 0 0)) (cT 32), (.ptr 0 6))) (fun _ _ _ => fIaP (j := 6) (k := .i64) (n := p) (by kernel_rfl) h6 (by decide)); H.e [] h) (fun _ h => reqE h (fun h7 h => have H := H.c (p := (.iaA 8 1 (.c (.ptr 0 0)) (cT 32), (.ptr 0 7))) (fun _ _ _ => fIaP (j := 7) (k := .i64) (n := p) (by kernel_rfl) h7 (by decide)); H.e [] h)))))))))

def f32 (m : Md) (e : Int) : Option AV :=
  if e = 0 then
    if (m.e 0) = true then
      some (.tup [(Md.av (Md.setE m 0 (!(m.s 0)))), (.int .i64 1)])
    else
      some (.tup [(Md.av (Md.setE m 0 false)), (.int .i64 0)])
  else
    if e = 1 then
      if (m.e 1) = true then
        some (.tup [(Md.av (Md.setE m 1 (!(m.s 1)))), (.int .i64 1)])
      else
        some (.tup [(Md.av (Md.setE m 1 false)), (.int .i64 0)])
    else
      if e = 2 then
        if (m.e 2) = true then
          some (.tup [(Md.av (Md.setE m 2 (!(m.s 2)))), (.int .i64 1)])
        else
          some (.tup [(Md.av (Md.setE m 2 false)), (.int .i64 0)])
      else
        if e = 3 then
          if (m.e 3) = true then
            some (.tup [(Md.av (Md.setE m 3 (!(m.s 3)))), (.int .i64 1)])
          else
            some (.tup [(Md.av (Md.setE m 3 false)), (.int .i64 0)])
        else
          if e = 4 then
            if (m.e 4) = true then
              some (.tup [(Md.av (Md.setE m 4 (!(m.s 4)))), (.int .i64 1)])
            else
              some (.tup [(Md.av (Md.setE m 4 false)), (.int .i64 0)])
          else
            if e = 5 then
              if (m.e 5) = true then
                some (.tup [(Md.av (Md.setE m 5 (!(m.s 5)))), (.int .i64 1)])
              else
                some (.tup [(Md.av (Md.setE m 5 false)), (.int .i64 0)])
            else
              if e = 6 then
                if (m.e 6) = true then
                  some (.tup [(Md.av (Md.setE m 6 (!(m.s 6)))), (.int .i64 1)])
                else
                  some (.tup [(Md.av (Md.setE m 6 false)), (.int .i64 0)])
              else
                if e = 7 then
                  if (m.e 7) = true then
                    some (.tup [(Md.av (Md.setE m 7 (!(m.s 7)))), (.int .i64 1)])
                  else
                    some (.tup [(Md.av (Md.setE m 7 false)), (.int .i64 0)])
                else
                  if e = 8 then
                    if (m.e 8) = true then
                      some (.tup [(Md.av (Md.setE m 8 (!(m.s 8)))), (.int .i64 1)])
                    else
                      some (.tup [(Md.av (Md.setE m 8 false)), (.int .i64 0)])
                  else
                    if e = 9 then
                      if (m.e 9) = true then
                        some (.tup [(Md.av (Md.setE m 9 (!(m.s 9)))), (.int .i64 1)])
                      else
                        some (.tup [(Md.av (Md.setE m 9 false)), (.int .i64 0)])
                    else
                      if e = 10 then
                        if (m.e 10) = true then
                          some (.tup [(Md.av (Md.setE m 10 (!(m.s 10)))), (.int .i64 1)])
                        else
                          some (.tup [(Md.av (Md.setE m 10 false)), (.int .i64 0)])
                      else
                        if e = 11 then
                          if (m.e 11) = true then
                            some (.tup [(Md.av (Md.setE m 11 (!(m.s 11)))), (.int .i64 1)])
                          else
                            some (.tup [(Md.av (Md.setE m 11 false)), (.int .i64 0)])
                        else
                          if e = 12 then
                            if (m.e 12) = true then
                              some (.tup [(Md.av (Md.setE m 12 (!(m.s 12)))), (.int .i64 1)])
                            else
                              some (.tup [(Md.av (Md.setE m 12 false)), (.int .i64 0)])
                          else
                            if e = 13 then
                              if (m.e 13) = true then
                                some (.tup [(Md.av (Md.setE m 13 (!(m.s 13)))), (.int .i64 1)])
                              else
                                some (.tup [(Md.av (Md.setE m 13 false)), (.int .i64 0)])
                            else
                              if e = 14 then
                                if (m.e 14) = true then
                                  some (.tup [(Md.av (Md.setE m 14 (!(m.s 14)))), (.int .i64 1)])
                                else
                                  some (.tup [(Md.av (Md.setE m 14 false)), (.int .i64 0)])
                              else
                                if e = 15 then if (m.e 15) = true then
                                  some (.tup [(Md.av (Md.setE m 15 (!(m.s 15)))), (.int .i64 1)])
                                else
                                  some (.tup [(Md.av (Md.setE m 15 false)), (.int .i64 0)]) else none
def f32W : List AV := [(.agg (vF 0 10 ++ vT 0 32)), (vt 32)]
def f32V (m : Md) (e : Int) (σ : Nat → Nat) : Val := (valL (ap (mdT m) ([.int .i64 e])) (mdF m) [] σ 0)
def f32X (m : Md) (e : Int) (_σ : Nat → Nat) : List AV := [(Md.av m), (.int .i64 e)]
def f32Y (_m : Md) (_e : Int) (_σ : Nat → Nat) : List Blk := []
theorem f32E (m : Md) (e : Int) (σ : Nat → Nat) : f32W.map (gm (f32V m e σ)) = f32X m e σ := by kernel_rfl
theorem f32G (m : Md) (e : Int) (σ : Nat → Nat) : ([] : List Blk).map (gB (f32V m e σ)) = f32Y m e σ := by kernel_rfl
set_option maxHeartbeats 10000000 in
theorem f32_ok (m : Md) (e : Int) {r0 : AV} (h : f32 m e = some r0) : Spec FF 32 [(Md.av m), (.int .i64 e)] r0 := by
  unfold f32 at h
  have hσ : ∀ i j : Nat, (fun i : Nat => i) i = (fun i : Nat => i) j → i = j := fun _ _ e => e
  exact spec_begin (ρ := f32V m e (fun i => i)) (xs := f32W) (by kernel_rfl) rfl rfl (by kernel_rfl) (fun z0 S => have H := Tok.start hσ S 0 33 10 0 (ap (mdT m) ([.int .i64 e])) (mdF m) [] (mdF_ok m) .n (f32E m e _) (f32G m e _); iteE h (fun h0 h => have H := H.c (p := (.iaA 16 1 (.c (.ptr 0 10)) (cT 32), (.ptr 0 10))) (fun _ _ _ => fIaP (j := 0) (k := .i64) (n := e) (by kernel_rfl) h0 (by decide)); iteE h (fun h1 h => have H := H.t 34 [.bool (!(m.s 0))] |>.r [(.un .not (cT 16), (vt 33))] |>.m 0 true h1 |>.c (p := (.iaA 16 1 (.c (.ptr 0 26)) (cT 32), (.ptr 0 26))) (fun _ _ _ => fIaP (j := 0) (k := .i64) (n := e) (by kernel_rfl) h0 (by decide)); H.e [] h) (fun h1 h => have H := H.m 0 false (bF h1); H.e [] h)) (fun _ h => iteE h (fun h1 h => have H := H.c (p := (.iaA 16 1 (.c (.ptr 0 10)) (cT 32), (.ptr 0 11))) (fun _ _ _ => fIaP (j := 1) (k := .i64) (n := e) (by kernel_rfl) h1 (by decide)); iteE h (fun h2 h => have H := H.t 34 [.bool (!(m.s 1))] |>.r [(.un .not (cT 17), (vt 33))] |>.m 1 true h2 |>.c (p := (.iaA 16 1 (.c (.ptr 0 26)) (cT 32), (.ptr 0 27))) (fun _ _ _ => fIaP (j := 1) (k := .i64) (n := e) (by kernel_rfl) h1 (by decide)); H.e [] h) (fun h2 h => have H := H.m 1 false (bF h2); H.e [] h)) (fun _ h => iteE h (fun h2 h => have H := H.c (p := (.iaA 16 1 (.c (.ptr 0 10)) (cT 32), (.ptr 0 12))) (fun _ _ _ => fIaP (j := 2) (k := .i64) (n := e) (by kernel_rfl) h2 (by decide)); iteE h (fun h3 h => have H := H.t 34 [.bool (!(m.s 2))] |>.r [(.un .not (cT 18), (vt 33))] |>.m 2 true h3 |>.c (p := (.iaA 16 1 (.c (.ptr 0 26)) (cT 32), (.ptr 0 28))) (fun _ _ _ => fIaP (j := 2) (k := .i64) (n := e) (by kernel_rfl) h2 (by decide)); H.e [] h) (fun h3 h => have H := H.m 2 false (bF h3); H.e [] h)) (fun _ h => iteE h (fun h3 h => have H := H.c (p := (.iaA 16 1 (.c (.ptr 0 10)) (cT 32), (.ptr 0 13))) (fun _ _ _ => fIaP (j := 3) (k := .i64) (n := e) (by kernel_rfl) h3 (by decide)); iteE h (fun h4 h => have H := H.t 34 [.bool (!(m.s 3))] |>.r [(.un .not (cT 19), (vt 33))] |>.m 3 true h4 |>.c (p := (.iaA 16 1 (.c (.ptr 0 26)) (cT 32), (.ptr 0 29))) (fun _ _ _ => fIaP (j := 3) (k := .i64) (n := e) (by kernel_rfl) h3 (by decide)); H.e [] h) (fun h4 h => have H := H.m 3 false (bF h4); H.e [] h)) (fun _ h => iteE h (fun h4 h => have H := H.c (p := (.iaA 16 1 (.c (.ptr 0 10)) (cT 32), (.ptr 0 14))) (fun _ _ _ => fIaP (j := 4) (k := .i64) (n := e) (by kernel_rfl) h4 (by decide)); iteE h (fun h5 h => have H := H.t 34 [.bool (!(m.s 4))] |>.r [(.un .not (cT 20), (vt 33))] |>.m 4 true h5 |>.c (p := (.iaA 16 1 (.c (.ptr 0 26)) (cT 32), (.ptr 0 30))) (fun _ _ _ => fIaP (j := 4) (k := .i64) (n := e) (by kernel_rfl) h4 (by decide)); H.e [] h) (fun h5 h => have H := H.m 4 false (bF h5); H.e [] h)) (fun _ h => iteE h (fun h5 h => have H := H.c (p := (.iaA 16 1 (.c (.ptr 0 10)) (cT 32), (.ptr 0 15))) (fun _ _ _ => fIaP (j := 5) (k := .i64) (n := e) (by kernel_rfl) h5 (by decide)); iteE h (fun h6 h => have H := H.t 34 [.bool (!(m.s 5))] |>.r [(.un .not (cT 21), (vt 33))] |>.m 5 true h6 |>.c (p := (.iaA 16 1 (.c (.ptr 0 26)) (cT 32), (.ptr 0 31))) (fun _ _ _ => fIaP (j := 5) (k := .i64) (n := e) (by kernel_rfl) h5 (by decide)); H.e [] h) (fun h6 h => have H := H.m 5 false (bF h6); H.e [] h)) (fun _ h => iteE h (fun h6 h => have H := H.c (p := (.iaA 16 1 (.c (.ptr 0 10)) (cT 32), (.ptr 0 16))) (fun _ _ _ => fIaP (j := 6) (k := .i64) (n := e) (by kernel_rfl) h6 (by decide)); iteE h (fun h7 h => have H := H.t 34 [.bool (!(m.s 6))] |>.r [(.un .not (cT 22), (vt 33))] |>.m 6 true h7 |>.c (p := (.iaA 16 1 (.c (.ptr 0 26)) (cT 32), (.ptr 0 32))) (fun _ _ _ => fIaP (j := 6) (k := .i64) (n := e) (by kernel_rfl) h6 (by decide)); H.e [] h) (fun h7 h => have H := H.m 6 false (bF h7); H.e [] h)) (fun _ h => iteE h (fun h7 h => have H := H.c (p := (.iaA 16 1 (.c (.ptr 0 10)) (cT 32), (.ptr 0 17))) (fun _ _ _ => fIaP (j := 7) (k := .i64) (n := e) (by kernel_rfl) h7 (by decide)); iteE h (fun h8 h => have H := H.t 34 [.bool (!(m.s 7))] |>.r [(.un .not (cT 23), (vt 33))] |>.m 7 true h8 |>.c (p := (.iaA 16 1 (.c (.ptr 0 26)) (cT 32), (.ptr 0 33))) (fun _ _ _ => fIaP (j := 7) (k := .i64) (n := e) (by kernel_rfl) h7 (by decide)); H.e [] h) (fun h8 h => have H := H.m 7 false (bF h8); H.e [] h)) (fun _ h => iteE h (fun h8 h => have H := H.c (p := (.iaA 16 1 (.c (.ptr 0 10)) (cT 32), (.ptr 0 18))) (fun _ _ _ => fIaP (j := 8) (k := .i64) (n := e) (by kernel_rfl) h8 (by decide)); iteE h (fun h9 h => have H := H.t 34 [.bool (!(m.s 8))] |>.r [(.un .not (cT 24), (vt 33))] |>.m 8 true h9 |>.c (p := (.iaA 16 1 (.c (.ptr 0 26)) (cT 32), (.ptr 0 34))) (fun _ _ _ => fIaP (j := 8) (k := .i64) (n := e) (by kernel_rfl) h8 (by decide)); H.e [] h) (fun h9 h => have H := H.m 8 false (bF h9); H.e [] h)) (fun _ h => iteE h (fun h9 h => have H := H.c (p := (.iaA 16 1 (.c (.ptr 0 10)) (cT 32), (.ptr 0 19))) (fun _ _ _ => fIaP (j := 9) (k := .i64) (n := e) (by kernel_rfl) h9 (by decide)); iteE h (fun h10 h => have H := H.t 34 [.bool (!(m.s 9))] |>.r [(.un .not (cT 25), (vt 33))] |>.m 9 true h10 |>.c (p := (.iaA 16 1 (.c (.ptr 0 26)) (cT 32), (.ptr 0 35))) (fun _ _ _ => fIaP (j := 9) (k := .i64) (n := e) (by kernel_rfl) h9 (by decide)); H.e [] h) (fun h10 h => have H := H.m 9 false (bF h10); H.e [] h)) (fun _ h => iteE h (fun h10 h => have H := H.c (p := (.iaA 16 1 (.c (.ptr 0 10)) (cT 32), (.ptr 0 20))) (fun _ _ _ => fIaP (j := 10) (k := .i64) (n := e) (by kernel_rfl) h10 (by decide)); iteE h (fun h11 h => have H := H.t 34 [.bool (!(m.s 10))] |>.r [(.un .not (cT 26), (vt 33))] |>.m 10 true h11 |>.c (p := (.iaA 16 1 (.c (.ptr 0 26)) (cT 32), (.ptr 0 36))) (fun _ _ _ => fIaP (j := 10) (k := .i64) (n := e) (by kernel_rfl) h10 (by decide)); H.e [] h) (fun h11 h => have H := H.m 10 false (bF h11); H.e [] h)) (fun _ h => iteE h (fun h11 h => have H := H.c (p := (.iaA 16 1 (.c (.ptr 0 10)) (cT 32), (.ptr 0 21))) (fun _ _ _ => fIaP (j := 11) (k := .i64) (n := e) (by kernel_rfl) h11 (by decide)); iteE h (fun h12 h => have H := H.t 34 [.bool (!(m.s 11))] |>.r [(.un .not (cT 27), (vt 33))] |>.m 11 true h12 |>.c (p := (.iaA 16 1 (.c (.ptr 0 26)) (cT 32), (.ptr 0 37))) (fun _ _ _ => fIaP (j := 11) (k := .i64) (n := e) (by kernel_rfl) h11 (by decide)); H.e [] h) (fun h12 h => have H := H.m 11 false (bF h12); H.e [] h)) (fun _ h => iteE h (fun h12 h => have H := H.c (p := (.iaA 16 1 (.c (.ptr 0 10)) (cT 32), (.ptr 0 22))) (fun _ _ _ => fIaP (j := 12) (k := .i64) (n := e) (by kernel_rfl) h12 (by decide)); iteE h (fun h13 h => have H := H.t 34 [.bool (!(m.s 12))] |>.r [(.un .not (cT 28), (vt 33))] |>.m 12 true h13 |>.c (p := (.iaA 16 1 (.c (.ptr 0 26)) (cT 32), (.ptr 0 38))) (fun _ _ _ => fIaP (j := 12) (k := .i64) (n := e) (by kernel_rfl) h12 (by decide)); H.e [] h) (fun h13 h => have H := H.m 12 false (bF h13); H.e [] h)) (fun _ h => iteE h (fun h13 h => have H := H.c (p := (.iaA 16 1 (.c (.ptr 0 10)) (cT 32), (.ptr 0 23))) (fun _ _ _ => fIaP (j := 13) (k := .i64) (n := e) (by kernel_rfl) h13 (by decide)); iteE h (fun h14 h => have H := H.t 34 [.bool (!(m.s 13))] |>.r [(.un .not (cT 29), (vt 33))] |>.m 13 true h14 |>.c (p := (.iaA 16 1 (.c (.ptr 0 26)) (cT 32), (.ptr 0 39))) (fun _ _ _ => fIaP (j := 13) (k := .i64) (n := e) (by kernel_rfl) h13 (by decide)); H.e [] h) (fun h14 h => have H := H.m 13 false (bF h14); H.e [] h)) (fun _ h => iteE h (fun h14 h => have H := H.c (p := (.iaA 16 1 (.c (.ptr 0 10)) (cT 32), (.ptr 0 24))) (fun _ _ _ => fIaP (j := 14) (k := .i64) (n := e) (by kernel_rfl) h14 (by decide)); iteE h (fun h15 h => have H := H.t 34 [.bool (!(m.s 14))] |>.r [(.un .not (cT 30), (vt 33))] |>.m 14 true h15 |>.c (p := (.iaA 16 1 (.c (.ptr 0 26)) (cT 32), (.ptr 0 40))) (fun _ _ _ => fIaP (j := 14) (k := .i64) (n := e) (by kernel_rfl) h14 (by decide)); H.e [] h) (fun h15 h => have H := H.m 14 false (bF h15); H.e [] h)) (fun _ h => reqE h (fun h15 h => have H := H.c (p := (.iaA 16 1 (.c (.ptr 0 10)) (cT 32), (.ptr 0 25))) (fun _ _ _ => fIaP (j := 15) (k := .i64) (n := e) (by kernel_rfl) h15 (by decide)); iteE h (fun h16 h => have H := H.t 34 [.bool (!(m.s 15))] |>.r [(.un .not (cT 31), (vt 33))] |>.m 15 true h16 |>.c (p := (.iaA 16 1 (.c (.ptr 0 26)) (cT 32), (.ptr 0 41))) (fun _ _ _ => fIaP (j := 15) (k := .i64) (n := e) (by kernel_rfl) h15 (by decide)); H.e [] h) (fun h16 h => have H := H.m 15 false (bF h16); H.e [] h))))))))))))))))))

def f19_2 : Nat → Md → Int → Option AV
  | 0, _, _ => none
  | fu + 1, m, p0 =>
    if p0 < (List.length m.k.l : Int) then
      if 0 ≤ p0 then Option.bind (m.k.l[Int.toNat p0]?) fun x2 =>
      if x2 < 0 then
        some (.bool false)
      else
        if x2 > 65535 then
          some (.bool false)
        else
          if p0 > 0 then
            if 0 ≤ (w64 (p0 - 1)) then Option.bind (m.k.l[Int.toNat (w64 (p0 - 1))]?) fun x7 =>
            if x7 ≥ x2 then
              some (.bool false)
            else
              f19_2 fu m (w64 (p0 + 1)) else none
          else
            f19_2 fu m (w64 (p0 + 1)) else none
    else
      some (.bool (decide ((List.length m.v.l : Int) = (List.length m.k.l : Int))))
def f19_2W : List AV := [(.ptr 0 0), (vt 0)]
def f19_2C : List Blk := [.cells (vF 0 10 ++ vT 1 32) false]
def f19_2V (m : Md) (p0 : Int) (σ : Nat → Nat) : Val := (valL (ap ([.int .i64 p0]) (mdT m)) (mdF m) [] σ 1)
def f19_2X (_m : Md) (p0 : Int) (σ : Nat → Nat) : List AV := [(.ptr (σ 0) 0), (.int .i64 p0)]
def f19_2Y (m : Md) (_p0 : Int) (_σ : Nat → Nat) : List Blk := [.cells (Md.cells m) false]
theorem f19_2E (m : Md) (p0 : Int) (σ : Nat → Nat) : f19_2W.map (gm (f19_2V m p0 σ)) = f19_2X m p0 σ := by kernel_rfl
theorem f19_2G (m : Md) (p0 : Int) (σ : Nat → Nat) : f19_2C.map (gB (f19_2V m p0 σ)) = f19_2Y m p0 σ := by kernel_rfl
theorem f19_2_ok : ∀ (fu : Nat) (m : Md) (p0 : Int) {r0 : AV} {z0 : St} {σ : Nat → Nat}, (∀ i j, σ i = σ j → i = j) → f19_2 fu m p0 = some r0 → Sim (f19_2V m p0 σ) (tmpl [1, 4] f19_2W f19_2C) z0 → J FF (fnOf FF 19) (cutK (fnOf FF 19) 2) (.code (.loop (cutB (fnOf FF 19) 2))) z0 r0 := by
  intro fu
  induction fu with
  | zero =>
    intro _ _ _ _ _ _ h _
    unfold f19_2 at h
    cases h
  | succ fu ih =>
    intro m p0 r0 z0 σ hσ h S
    unfold f19_2 at h
    exact J_enter (have H := Tok.start hσ S 1 33 10 0 (ap ([.int .i64 p0]) (mdT m)) (mdF m) [] (mdF_ok m) (.n) (f19_2E m p0 _) (f19_2G m p0 _); have H := H.t 35 [.int .i64 (List.length m.k.l : Int), .bool (decide (p0 < (List.length m.k.l : Int)))] |>.r [(.bin .lss (cT 0) (cT 33), (vt 34))] |>.c (p := (.len 0 (cF 8), (vt 33))) (fun _ _ _ => fLen (e := eI) (l := m.k.l) (b := m.k.c) (by kernel_rfl) (by kernel_rfl)); iteE h (fun h0 h => have H := H.m 34 true (decide_eq_true h0); reqE h (fun h1 h => bindE h (fun x2 h2 h => have H := H.t 37 [.int .i64 x2, .bool (decide (x2 < 0))] |>.r [(.bin .lss (cT 35) (cI 0), (vt 36))] |>.c (p := (.iaS 1 (cF 8) (cT 0), (.ip [(vt 35)] 0))) (fun _ _ _ => fIa (sz := 1) (e := eI) (l := m.k.l) (b := m.k.c) (k := .i64) (n := p0) (y := x2) eI_ok (by kernel_rfl) (by kernel_rfl) h1 h2 (by kernel_rfl)); iteE h (fun h3 h => have H := H.m 36 true (decide_eq_true h3); H.e [2] h) (fun h3 h => have H := H.t 38 [.bool (decide (x2 > 65535))] |>.r [(.bin .gtr (cT 35) (cI 65535), (vt 37))] |>.m 36 false (decide_eq_false h3); iteE h (fun h4 h => have H := H.m 37 true (decide_eq_true h4); H.e [2] h) (fun h4 h => have H := H.t 39 [.bool (decide (p0 > 0))] |>.r [(.bin .gtr (cT 0) (cI 0), (vt 38))] |>.m 37 false (decide_eq_false h4); iteE h (fun h5 h => have H := H.t 40 [.int .i64 (w64 (p0 - 1))] |>.r [(.bin .sub (cT 0) (cI 1), (vt 39))] |>.m 38 true (decide_eq_true h5); reqE h (fun h6 h => bindE h (fun x7 h7 h => have H := H.t 42 [.int .i64 x7, .bool (decide (x7 ≥ x2))] |>.r [(.bin .geq (cT 40) (cT 35), (vt 41))] |>.c (p := (.iaS 1 (cF 8) (cT 39), (.ip [(vt 40)] 0))) (fun _ _ _ => fIa (sz := 1) (e := eI) (l := m.k.l) (b := m.k.c) (k := .i64) (n := (w64 (p0 - 1))) (y := x7) eI_ok (by kernel_rfl) (by kernel_rfl) h6 h7 (by kernel_rfl)); iteE h (fun h8 h => have H := H.m 41 true (decide_eq_true h8); H.e [2] h) (fun h8 h => have H := H.t 43 [.int .i64 (w64 (p0 + 1))] |>.r [(.bin .add (cT 0) (cI 1), (vt 42))] |>.m 41 false (decide_eq_false h8); H.k [2] [1, 4] [0] [(.ptr 0 0), (vt 42)] [.cells (vF 0 10 ++ vT 1 32) false] 33 (f19_2V m (w64 (p0 + 1)) _) (f19_2E m (w64 (p0 + 1)) _) (f19_2G m (w64 (p0 + 1)) _) (fun _ hi S => ih _ _ hi h S))))) (fun h5 h => have H := H.t 40 [.int .i64 (w64 (p0 + 1))] |>.r [(.bin .add (cT 0) (cI 1), (vt 39))] |>.m 38 false (decide_eq_false h5); H.k [2] [1, 4] [0] [(.ptr 0 0), (vt 39)] [.cells (vF 0 10 ++ vT 1 32) false] 33 (f19_2V m (w64 (p0 + 1)) _) (f19_2E m (w64 (p0 + 1)) _) (f19_2G m (w64 (p0 + 1)) _) (fun _ hi S => ih _ _ hi h S))))))) (fun h0 h => have H := H.t 37 [.int .i64 (List.length m.v.l : Int), .bool (decide ((List.length m.v.l : Int) = (List.length m.k.l : Int)))] |>.r [(.bin .eql (cT 35) (cT 33), (vt 36))] |>.m 34 false (decide_eq_false h0) |>.c (p := (.len 0 (cF 9), (vt 35))) (fun _ _ _ => fLen (e := eI) (l := m.v.l) (b := m.v.c) (by kernel_rfl) (by kernel_rfl)); H.e [2] h))
def f19 (fu : Nat) (m : Md) : Option AV :=
  if (List.length (m.q 0).l : Int) > 1000 then
    some (.bool false)
  else
    if (List.length (m.q 1).l : Int) > 1000 then
      some (.bool false)
    else
      if (List.length (m.q 2).l : Int) > 1000 then
        some (.bool false)
      else
        if (List.length (m.q 3).l : Int) > 1000 then
          some (.bool false)
        else
          if (List.length (m.q 4).l : Int) > 1000 then
            some (.bool false)
          else
            if (List.length (m.q 5).l : Int) > 1000 then
              some (.bool false)
            else
              if (List.length (m.q 6).l : Int) > 1000 then
                some (.bool false)
              else
                if (List.length (m.q 7).l : Int) > 1000 then
                  some (.bool false)
                else
                  f19_2 fu m 0
def f19W : List AV := [(.agg (vF 0 10 ++ vT 0 32))]
def f19V (m : Md) (σ : Nat → Nat) : Val := (valL (mdT m) (mdF m) [] σ 0)
def f19X (m : Md) (_σ : Nat → Nat) : List AV := [(Md.av m)]
def f19Y (_m : Md) (_σ : Nat → Nat) : List Blk := []
theorem f19E (m : Md) (σ : Nat → Nat) : f19W.map (gm (f19V m σ)) = f19X m σ := by kernel_rfl
theorem f19G (m : Md) (σ : Nat → Nat) : ([] : List Blk).map (gB (f19V m σ)) = f19Y m σ := by kernel_rfl
theorem f19_ok {fu : Nat} (m : Md) {r0 : AV} (h : f19 fu m = some r0) : Spec FF 19 [(Md.av m)] r0 := by
  unfold f19 at h
  have hσ : ∀ i j : Nat, (fun i : Nat => i) i = (fun i : Nat => i) j → i = j := fun _ _ e => e
  exact spec_begin (ρ := f19V m (fun i => i)) (xs := f19W) (by kernel_rfl) rfl rfl (by kernel_rfl) (fun z0 S => have H := Tok.start hσ S 0 32 10 0 (mdT m) (mdF m) [] (mdF_ok m) .n (f19E m _) (f19G m _); have H := H.t 34 [.int .i64 (List.length (m.q 0).l : Int), .bool (decide ((List.length (m.q 0).l : Int) > 1000))] |>.r [(.bin .gtr (cT 32) (cI 1000), (vt 33))] |>.c (p := (.len 0 (cF 0), (vt 32))) (fun _ _ _ => fLen (e := eI) (l := (m.q 0).l) (b := (m.q 0).c) (by kernel_rfl) (by kernel_rfl)); iteE h (fun h0 h => have H := H.m 33 true (decide_eq_true h0); H.e [2] h) (fun h0 h => have H := H.t 36 [.int .i64 (List.length (m.q 1).l : Int), .bool (decide ((List.length (m.q 1).l : Int) > 1000))] |>.r [(.bin .gtr (cT 34) (cI 1000), (vt 35))] |>.m 33 false (decide_eq_false h0) |>.c (p := (.len 0 (cF 1), (vt 34))) (fun _ _ _ => fLen (e := eI) (l := (m.q 1).l) (b := (m.q 1).c) (by kernel_rfl) (by kernel_rfl)); iteE h (fun h1 h => have H := H.m 35 true (decide_eq_true h1); H.e [2] h) (fun h1 h => have H := H.t 38 [.int .i64 (List.length (m.q 2).l : Int), .bool (decide ((List.length (m.q 2).l : Int) > 1000))] |>.r [(.bin .gtr (cT 36) (cI 1000), (vt 37))] |>.m 35 false (decide_eq_false h1) |>.c (p := (.len 0 (cF 2), (vt 36))) (fun _ _ _ => fLen (e := eI) (l := (m.q 2).l) (b := (m.q 2).c) (by kernel_rfl) (by kernel_rfl)); iteE h (fun h2 h => have H := H.m 37 true (decide_eq_true h2); H.e [2] h) (fun h2 h => have H := H.t 40 [.int .i64 (List.length (m.q 3).l : Int), .bool (decide ((List.length (m.q 3).l : Int) > 1000))] |>.r [(.bin .gtr (cT 38) (cI 1000), (vt 39))] |>.m 37 false (decide_eq_false h2) |>.c (p := (.len 0 (cF 3), (vt 38))) (fun _ _ _ => fLen (e := eI) (l := (m.q 3).l) (b := (m.q 3).c) (by kernel_rfl) (by kernel_rfl)); iteE h (fun h3 h => have H := H.m 39 true (decide_eq_true h3); H.e [2] h) (fun h3 h => have H := H.t 42 [.int .i64 (List.length (m.q 4).l : Int), .bool (decide ((List.length (m.q 4).l : Int) > 1000))] |>.r [(.bin .gtr (cT 40) (cI 1000), (vt 41))] |>.m 39 false (decide_eq_false h3) |>.c (p := (.len 0 (cF 4), (vt 40))) (fun _ _ _ => fLen (e := eI) (l := (m.q 4).l) (b := (m.q 4).c) (by kernel_rfl) (by kernel_rfl)); iteE h (fun h4 h => have H := H.m 41 true (decide_eq_true h4); H.e [2] h) (fun h4 h => have H := H.t 44 [.int .i64 (List.length (m.q 5).l : Int), .bool (decide ((List.length (m.q 5).l : Int) > 1000))] |>.r [(.bin .gtr (cT 42) (cI 1000), (vt 43))] |>.m 41 false (decide_eq_false h4) |>.c (p := (.len 0 (cF 5), (vt 42))) (fun _ _ _ => fLen (e := eI) (l := (m.q 5).l) (b := (m.q 5).c) (by kernel_rfl) (by kernel_rfl)); iteE h (fun h5 h => have H := H.m 43 true (decide_eq_true h5); H.e [2] h) (fun h5 h => have H := H.t 46 [.int .i64 (List.length (m.q 6).l : Int), .bool (decide ((List.length (m.q 6).l : Int) > 1000))] |>.r [(.bin .gtr (cT 44) (cI 1000), (vt 45))] |>.m 43 false (decide_eq_false h5) |>.c (p := (.len 0 (cF 6), (vt 44))) (fun _ _ _ => fLen (e := eI) (l := (m.q 6).l) (b := (m.q 6).c) (by kernel_rfl) (by kernel_rfl)); iteE h (fun h6 h => have H := H.m 45 true (decide_eq_true h6); H.e [2] h) (fun h6 h => have H := H.t 48 [.int .i64 (List.length (m.q 7).l : Int), .bool (decide ((List.length (m.q 7).l : Int) > 1000))] |>.r [(.bin .gtr (cT 46) (cI 1000), (vt 47))] |>.m 45 false (decide_eq_false h6) |>.c (p := (.len 0 (cF 7), (vt 46))) (fun _ _ _ => fLen (e := eI) (l := (m.q 7).l) (b := (m.q 7).c) (by kernel_rfl) (by kernel_rfl)); iteE h (fun h7 h => have H := H.m 47 true (decide_eq_true h7); H.e [2] h) (fun h7 h => have H := H.m 47 false (decide_eq_false h7); H.k [2] [1, 4] [0] [(.ptr 0 0), (.int .i64 0)] [.cells (vF 0 10 ++ vT 0 32) false] 1 (f19_2V m 0 _) (f19_2E m 0 _) (f19_2G m 0 _) (fun _ hi S => f19_2_ok _ _ _ hi h S))))))))))

end Go.Proofs.Hz
