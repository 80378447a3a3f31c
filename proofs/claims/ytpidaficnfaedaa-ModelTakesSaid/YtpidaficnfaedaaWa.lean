/-
  Chapter 17: walks through functions (part a), written by a program of our own (wip/tools).
  Conditions: none.
-/
import Derived.Test.YtpidaficnfaedaaN
open Go Go.Proofs
namespace Go.Proofs.Hz
def f45 (x : Int) : Option AV :=
  some (.bool (!decide (x = x)))
def f45W : List AV := [(vt 0)]
def f45V (x : Int) (σ : Nat → Nat) : Val := (valL ([.int .i64 x]) ([]) [] σ 0)
def f45X (x : Int) (_σ : Nat → Nat) : List AV := [(.int .i64 x)]
def f45Y (_x : Int) (_σ : Nat → Nat) : List Blk := []
theorem f45E (x : Int) (σ : Nat → Nat) : f45W.map (gm (f45V x σ)) = f45X x σ := by kernel_rfl
theorem f45G (x : Int) (σ : Nat → Nat) : ([] : List Blk).map (gB (f45V x σ)) = f45Y x σ := by kernel_rfl
def f45_p0V (x : Int) (σ : Nat → Nat) : Val := (valL ([.int .i64 x, .bool (!decide (x = x))]) ([]) [] σ 0)
def f45_p0F : Facts := ⟨(List.append (α := AOp × AV) [(.bin .neq (cT 0) (cT 0), (vt 1))] []), [], [], []⟩
theorem f45_p0Q : endS (fnOf FF 45) (stepK f45_p0F FF [] 4000 [] (.code (fnOf FF 45).body) (tmpl (List.range f45W.length) f45W [])) = some (vt 1) := by kernel_rfl
theorem f45_p0 (x : Int) {z0 : St} {σ : Nat → Nat} (hσ : ∀ i j, σ i = σ j → i = j) (S : Sim (f45V x σ) (tmpl (List.range f45W.length) f45W []) z0) : J FF (fnOf FF 45) [] (.code (fnOf FF 45).body) z0 (.bool (!decide (x = x))) :=
  jR (R := gm (f45_p0V x σ) (vt 1)) (by kernel_rfl) (J_end (show Hold FF (f45_p0V x σ) f45_p0F from ⟨(valL_good hσ (okL (by kernel_rfl)) (.n) (.n)),
    holdF_of (AllP.append (rflF fun _ => by kernel_rfl) (.n)),
    holdA_of (.n),
    holdN_of (.n),
    holdS_of (.n)⟩) (S.more (ρ' := (f45_p0V x σ)) (s0 := σ) (n0 := 0) rfl rfl rfl rfl (f45E x σ) (f45G x σ) (by kernel_rfl) (by kernel_rfl)) f45_p0Q)
theorem f45_ok (x : Int) {r0 : AV} (h : f45 x = some r0) : Spec FF 45 [(.int .i64 x)] r0 := by
  unfold f45 at h
  have hσ : ∀ i j : Nat, (fun i : Nat => i) i = (fun i : Nat => i) j → i = j := fun _ _ e => e
  exact spec_begin (ρ := f45V x (fun i => i)) (xs := f45W) (by kernel_rfl) rfl rfl (by kernel_rfl) (fun z0 S => jE h (f45_p0 x hσ S))

def f51 (x : Int) : Option AV :=
  some (.bool (!decide (x = x)))
def f51W : List AV := [(vt 0)]
def f51V (x : Int) (σ : Nat → Nat) : Val := (valL ([.int .i64 x]) ([]) [] σ 0)
def f51X (x : Int) (_σ : Nat → Nat) : List AV := [(.int .i64 x)]
def f51Y (_x : Int) (_σ : Nat → Nat) : List Blk := []
theorem f51E (x : Int) (σ : Nat → Nat) : f51W.map (gm (f51V x σ)) = f51X x σ := by kernel_rfl
theorem f51G (x : Int) (σ : Nat → Nat) : ([] : List Blk).map (gB (f51V x σ)) = f51Y x σ := by kernel_rfl
def f51_p0V (x : Int) (σ : Nat → Nat) : Val := (valL ([.int .i64 x, .bool (!decide (x = x))]) ([]) [] σ 0)
def f51_p0F : Facts := ⟨(List.append (α := AOp × AV) [(.bin .neq (cT 0) (cT 0), (vt 1))] []), [], [], []⟩
theorem f51_p0Q : endS (fnOf FF 51) (stepK f51_p0F FF [] 4000 [] (.code (fnOf FF 51).body) (tmpl (List.range f51W.length) f51W [])) = some (vt 1) := by kernel_rfl
theorem f51_p0 (x : Int) {z0 : St} {σ : Nat → Nat} (hσ : ∀ i j, σ i = σ j → i = j) (S : Sim (f51V x σ) (tmpl (List.range f51W.length) f51W []) z0) : J FF (fnOf FF 51) [] (.code (fnOf FF 51).body) z0 (.bool (!decide (x = x))) :=
  jR (R := gm (f51_p0V x σ) (vt 1)) (by kernel_rfl) (J_end (show Hold FF (f51_p0V x σ) f51_p0F from ⟨(valL_good hσ (okL (by kernel_rfl)) (.n) (.n)),
    holdF_of (AllP.append (rflF fun _ => by kernel_rfl) (.n)),
    holdA_of (.n),
    holdN_of (.n),
    holdS_of (.n)⟩) (S.more (ρ' := (f51_p0V x σ)) (s0 := σ) (n0 := 0) rfl rfl rfl rfl (f51E x σ) (f51G x σ) (by kernel_rfl) (by kernel_rfl)) f51_p0Q)
theorem f51_ok (x : Int) {r0 : AV} (h : f51 x = some r0) : Spec FF 51 [(.int .i64 x)] r0 := by
  unfold f51 at h
  have hσ : ∀ i j : Nat, (fun i : Nat => i) i = (fun i : Nat => i) j → i = j := fun _ _ e => e
  exact spec_begin (ρ := f51V x (fun i => i)) (xs := f51W) (by kernel_rfl) rfl rfl (by kernel_rfl) (fun z0 S => jE h (f51_p0 x hσ S))

def f37 (n : Int) (most : Int) : Option AV :=
  if n ≥ 0 then
    some (.bool (decide (n < most)))
  else
    some (.bool false)
def f37W : List AV := [(vt 0), (vt 1)]
def f37V (n : Int) (most : Int) (σ : Nat → Nat) : Val := (valL ([.int .i64 n, .int .i64 most]) ([]) [] σ 0)
def f37X (n : Int) (most : Int) (_σ : Nat → Nat) : List AV := [(.int .i64 n), (.int .i64 most)]
def f37Y (_n : Int) (_most : Int) (_σ : Nat → Nat) : List Blk := []
theorem f37E (n : Int) (most : Int) (σ : Nat → Nat) : f37W.map (gm (f37V n most σ)) = f37X n most σ := by kernel_rfl
theorem f37G (n : Int) (most : Int) (σ : Nat → Nat) : ([] : List Blk).map (gB (f37V n most σ)) = f37Y n most σ := by kernel_rfl
def f37_p0V (n : Int) (most : Int) (σ : Nat → Nat) : Val := (valL ([.int .i64 n, .int .i64 most, .bool (decide (n ≥ 0)), .bool (decide (n < most))]) ([]) [] σ 0)
def f37_p0F : Facts := ⟨(List.append (α := AOp × AV) [(.bin .geq (cT 0) (cI 0), (vt 2)), (.bin .lss (cT 0) (cT 1), (vt 3))] [mT 2]), [], [], []⟩
theorem f37_p0Q : endS (fnOf FF 37) (stepK f37_p0F FF [] 4000 [] (.code (fnOf FF 37).body) (tmpl (List.range f37W.length) f37W [])) = some (vt 3) := by kernel_rfl
theorem f37_p0 (n : Int) (most : Int) (h0 : n ≥ 0) {z0 : St} {σ : Nat → Nat} (hσ : ∀ i j, σ i = σ j → i = j) (S : Sim (f37V n most σ) (tmpl (List.range f37W.length) f37W []) z0) : J FF (fnOf FF 37) [] (.code (fnOf FF 37).body) z0 (.bool (decide (n < most))) :=
  jR (R := gm (f37_p0V n most σ) (vt 3)) (by kernel_rfl) (J_end (show Hold FF (f37_p0V n most σ) f37_p0F from ⟨(valL_good hσ (okL (by kernel_rfl)) (.n) (.n)),
    holdF_of (AllP.append (rflF fun _ => by kernel_rfl) (.c (fT (by kernel_rfl) (decide_eq_true h0)) <| .n)),
    holdA_of (.n),
    holdN_of (.n),
    holdS_of (.n)⟩) (S.more (ρ' := (f37_p0V n most σ)) (s0 := σ) (n0 := 0) rfl rfl rfl rfl (f37E n most σ) (f37G n most σ) (by kernel_rfl) (by kernel_rfl)) f37_p0Q)
def f37_p1V (n : Int) (most : Int) (σ : Nat → Nat) : Val := (valL ([.int .i64 n, .int .i64 most, .bool (decide (n ≥ 0))]) ([]) [] σ 0)
def f37_p1F : Facts := ⟨(List.append (α := AOp × AV) [(.bin .geq (cT 0) (cI 0), (vt 2))] [mF 2]), [], [], []⟩
theorem f37_p1Q : endS (fnOf FF 37) (stepK f37_p1F FF [] 4000 [] (.code (fnOf FF 37).body) (tmpl (List.range f37W.length) f37W [])) = some (.bool false) := by kernel_rfl
theorem f37_p1 (n : Int) (most : Int) (h0 : ¬ (n ≥ 0)) {z0 : St} {σ : Nat → Nat} (hσ : ∀ i j, σ i = σ j → i = j) (S : Sim (f37V n most σ) (tmpl (List.range f37W.length) f37W []) z0) : J FF (fnOf FF 37) [] (.code (fnOf FF 37).body) z0 (.bool false) :=
  jR (R := gm (f37_p1V n most σ) (.bool false)) (by kernel_rfl) (J_end (show Hold FF (f37_p1V n most σ) f37_p1F from ⟨(valL_good hσ (okL (by kernel_rfl)) (.n) (.n)),
    holdF_of (AllP.append (rflF fun _ => by kernel_rfl) (.c (fT (by kernel_rfl) (decide_eq_false h0)) <| .n)),
    holdA_of (.n),
    holdN_of (.n),
    holdS_of (.n)⟩) (S.more (ρ' := (f37_p1V n most σ)) (s0 := σ) (n0 := 0) rfl rfl rfl rfl (f37E n most σ) (f37G n most σ) (by kernel_rfl) (by kernel_rfl)) f37_p1Q)
theorem f37_ok (n : Int) (most : Int) {r0 : AV} (h : f37 n most = some r0) : Spec FF 37 [(.int .i64 n), (.int .i64 most)] r0 := by
  unfold f37 at h
  have hσ : ∀ i j : Nat, (fun i : Nat => i) i = (fun i : Nat => i) j → i = j := fun _ _ e => e
  exact spec_begin (ρ := f37V n most (fun i => i)) (xs := f37W) (by kernel_rfl) rfl rfl (by kernel_rfl) (fun z0 S => iteE h (fun h0 h => jE h (f37_p0 n most h0 hσ S)) (fun h0 h => jE h (f37_p1 n most h0 hσ S)))

def f29 (l : List Int) (_bl : Bool) : Option AV :=
  some (.im (List.map eI l) true)
def f29W : List AV := [(vf 0)]
def f29V (l : List Int) (bl : Bool) (σ : Nat → Nat) : Val := (valL ([]) ([.im (List.map eI l) bl]) [] σ 0)
def f29X (l : List Int) (bl : Bool) (_σ : Nat → Nat) : List AV := [(.im (List.map eI l) bl)]
def f29Y (_l : List Int) (_bl : Bool) (_σ : Nat → Nat) : List Blk := []
theorem f29E (l : List Int) (bl : Bool) (σ : Nat → Nat) : f29W.map (gm (f29V l bl σ)) = f29X l bl σ := by kernel_rfl
theorem f29G (l : List Int) (bl : Bool) (σ : Nat → Nat) : ([] : List Blk).map (gB (f29V l bl σ)) = f29Y l bl σ := by kernel_rfl
def f29_p0V (l : List Int) (bl : Bool) (σ : Nat → Nat) : Val := (valL ([.int .i64 (List.length l : Int)]) ([.im (List.map eI l) bl, .im (List.map eI l) true]) [] σ 0)
def f29_p0F : Facts := ⟨(List.append (α := AOp × AV) [] [(.len 0 (cF 0), (vt 0)), (.slS 1 (cF 0) none (some (cT 0)) (some (cT 0)), (vf 1))]), [], [], []⟩
theorem f29_p0Q : endS (fnOf FF 29) (stepK f29_p0F FF [] 4000 [] (.code (fnOf FF 29).body) (tmpl (List.range f29W.length) f29W [])) = some (vf 1) := by kernel_rfl
theorem f29_p0 (l : List Int) (bl : Bool) {z0 : St} {σ : Nat → Nat} (hσ : ∀ i j, σ i = σ j → i = j) (S : Sim (f29V l bl σ) (tmpl (List.range f29W.length) f29W []) z0) : J FF (fnOf FF 29) [] (.code (fnOf FF 29).body) z0 (.im (List.map eI l) true) :=
  jR (R := gm (f29_p0V l bl σ) (vf 1)) (by kernel_rfl) (J_end (show Hold FF (f29_p0V l bl σ) f29_p0F from ⟨(valL_good hσ (okL (by kernel_rfl)) (.c (OkF.im eI_ok _ _) <| .c (OkF.im eI_ok _ _) <| .n) (.n)),
    holdF_of (AllP.append (rflF fun _ => by kernel_rfl) (.c (fLen (e := eI) (l := l) (b := bl) (by kernel_rfl) (by kernel_rfl)) <| .c (fSl (sz := 1) (e := eI) (l := l) (l' := l) (b := bl) (b' := true) (lo := none) (hi := (some ((vt 0), ((List.length l : Int) : Int)))) (mx := (some ((vt 0), ((List.length l : Int) : Int)))) eI_ok (by kernel_rfl) trivial ⟨.i64, by kernel_rfl⟩ ⟨.i64, by kernel_rfl⟩ (by simp [optN]) (by simp) (by simp [optN]) (by simp [optN]) (by kernel_rfl)) <| .n)),
    holdA_of (.n),
    holdN_of (.n),
    holdS_of (.n)⟩) (S.more (ρ' := (f29_p0V l bl σ)) (s0 := σ) (n0 := 0) rfl rfl rfl rfl (f29E l bl σ) (f29G l bl σ) (by kernel_rfl) (by kernel_rfl)) f29_p0Q)
theorem f29_ok (l : List Int) (bl : Bool) {r0 : AV} (h : f29 l bl = some r0) : Spec FF 29 [(.im (List.map eI l) bl)] r0 := by
  unfold f29 at h
  have hσ : ∀ i j : Nat, (fun i : Nat => i) i = (fun i : Nat => i) j → i = j := fun _ _ e => e
  exact spec_begin (ρ := f29V l bl (fun i => i)) (xs := f29W) (by kernel_rfl) rfl rfl (by kernel_rfl) (fun z0 S => jE h (f29_p0 l bl hσ S))

def f33_0 : Nat → List Int → Bool → List Int → Bool → Int → Option AV
  | 0, _, _, _, _, _ => none
  | fu + 1, l, bl, m, bm, p0 =>
    if p0 < (List.length l : Int) then
      if 0 ≤ p0 then Option.bind (l[Int.toNat p0]?) fun x2 =>
      Option.bind (m[Int.toNat p0]?) fun x3 =>
      if x2 = x3 then
        f33_0 fu l bl m bm (w64 (p0 + 1))
      else
        some (.bool false) else none
    else
      some (.bool true)
def f33_0W : List AV := [(vf 0), (vf 1), (vt 0)]
def f33_0C : List Blk := []
def f33_0V (l : List Int) (bl : Bool) (m : List Int) (bm : Bool) (p0 : Int) (σ : Nat → Nat) : Val := (valL ([.int .i64 p0]) ([.im (List.map eI l) bl, .im (List.map eI m) bm]) [] σ 0)
def f33_0X (l : List Int) (bl : Bool) (m : List Int) (bm : Bool) (p0 : Int) (_σ : Nat → Nat) : List AV := [(.im (List.map eI l) bl), (.im (List.map eI m) bm), (.int .i64 p0)]
def f33_0Y (_l : List Int) (_bl : Bool) (_m : List Int) (_bm : Bool) (_p0 : Int) (_σ : Nat → Nat) : List Blk := []
theorem f33_0E (l : List Int) (bl : Bool) (m : List Int) (bm : Bool) (p0 : Int) (σ : Nat → Nat) : f33_0W.map (gm (f33_0V l bl m bm p0 σ)) = f33_0X l bl m bm p0 σ := by kernel_rfl
theorem f33_0G (l : List Int) (bl : Bool) (m : List Int) (bm : Bool) (p0 : Int) (σ : Nat → Nat) : f33_0C.map (gB (f33_0V l bl m bm p0 σ)) = f33_0Y l bl m bm p0 σ := by kernel_rfl
def f33_0_p0V (l : List Int) (bl : Bool) (m : List Int) (bm : Bool) (p0 : Int) (x2 : Int) (x3 : Int) (σ : Nat → Nat) : Val := (valL ([.int .i64 p0, .int .i64 (List.length l : Int), .bool (decide (p0 < (List.length l : Int))), .int .i64 x2, .int .i64 x3, .bool (!decide (x2 = x3)), .int .i64 (w64 (p0 + 1))]) ([.im (List.map eI l) bl, .im (List.map eI m) bm]) [] σ 0)
def f33_0_p0F : Facts := ⟨(List.append (α := AOp × AV) [(.bin .lss (cT 0) (cT 1), (vt 2)), (.bin .neq (cT 3) (cT 4), (vt 5)), (.bin .add (cT 0) (cI 1), (vt 6))] [(.len 0 (cF 0), (vt 1)), mT 2, (.iaS 1 (cF 0) (cT 0), (.ip [(vt 3)] 0)), (.iaS 1 (cF 1) (cT 0), (.ip [(vt 4)] 0)), mF 5]), [], [], []⟩
theorem f33_0_p0Q : keep [0, 1, 5] [] (stepK f33_0_p0F FF [0] 4000 (.lp (cutB (fnOf FF 33) 0) :: cutK (fnOf FF 33) 0) (.code (cutB (fnOf FF 33) 0)) (tmpl [0, 1, 5] f33_0W f33_0C)) = some (cutK (fnOf FF 33) 0, .loop (cutB (fnOf FF 33) 0), [(vf 0), (vf 1), (vt 6)], [], 9) := by kernel_rfl
theorem f33_0_p0 (l : List Int) (bl : Bool) (m : List Int) (bm : Bool) (p0 : Int) (h0 : p0 < (List.length l : Int)) (h1 : 0 ≤ p0) (x2 : Int) (h2 : l[Int.toNat p0]? = some x2) (x3 : Int) (h3 : m[Int.toNat p0]? = some x3) (h4 : x2 = x3) {z0 : St} {σ : Nat → Nat} (hσ : ∀ i j, σ i = σ j → i = j) (S : Sim (f33_0V l bl m bm p0 σ) (tmpl [0, 1, 5] f33_0W f33_0C) z0) {r0 : AV} (hj : ∀ (σ1 : Nat → Nat) (c1 : St), (∀ i j, σ1 i = σ1 j → i = j) → Sim (f33_0V l bl m bm (w64 (p0 + 1)) σ1) (tmpl [0, 1, 5] f33_0W f33_0C) c1 → J FF (fnOf FF 33) (cutK (fnOf FF 33) 0) (.code (.loop (cutB (fnOf FF 33) 0))) c1 r0) : J FF (fnOf FF 33) (.lp (cutB (fnOf FF 33) 0) :: cutK (fnOf FF 33) 0) (.code (cutB (fnOf FF 33) 0)) z0 r0 :=
  J_next (show Hold FF (f33_0_p0V l bl m bm p0 x2 x3 σ) f33_0_p0F from ⟨(valL_good hσ (okL (by kernel_rfl)) (.c (OkF.im eI_ok _ _) <| .c (OkF.im eI_ok _ _) <| .n) (.n)),
    holdF_of (AllP.append (rflF fun _ => by kernel_rfl) (.c (fLen (e := eI) (l := l) (b := bl) (by kernel_rfl) (by kernel_rfl)) <| .c (fT (by kernel_rfl) (decide_eq_true h0)) <| .c (fIa (sz := 1) (e := eI) (l := l) (b := bl) (k := .i64) (n := p0) (y := x2) eI_ok (by kernel_rfl) (by kernel_rfl) h1 h2 (by kernel_rfl)) <| .c (fIa (sz := 1) (e := eI) (l := m) (b := bm) (k := .i64) (n := p0) (y := x3) eI_ok (by kernel_rfl) (by kernel_rfl) h1 h3 (by kernel_rfl)) <| .c (fT (by kernel_rfl) (nT h4)) <| .n)),
    holdA_of (.n),
    holdN_of (.n),
    holdS_of (.n)⟩) (S.more (ρ' := (f33_0_p0V l bl m bm p0 x2 x3 σ)) (s0 := σ) (n0 := 0) rfl rfl rfl rfl (f33_0E l bl m bm p0 σ) (f33_0G l bl m bm p0 σ) (by kernel_rfl) (by kernel_rfl)) f33_0_p0Q f33_0W f33_0C (f33_0V l bl m bm (w64 (p0 + 1)) (sig σ [] 9)) (X := f33_0X l bl m bm (w64 (p0 + 1)) (sig σ [] 9)) (Y := f33_0Y l bl m bm (w64 (p0 + 1)) (sig σ [] 9)) rfl rfl (by kernel_rfl) (f33_0E l bl m bm (w64 (p0 + 1)) _) (by kernel_rfl) (f33_0G l bl m bm (w64 (p0 + 1)) _) (fun c1 hi S2 => hj _ c1 hi S2)
def f33_0_p1V (l : List Int) (bl : Bool) (m : List Int) (bm : Bool) (p0 : Int) (x2 : Int) (x3 : Int) (σ : Nat → Nat) : Val := (valL ([.int .i64 p0, .int .i64 (List.length l : Int), .bool (decide (p0 < (List.length l : Int))), .int .i64 x2, .int .i64 x3, .bool (!decide (x2 = x3))]) ([.im (List.map eI l) bl, .im (List.map eI m) bm]) [] σ 0)
def f33_0_p1F : Facts := ⟨(List.append (α := AOp × AV) [(.bin .lss (cT 0) (cT 1), (vt 2)), (.bin .neq (cT 3) (cT 4), (vt 5))] [(.len 0 (cF 0), (vt 1)), mT 2, (.iaS 1 (cF 0) (cT 0), (.ip [(vt 3)] 0)), (.iaS 1 (cF 1) (cT 0), (.ip [(vt 4)] 0)), mT 5]), [], [], []⟩
theorem f33_0_p1Q : endS (fnOf FF 33) (stepK f33_0_p1F FF [0] 4000 (.lp (cutB (fnOf FF 33) 0) :: cutK (fnOf FF 33) 0) (.code (cutB (fnOf FF 33) 0)) (tmpl [0, 1, 5] f33_0W f33_0C)) = some (.bool false) := by kernel_rfl
theorem f33_0_p1 (l : List Int) (bl : Bool) (m : List Int) (bm : Bool) (p0 : Int) (h0 : p0 < (List.length l : Int)) (h1 : 0 ≤ p0) (x2 : Int) (h2 : l[Int.toNat p0]? = some x2) (x3 : Int) (h3 : m[Int.toNat p0]? = some x3) (h4 : ¬ (x2 = x3)) {z0 : St} {σ : Nat → Nat} (hσ : ∀ i j, σ i = σ j → i = j) (S : Sim (f33_0V l bl m bm p0 σ) (tmpl [0, 1, 5] f33_0W f33_0C) z0) : J FF (fnOf FF 33) (.lp (cutB (fnOf FF 33) 0) :: cutK (fnOf FF 33) 0) (.code (cutB (fnOf FF 33) 0)) z0 (.bool false) :=
  jR (R := gm (f33_0_p1V l bl m bm p0 x2 x3 σ) (.bool false)) (by kernel_rfl) (J_end (show Hold FF (f33_0_p1V l bl m bm p0 x2 x3 σ) f33_0_p1F from ⟨(valL_good hσ (okL (by kernel_rfl)) (.c (OkF.im eI_ok _ _) <| .c (OkF.im eI_ok _ _) <| .n) (.n)),
    holdF_of (AllP.append (rflF fun _ => by kernel_rfl) (.c (fLen (e := eI) (l := l) (b := bl) (by kernel_rfl) (by kernel_rfl)) <| .c (fT (by kernel_rfl) (decide_eq_true h0)) <| .c (fIa (sz := 1) (e := eI) (l := l) (b := bl) (k := .i64) (n := p0) (y := x2) eI_ok (by kernel_rfl) (by kernel_rfl) h1 h2 (by kernel_rfl)) <| .c (fIa (sz := 1) (e := eI) (l := m) (b := bm) (k := .i64) (n := p0) (y := x3) eI_ok (by kernel_rfl) (by kernel_rfl) h1 h3 (by kernel_rfl)) <| .c (fT (by kernel_rfl) (nF h4)) <| .n)),
    holdA_of (.n),
    holdN_of (.n),
    holdS_of (.n)⟩) (S.more (ρ' := (f33_0_p1V l bl m bm p0 x2 x3 σ)) (s0 := σ) (n0 := 0) rfl rfl rfl rfl (f33_0E l bl m bm p0 σ) (f33_0G l bl m bm p0 σ) (by kernel_rfl) (by kernel_rfl)) f33_0_p1Q)
def f33_0_p2V (l : List Int) (bl : Bool) (m : List Int) (bm : Bool) (p0 : Int) (σ : Nat → Nat) : Val := (valL ([.int .i64 p0, .int .i64 (List.length l : Int), .bool (decide (p0 < (List.length l : Int)))]) ([.im (List.map eI l) bl, .im (List.map eI m) bm]) [] σ 0)
def f33_0_p2F : Facts := ⟨(List.append (α := AOp × AV) [(.bin .lss (cT 0) (cT 1), (vt 2))] [(.len 0 (cF 0), (vt 1)), mF 2]), [], [], []⟩
theorem f33_0_p2Q : endS (fnOf FF 33) (stepK f33_0_p2F FF [0] 4000 (.lp (cutB (fnOf FF 33) 0) :: cutK (fnOf FF 33) 0) (.code (cutB (fnOf FF 33) 0)) (tmpl [0, 1, 5] f33_0W f33_0C)) = some (.bool true) := by kernel_rfl
theorem f33_0_p2 (l : List Int) (bl : Bool) (m : List Int) (bm : Bool) (p0 : Int) (h0 : ¬ (p0 < (List.length l : Int))) {z0 : St} {σ : Nat → Nat} (hσ : ∀ i j, σ i = σ j → i = j) (S : Sim (f33_0V l bl m bm p0 σ) (tmpl [0, 1, 5] f33_0W f33_0C) z0) : J FF (fnOf FF 33) (.lp (cutB (fnOf FF 33) 0) :: cutK (fnOf FF 33) 0) (.code (cutB (fnOf FF 33) 0)) z0 (.bool true) :=
  jR (R := gm (f33_0_p2V l bl m bm p0 σ) (.bool true)) (by kernel_rfl) (J_end (show Hold FF (f33_0_p2V l bl m bm p0 σ) f33_0_p2F from ⟨(valL_good hσ (okL (by kernel_rfl)) (.c (OkF.im eI_ok _ _) <| .c (OkF.im eI_ok _ _) <| .n) (.n)),
    holdF_of (AllP.append (rflF fun _ => by kernel_rfl) (.c (fLen (e := eI) (l := l) (b := bl) (by kernel_rfl) (by kernel_rfl)) <| .c (fT (by kernel_rfl) (decide_eq_false h0)) <| .n)),
    holdA_of (.n),
    holdN_of (.n),
    holdS_of (.n)⟩) (S.more (ρ' := (f33_0_p2V l bl m bm p0 σ)) (s0 := σ) (n0 := 0) rfl rfl rfl rfl (f33_0E l bl m bm p0 σ) (f33_0G l bl m bm p0 σ) (by kernel_rfl) (by kernel_rfl)) f33_0_p2Q)
theorem f33_0_ok : ∀ (fu : Nat) (l : List Int) (bl : Bool) (m : List Int) (bm : Bool) (p0 : Int) {r0 : AV} {z0 : St} {σ : Nat → Nat}, (∀ i j, σ i = σ j → i = j) → f33_0 fu l bl m bm p0 = some r0 → Sim (f33_0V l bl m bm p0 σ) (tmpl [0, 1, 5] f33_0W f33_0C) z0 → J FF (fnOf FF 33) (cutK (fnOf FF 33) 0) (.code (.loop (cutB (fnOf FF 33) 0))) z0 r0 := by
  intro fu
  induction fu with
  | zero =>
    intro _ _ _ _ _ _ _ _ _ h _
    unfold f33_0 at h
    cases h
  | succ fu ih =>
    intro l bl m bm p0 r0 z0 σ hσ h S
    unfold f33_0 at h
    exact J_enter (iteE h (fun h0 h => reqE h (fun h1 h => bindE h (fun x2 h2 h => bindE h (fun x3 h3 h => iteE h (fun h4 h => f33_0_p0 l bl m bm p0 h0 h1 x2 h2 x3 h3 h4 hσ S (fun σ1 c1 hi S1 => ih _ _ _ _ _ hi h S1)) (fun h4 h => jE h (f33_0_p1 l bl m bm p0 h0 h1 x2 h2 x3 h3 h4 hσ S)))))) (fun h0 h => jE h (f33_0_p2 l bl m bm p0 h0 hσ S)))
def f33 (fu : Nat) (l : List Int) (bl : Bool) (m : List Int) (bm : Bool) : Option AV :=
  if (List.length l : Int) = (List.length m : Int) then
    f33_0 fu l bl m bm 0
  else
    some (.bool false)
def f33W : List AV := [(vf 0), (vf 1)]
def f33V (l : List Int) (bl : Bool) (m : List Int) (bm : Bool) (σ : Nat → Nat) : Val := (valL ([]) ([.im (List.map eI l) bl, .im (List.map eI m) bm]) [] σ 0)
def f33X (l : List Int) (bl : Bool) (m : List Int) (bm : Bool) (_σ : Nat → Nat) : List AV := [(.im (List.map eI l) bl), (.im (List.map eI m) bm)]
def f33Y (_l : List Int) (_bl : Bool) (_m : List Int) (_bm : Bool) (_σ : Nat → Nat) : List Blk := []
theorem f33E (l : List Int) (bl : Bool) (m : List Int) (bm : Bool) (σ : Nat → Nat) : f33W.map (gm (f33V l bl m bm σ)) = f33X l bl m bm σ := by kernel_rfl
theorem f33G (l : List Int) (bl : Bool) (m : List Int) (bm : Bool) (σ : Nat → Nat) : ([] : List Blk).map (gB (f33V l bl m bm σ)) = f33Y l bl m bm σ := by kernel_rfl
def f33_p0V (l : List Int) (bl : Bool) (m : List Int) (bm : Bool) (σ : Nat → Nat) : Val := (valL ([.int .i64 (List.length l : Int), .int .i64 (List.length m : Int), .bool (!decide ((List.length l : Int) = (List.length m : Int)))]) ([.im (List.map eI l) bl, .im (List.map eI m) bm]) [] σ 0)
def f33_p0F : Facts := ⟨(List.append (α := AOp × AV) [(.bin .neq (cT 0) (cT 1), (vt 2))] [(.len 0 (cF 0), (vt 0)), (.len 0 (cF 1), (vt 1)), mF 2]), [], [], []⟩
theorem f33_p0Q : keep [0, 1, 5] [] (stepK f33_p0F FF [0] 4000 [] (.code (fnOf FF 33).body) (tmpl (List.range f33W.length) f33W [])) = some (cutK (fnOf FF 33) 0, .loop (cutB (fnOf FF 33) 0), [(vf 0), (vf 1), (.int .i64 0)], [], 0) := by kernel_rfl
theorem f33_p0 (l : List Int) (bl : Bool) (m : List Int) (bm : Bool) (h0 : (List.length l : Int) = (List.length m : Int)) {z0 : St} {σ : Nat → Nat} (hσ : ∀ i j, σ i = σ j → i = j) (S : Sim (f33V l bl m bm σ) (tmpl (List.range f33W.length) f33W []) z0) {r0 : AV} (hj : ∀ (σ1 : Nat → Nat) (c1 : St), (∀ i j, σ1 i = σ1 j → i = j) → Sim (f33_0V l bl m bm 0 σ1) (tmpl [0, 1, 5] f33_0W f33_0C) c1 → J FF (fnOf FF 33) (cutK (fnOf FF 33) 0) (.code (.loop (cutB (fnOf FF 33) 0))) c1 r0) : J FF (fnOf FF 33) [] (.code (fnOf FF 33).body) z0 r0 :=
  J_next (show Hold FF (f33_p0V l bl m bm σ) f33_p0F from ⟨(valL_good hσ (okL (by kernel_rfl)) (.c (OkF.im eI_ok _ _) <| .c (OkF.im eI_ok _ _) <| .n) (.n)),
    holdF_of (AllP.append (rflF fun _ => by kernel_rfl) (.c (fLen (e := eI) (l := l) (b := bl) (by kernel_rfl) (by kernel_rfl)) <| .c (fLen (e := eI) (l := m) (b := bm) (by kernel_rfl) (by kernel_rfl)) <| .c (fT (by kernel_rfl) (nT h0)) <| .n)),
    holdA_of (.n),
    holdN_of (.n),
    holdS_of (.n)⟩) (S.more (ρ' := (f33_p0V l bl m bm σ)) (s0 := σ) (n0 := 0) rfl rfl rfl rfl (f33E l bl m bm σ) (f33G l bl m bm σ) (by kernel_rfl) (by kernel_rfl)) f33_p0Q f33_0W f33_0C (f33_0V l bl m bm 0 (sig σ [] 0)) (X := f33_0X l bl m bm 0 (sig σ [] 0)) (Y := f33_0Y l bl m bm 0 (sig σ [] 0)) rfl rfl (by kernel_rfl) (f33_0E l bl m bm 0 _) (by kernel_rfl) (f33_0G l bl m bm 0 _) (fun c1 hi S2 => hj _ c1 hi S2)
def f33_p1V (l : List Int) (bl : Bool) (m : List Int) (bm : Bool) (σ : Nat → Nat) : Val := (valL ([.int .i64 (List.length l : Int), .int .i64 (List.length m : Int), .bool (!decide ((List.length l : Int) = (List.length m : Int)))]) ([.im (List.map eI l) bl, .im (List.map eI m) bm]) [] σ 0)
def f33_p1F : Facts := ⟨(List.append (α := AOp × AV) [(.bin .neq (cT 0) (cT 1), (vt 2))] [(.len 0 (cF 0), (vt 0)), (.len 0 (cF 1), (vt 1)), mT 2]), [], [], []⟩
theorem f33_p1Q : endS (fnOf FF 33) (stepK f33_p1F FF [0] 4000 [] (.code (fnOf FF 33).body) (tmpl (List.range f33W.length) f33W [])) = some (.bool false) := by kernel_rfl
theorem f33_p1 (l : List Int) (bl : Bool) (m : List Int) (bm : Bool) (h0 : ¬ ((List.length l : Int) = (List.length m : Int))) {z0 : St} {σ : Nat → Nat} (hσ : ∀ i j, σ i = σ j → i = j) (S : Sim (f33V l bl m bm σ) (tmpl (List.range f33W.length) f33W []) z0) : J FF (fnOf FF 33) [] (.code (fnOf FF 33).body) z0 (.bool false) :=
  jR (R := gm (f33_p1V l bl m bm σ) (.bool false)) (by kernel_rfl) (J_end (show Hold FF (f33_p1V l bl m bm σ) f33_p1F from ⟨(valL_good hσ (okL (by kernel_rfl)) (.c (OkF.im eI_ok _ _) <| .c (OkF.im eI_ok _ _) <| .n) (.n)),
    holdF_of (AllP.append (rflF fun _ => by kernel_rfl) (.c (fLen (e := eI) (l := l) (b := bl) (by kernel_rfl) (by kernel_rfl)) <| .c (fLen (e := eI) (l := m) (b := bm) (by kernel_rfl) (by kernel_rfl)) <| .c (fT (by kernel_rfl) (nF h0)) <| .n)),
    holdA_of (.n),
    holdN_of (.n),
    holdS_of (.n)⟩) (S.more (ρ' := (f33_p1V l bl m bm σ)) (s0 := σ) (n0 := 0) rfl rfl rfl rfl (f33E l bl m bm σ) (f33G l bl m bm σ) (by kernel_rfl) (by kernel_rfl)) f33_p1Q)
theorem f33_ok {fu : Nat} (l : List Int) (bl : Bool) (m : List Int) (bm : Bool) {r0 : AV} (h : f33 fu l bl m bm = some r0) : Spec FF 33 [(.im (List.map eI l) bl), (.im (List.map eI m) bm)] r0 := by
  unfold f33 at h
  have hσ : ∀ i j : Nat, (fun i : Nat => i) i = (fun i : Nat => i) j → i = j := fun _ _ e => e
  exact spec_begin (ρ := f33V l bl m bm (fun i => i)) (xs := f33W) (by kernel_rfl) rfl rfl (by kernel_rfl) (fun z0 S => iteE h (fun h0 h => f33_p0 l bl m bm h0 hσ S (fun σ1 c1 hi S1 => f33_0_ok _ _ _ _ _ _ hi h S1)) (fun h0 h => jE h (f33_p1 l bl m bm h0 hσ S)))

def f49_0 : Nat → Int → Int → Int → Option AV
  | 0, _, _, _ => none
  | fu + 1, n, p0, p1 =>
    if p1 < 16 then
      if 0 ≤ p1 then if 0 ≤ (w64 (15 - p1)) then f49_0 fu n (bvT .or .i64 p0 (shT .shl .i64 (bvT .and .i64 (shT .shr .i64 n p1) 1) (w64 (15 - p1)))) (w64 (p1 + 1)) else none else none
    else
      some (.int .i64 p0)
def f49_0W : List AV := [(vt 0), (vt 1), (vt 2)]
def f49_0C : List Blk := []
def f49_0V (n : Int) (p0 : Int) (p1 : Int) (σ : Nat → Nat) : Val := (valL ([.int .i64 n, .int .i64 p0, .int .i64 p1]) ([]) [] σ 0)
def f49_0X (n : Int) (p0 : Int) (p1 : Int) (_σ : Nat → Nat) : List AV := [(.int .i64 n), (.int .i64 p0), (.int .i64 p1)]
def f49_0Y (_n : Int) (_p0 : Int) (_p1 : Int) (_σ : Nat → Nat) : List Blk := []
theorem f49_0E (n : Int) (p0 : Int) (p1 : Int) (σ : Nat → Nat) : f49_0W.map (gm (f49_0V n p0 p1 σ)) = f49_0X n p0 p1 σ := by kernel_rfl
theorem f49_0G (n : Int) (p0 : Int) (p1 : Int) (σ : Nat → Nat) : f49_0C.map (gB (f49_0V n p0 p1 σ)) = f49_0Y n p0 p1 σ := by kernel_rfl
def f49_0_p0V (n : Int) (p0 : Int) (p1 : Int) (σ : Nat → Nat) : Val := (valL ([.int .i64 n, .int .i64 p0, .int .i64 p1, .bool (decide (p1 < 16)), .int .i64 (shT .shr .i64 n p1), .int .i64 (bvT .and .i64 (shT .shr .i64 n p1) 1), .int .i64 (w64 (15 - p1)), .int .i64 (shT .shl .i64 (bvT .and .i64 (shT .shr .i64 n p1) 1) (w64 (15 - p1))), .int .i64 (bvT .or .i64 p0 (shT .shl .i64 (bvT .and .i64 (shT .shr .i64 n p1) 1) (w64 (15 - p1)))), .int .i64 (w64 (p1 + 1))]) ([]) [] σ 0)
def f49_0_p0F : Facts := ⟨(List.append (α := AOp × AV) [(.bin .lss (cT 2) (cI 16), (vt 3)), (.bin .sub (cI 15) (cT 2), (vt 6)), (.bin .add (cT 2) (cI 1), (vt 9))] [mT 3, (.bin .shr (cT 0) (cT 2), (vt 4)), (.bin .and (cT 4) (cI 1), (vt 5)), (.bin .shl (cT 5) (cT 6), (vt 7)), (.bin .or (cT 1) (cT 7), (vt 8))]), [], [], []⟩
theorem f49_0_p0Q : keep [0, 3, 5] [] (stepK f49_0_p0F FF [0] 4000 (.lp (cutB (fnOf FF 49) 0) :: cutK (fnOf FF 49) 0) (.code (cutB (fnOf FF 49) 0)) (tmpl [0, 3, 5] f49_0W f49_0C)) = some (cutK (fnOf FF 49) 0, .loop (cutB (fnOf FF 49) 0), [(vt 0), (vt 8), (vt 9)], [], 0) := by kernel_rfl
theorem f49_0_p0 (n : Int) (p0 : Int) (p1 : Int) (h0 : p1 < 16) (h1 : 0 ≤ p1) (h2 : 0 ≤ (w64 (15 - p1))) {z0 : St} {σ : Nat → Nat} (hσ : ∀ i j, σ i = σ j → i = j) (S : Sim (f49_0V n p0 p1 σ) (tmpl [0, 3, 5] f49_0W f49_0C) z0) {r0 : AV} (hj : ∀ (σ1 : Nat → Nat) (c1 : St), (∀ i j, σ1 i = σ1 j → i = j) → Sim (f49_0V n (bvT .or .i64 p0 (shT .shl .i64 (bvT .and .i64 (shT .shr .i64 n p1) 1) (w64 (15 - p1)))) (w64 (p1 + 1)) σ1) (tmpl [0, 3, 5] f49_0W f49_0C) c1 → J FF (fnOf FF 49) (cutK (fnOf FF 49) 0) (.code (.loop (cutB (fnOf FF 49) 0))) c1 r0) : J FF (fnOf FF 49) (.lp (cutB (fnOf FF 49) 0) :: cutK (fnOf FF 49) 0) (.code (cutB (fnOf FF 49) 0)) z0 r0 :=
  J_next (show Hold FF (f49_0_p0V n p0 p1 σ) f49_0_p0F from ⟨(valL_good hσ (okL (by kernel_rfl)) (.n) (.n)),
    holdF_of (AllP.append (rflF fun _ => by kernel_rfl) (.c (fT (by kernel_rfl) (decide_eq_true h0)) <| .c (fSh (k := .i64) (k' := .i64) (a := n) (b := p1) (by simp) (by kernel_rfl) (by kernel_rfl) h1 (by kernel_rfl)) <| .c (fBv (k := .i64) (a := (shT .shr .i64 n p1)) (b := 1) (by simp) (by kernel_rfl) (by kernel_rfl) (by kernel_rfl)) <| .c (fSh (k := .i64) (k' := .i64) (a := (bvT .and .i64 (shT .shr .i64 n p1) 1)) (b := (w64 (15 - p1))) (by simp) (by kernel_rfl) (by kernel_rfl) h2 (by kernel_rfl)) <| .c (fBv (k := .i64) (a := p0) (b := (shT .shl .i64 (bvT .and .i64 (shT .shr .i64 n p1) 1) (w64 (15 - p1)))) (by simp) (by kernel_rfl) (by kernel_rfl) (by kernel_rfl)) <| .n)),
    holdA_of (.n),
    holdN_of (.n),
    holdS_of (.n)⟩) (S.more (ρ' := (f49_0_p0V n p0 p1 σ)) (s0 := σ) (n0 := 0) rfl rfl rfl rfl (f49_0E n p0 p1 σ) (f49_0G n p0 p1 σ) (by kernel_rfl) (by kernel_rfl)) f49_0_p0Q f49_0W f49_0C (f49_0V n (bvT .or .i64 p0 (shT .shl .i64 (bvT .and .i64 (shT .shr .i64 n p1) 1) (w64 (15 - p1)))) (w64 (p1 + 1)) (sig σ [] 0)) (X := f49_0X n (bvT .or .i64 p0 (shT .shl .i64 (bvT .and .i64 (shT .shr .i64 n p1) 1) (w64 (15 - p1)))) (w64 (p1 + 1)) (sig σ [] 0)) (Y := f49_0Y n (bvT .or .i64 p0 (shT .shl .i64 (bvT .and .i64 (shT .shr .i64 n p1) 1) (w64 (15 - p1)))) (w64 (p1 + 1)) (sig σ [] 0)) rfl rfl (by kernel_rfl) (f49_0E n (bvT .or .i64 p0 (shT .shl .i64 (bvT .and .i64 (shT .shr .i64 n p1) 1) (w64 (15 - p1)))) (w64 (p1 + 1)) _) (by kernel_rfl) (f49_0G n (bvT .or .i64 p0 (shT .shl .i64 (bvT .and .i64 (shT .shr .i64 n p1) 1) (w64 (15 - p1)))) (w64 (p1 + 1)) _) (fun c1 hi S2 => hj _ c1 hi S2)
def f49_0_p1V (n : Int) (p0 : Int) (p1 : Int) (σ : Nat → Nat) : Val := (valL ([.int .i64 n, .int .i64 p0, .int .i64 p1, .bool (decide (p1 < 16))]) ([]) [] σ 0)
def f49_0_p1F : Facts := ⟨(List.append (α := AOp × AV) [(.bin .lss (cT 2) (cI 16), (vt 3))] [mF 3]), [], [], []⟩
theorem f49_0_p1Q : endS (fnOf FF 49) (stepK f49_0_p1F FF [0] 4000 (.lp (cutB (fnOf FF 49) 0) :: cutK (fnOf FF 49) 0) (.code (cutB (fnOf FF 49) 0)) (tmpl [0, 3, 5] f49_0W f49_0C)) = some (vt 1) := by kernel_rfl
theorem f49_0_p1 (n : Int) (p0 : Int) (p1 : Int) (h0 : ¬ (p1 < 16)) {z0 : St} {σ : Nat → Nat} (hσ : ∀ i j, σ i = σ j → i = j) (S : Sim (f49_0V n p0 p1 σ) (tmpl [0, 3, 5] f49_0W f49_0C) z0) : J FF (fnOf FF 49) (.lp (cutB (fnOf FF 49) 0) :: cutK (fnOf FF 49) 0) (.code (cutB (fnOf FF 49) 0)) z0 (.int .i64 p0) :=
  jR (R := gm (f49_0_p1V n p0 p1 σ) (vt 1)) (by kernel_rfl) (J_end (show Hold FF (f49_0_p1V n p0 p1 σ) f49_0_p1F from ⟨(valL_good hσ (okL (by kernel_rfl)) (.n) (.n)),
    holdF_of (AllP.append (rflF fun _ => by kernel_rfl) (.c (fT (by kernel_rfl) (decide_eq_false h0)) <| .n)),
    holdA_of (.n),
    holdN_of (.n),
    holdS_of (.n)⟩) (S.more (ρ' := (f49_0_p1V n p0 p1 σ)) (s0 := σ) (n0 := 0) rfl rfl rfl rfl (f49_0E n p0 p1 σ) (f49_0G n p0 p1 σ) (by kernel_rfl) (by kernel_rfl)) f49_0_p1Q)
theorem f49_0_ok : ∀ (fu : Nat) (n : Int) (p0 : Int) (p1 : Int) {r0 : AV} {z0 : St} {σ : Nat → Nat}, (∀ i j, σ i = σ j → i = j) → f49_0 fu n p0 p1 = some r0 → Sim (f49_0V n p0 p1 σ) (tmpl [0, 3, 5] f49_0W f49_0C) z0 → J FF (fnOf FF 49) (cutK (fnOf FF 49) 0) (.code (.loop (cutB (fnOf FF 49) 0))) z0 r0 := by
  intro fu
  induction fu with
  | zero =>
    intro _ _ _ _ _ _ _ h _
    unfold f49_0 at h
    cases h
  | succ fu ih =>
    intro n p0 p1 r0 z0 σ hσ h S
    unfold f49_0 at h
    exact J_enter (iteE h (fun h0 h => reqE h (fun h1 h => reqE h (fun h2 h => f49_0_p0 n p0 p1 h0 h1 h2 hσ S (fun σ1 c1 hi S1 => ih _ _ _ hi h S1)))) (fun h0 h => jE h (f49_0_p1 n p0 p1 h0 hσ S)))
def f49 (fu : Nat) (n : Int) : Option AV :=
  f49_0 fu n 0 0
def f49W : List AV := [(vt 0)]
def f49V (n : Int) (σ : Nat → Nat) : Val := (valL ([.int .i64 n]) ([]) [] σ 0)
def f49X (n : Int) (_σ : Nat → Nat) : List AV := [(.int .i64 n)]
def f49Y (_n : Int) (_σ : Nat → Nat) : List Blk := []
theorem f49E (n : Int) (σ : Nat → Nat) : f49W.map (gm (f49V n σ)) = f49X n σ := by kernel_rfl
theorem f49G (n : Int) (σ : Nat → Nat) : ([] : List Blk).map (gB (f49V n σ)) = f49Y n σ := by kernel_rfl
def f49_p0V (n : Int) (σ : Nat → Nat) : Val := (valL ([.int .i64 n]) ([]) [] σ 0)
def f49_p0F : Facts := ⟨(List.append (α := AOp × AV) [] []), [], [], []⟩
theorem f49_p0Q : keep [0, 3, 5] [] (stepK f49_p0F FF [0] 4000 [] (.code (fnOf FF 49).body) (tmpl (List.range f49W.length) f49W [])) = some (cutK (fnOf FF 49) 0, .loop (cutB (fnOf FF 49) 0), [(vt 0), (.int .i64 0), (.int .i64 0)], [], 0) := by kernel_rfl
theorem f49_p0 (n : Int) {z0 : St} {σ : Nat → Nat} (hσ : ∀ i j, σ i = σ j → i = j) (S : Sim (f49V n σ) (tmpl (List.range f49W.length) f49W []) z0) {r0 : AV} (hj : ∀ (σ1 : Nat → Nat) (c1 : St), (∀ i j, σ1 i = σ1 j → i = j) → Sim (f49_0V n 0 0 σ1) (tmpl [0, 3, 5] f49_0W f49_0C) c1 → J FF (fnOf FF 49) (cutK (fnOf FF 49) 0) (.code (.loop (cutB (fnOf FF 49) 0))) c1 r0) : J FF (fnOf FF 49) [] (.code (fnOf FF 49).body) z0 r0 :=
  J_next (show Hold FF (f49_p0V n σ) f49_p0F from ⟨(valL_good hσ (okL (by kernel_rfl)) (.n) (.n)),
    holdF_of (AllP.append (rflF fun _ => by kernel_rfl) (.n)),
    holdA_of (.n),
    holdN_of (.n),
    holdS_of (.n)⟩) (S.more (ρ' := (f49_p0V n σ)) (s0 := σ) (n0 := 0) rfl rfl rfl rfl (f49E n σ) (f49G n σ) (by kernel_rfl) (by kernel_rfl)) f49_p0Q f49_0W f49_0C (f49_0V n 0 0 (sig σ [] 0)) (X := f49_0X n 0 0 (sig σ [] 0)) (Y := f49_0Y n 0 0 (sig σ [] 0)) rfl rfl (by kernel_rfl) (f49_0E n 0 0 _) (by kernel_rfl) (f49_0G n 0 0 _) (fun c1 hi S2 => hj _ c1 hi S2)
theorem f49_ok {fu : Nat} (n : Int) {r0 : AV} (h : f49 fu n = some r0) : Spec FF 49 [(.int .i64 n)] r0 := by
  unfold f49 at h
  have hσ : ∀ i j : Nat, (fun i : Nat => i) i = (fun i : Nat => i) j → i = j := fun _ _ e => e
  exact spec_begin (ρ := f49V n (fun i => i)) (xs := f49W) (by kernel_rfl) rfl rfl (by kernel_rfl) (fun z0 S => f49_p0 n hσ S (fun σ1 c1 hi S1 => f49_0_ok _ _ _ _ hi h S1))

def f52 (l1 : List Int) (_bl1 : Bool) (l2 : List Int) (_bl2 : Bool) (l3 : List Int) (_bl3 : Bool) : Option AV :=
  if (w64 (0 + (List.length l1 : Int))) < 0 then
    none
  else
    if (w64 ((w64 (0 + (List.length l1 : Int))) + (List.length l2 : Int))) < 0 then
      none
    else
      if (w64 ((w64 ((w64 (0 + (List.length l1 : Int))) + (List.length l2 : Int))) + (List.length l3 : Int))) < 0 then
        none
      else
        if (w64 ((w64 ((w64 ((w64 (0 + (List.length l1 : Int))) + (List.length l2 : Int))) + (List.length l3 : Int))) - 0)) > 0 then
          if 0 < (w64 ((w64 ((w64 ((w64 (0 + (List.length l1 : Int))) + (List.length l2 : Int))) + (List.length l3 : Int))) - 0)) then if (List.length ([] : List Int) + Int.toNat (w64 ((w64 ((w64 ((w64 (0 + (List.length l1 : Int))) + (List.length l2 : Int))) + (List.length l3 : Int))) - 0))) * 8 ≤ roomB ∧ List.length ([] : List Int) + Int.toNat (w64 ((w64 ((w64 ((w64 (0 + (List.length l1 : Int))) + (List.length l2 : Int))) + (List.length l3 : Int))) - 0)) ≤ roomB then if (List.length ([] : List Int) + List.length l1) * 8 ≤ roomB ∧ List.length ([] : List Int) + List.length l1 ≤ roomB then if (List.length l1 + List.length l2) * 8 ≤ roomB ∧ List.length l1 + List.length l2 ≤ roomB then if (List.length (l1 ++ l2) + List.length l3) * 8 ≤ roomB ∧ List.length (l1 ++ l2) + List.length l3 ≤ roomB then some (.im (List.map eI ((l1 ++ l2) ++ l3)) false) else none else none else none else none else none
        else
          if l1 = [] then
            if l2 = [] then
              if l3 = [] then
                some (.im [] true)
              else
                if (List.length ([] : List Int) + List.length l3) * 8 ≤ roomB ∧ List.length ([] : List Int) + List.length l3 ≤ roomB then some (.im (List.map eI l3) false) else none
            else
              if (List.length ([] : List Int) + List.length l2) * 8 ≤ roomB ∧ List.length ([] : List Int) + List.length l2 ≤ roomB then if (List.length l2 + List.length l3) * 8 ≤ roomB ∧ List.length l2 + List.length l3 ≤ roomB then some (.im (List.map eI (l2 ++ l3)) false) else none else none
          else
            if (List.length ([] : List Int) + List.length l1) * 8 ≤ roomB ∧ List.length ([] : List Int) + List.length l1 ≤ roomB then if (List.length l1 + List.length l2) * 8 ≤ roomB ∧ List.length l1 + List.length l2 ≤ roomB then if (List.length (l1 ++ l2) + List.length l3) * 8 ≤ roomB ∧ List.length (l1 ++ l2) + List.length l3 ≤ roomB then some (.im (List.map eI ((l1 ++ l2) ++ l3)) false) else none else none else none
def f52W : List AV := [(.im [[(vf 0)], [(vf 1)], [(vf 2)]] true)]
def f52V (l1 : List Int) (bl1 : Bool) (l2 : List Int) (bl2 : Bool) (l3 : List Int) (bl3 : Bool) (σ : Nat → Nat) : Val := (valL ([]) ([.im (List.map eI l1) bl1, .im (List.map eI l2) bl2, .im (List.map eI l3) bl3]) [] σ 0)
def f52X (l1 : List Int) (bl1 : Bool) (l2 : List Int) (bl2 : Bool) (l3 : List Int) (bl3 : Bool) (_σ : Nat → Nat) : List AV := [(.im [[(.im (List.map eI l1) bl1)], [(.im (List.map eI l2) bl2)], [(.im (List.map eI l3) bl3)]] true)]
def f52Y (_l1 : List Int) (_bl1 : Bool) (_l2 : List Int) (_bl2 : Bool) (_l3 : List Int) (_bl3 : Bool) (_σ : Nat → Nat) : List Blk := []
theorem f52E (l1 : List Int) (bl1 : Bool) (l2 : List Int) (bl2 : Bool) (l3 : List Int) (bl3 : Bool) (σ : Nat → Nat) : f52W.map (gm (f52V l1 bl1 l2 bl2 l3 bl3 σ)) = f52X l1 bl1 l2 bl2 l3 bl3 σ := by kernel_rfl
theorem f52G (l1 : List Int) (bl1 : Bool) (l2 : List Int) (bl2 : Bool) (l3 : List Int) (bl3 : Bool) (σ : Nat → Nat) : ([] : List Blk).map (gB (f52V l1 bl1 l2 bl2 l3 bl3 σ)) = f52Y l1 bl1 l2 bl2 l3 bl3 σ := by kernel_rfl
def f52_p0V (l1 : List Int) (bl1 : Bool) (l2 : List Int) (bl2 : Bool) (l3 : List Int) (bl3 : Bool) (σ : Nat → Nat) : Val := (valL ([.int .i64 (List.length l1 : Int), .int .i64 (w64 (0 + (List.length l1 : Int))), .bool (decide ((w64 (0 + (List.length l1 : Int))) < 0)), .int .i64 (List.length l2 : Int), .int .i64 (w64 ((w64 (0 + (List.length l1 : Int))) + (List.length l2 : Int))), .bool (decide ((w64 ((w64 (0 + (List.length l1 : Int))) + (List.length l2 : Int))) < 0)), .int .i64 (List.length l3 : Int), .int .i64 (w64 ((w64 ((w64 (0 + (List.length l1 : Int))) + (List.length l2 : Int))) + (List.length l3 : Int))), .bool (decide ((w64 ((w64 ((w64 (0 + (List.length l1 : Int))) + (List.length l2 : Int))) + (List.length l3 : Int))) < 0)), .int .i64 (w64 ((w64 ((w64 ((w64 (0 + (List.length l1 : Int))) + (List.length l2 : Int))) + (List.length l3 : Int))) - 0)), .bool (decide ((w64 ((w64 ((w64 ((w64 (0 + (List.length l1 : Int))) + (List.length l2 : Int))) + (List.length l3 : Int))) - 0)) > 0))]) ([.im (List.map eI l1) bl1, .im (List.map eI l2) bl2, .im (List.map eI l3) bl3]) [(1, List.map eI (([] : List Int) ++ List.replicate (Int.toNat (w64 ((w64 ((w64 ((w64 (0 + (List.length l1 : Int))) + (List.length l2 : Int))) + (List.length l3 : Int))) - 0))) 0)), (1, List.map eI l1), (1, List.map eI (l1 ++ l2)), (1, List.map eI ((l1 ++ l2) ++ l3))] σ 0)
def f52_p0F : Facts := ⟨(List.append (α := AOp × AV) [(.bin .add (cI 0) (cT 0), (vt 1)), (.bin .lss (cT 1) (cI 0), (vt 2)), (.bin .add (cT 1) (cT 3), (vt 4)), (.bin .lss (cT 4) (cI 0), (vt 5)), (.bin .add (cT 4) (cT 6), (vt 7)), (.bin .lss (cT 7) (cI 0), (vt 8)), (.bin .sub (cT 7) (cI 0), (vt 9)), (.bin .gtr (cT 9) (cI 0), (vt 10))] [(.len 0 (cF 0), (vt 0)), mF 2, (.len 0 (cF 1), (vt 3)), mF 5, (.len 0 (cF 2), (vt 6)), mF 8, mT 10, (.slS 1 (.c (.sl 0 0 1000001 1 none)) none (some (cI 0)) none, (.sl 0 0 0 1 none))]), [⟨true, 1, 8, (.im [] true), (vf 0), 1001001⟩, ⟨true, 1, 8, (vf 1001001), (vf 1), 1002001⟩, ⟨true, 1, 8, (vf 1002001), (vf 2), 1003001⟩], [⟨1, 8, [(.int .i64 0)], (.im [] true), (vt 9), 1000001⟩], []⟩
theorem f52_p0Q : endS (fnOf FF 52) (stepK f52_p0F FF [] 4000 [] (.code (fnOf FF 52).body) (tmpl (List.range f52W.length) f52W [])) = some (vf 1003001) := by kernel_rfl
theorem f52_p0 (l1 : List Int) (bl1 : Bool) (l2 : List Int) (bl2 : Bool) (l3 : List Int) (bl3 : Bool) (h0 : ¬ ((w64 (0 + (List.length l1 : Int))) < 0)) (h1 : ¬ ((w64 ((w64 (0 + (List.length l1 : Int))) + (List.length l2 : Int))) < 0)) (h2 : ¬ ((w64 ((w64 ((w64 (0 + (List.length l1 : Int))) + (List.length l2 : Int))) + (List.length l3 : Int))) < 0)) (h3 : (w64 ((w64 ((w64 ((w64 (0 + (List.length l1 : Int))) + (List.length l2 : Int))) + (List.length l3 : Int))) - 0)) > 0) (h4 : 0 < (w64 ((w64 ((w64 ((w64 (0 + (List.length l1 : Int))) + (List.length l2 : Int))) + (List.length l3 : Int))) - 0))) (h5 : (List.length ([] : List Int) + Int.toNat (w64 ((w64 ((w64 ((w64 (0 + (List.length l1 : Int))) + (List.length l2 : Int))) + (List.length l3 : Int))) - 0))) * 8 ≤ roomB ∧ List.length ([] : List Int) + Int.toNat (w64 ((w64 ((w64 ((w64 (0 + (List.length l1 : Int))) + (List.length l2 : Int))) + (List.length l3 : Int))) - 0)) ≤ roomB) (h6 : (List.length ([] : List Int) + List.length l1) * 8 ≤ roomB ∧ List.length ([] : List Int) + List.length l1 ≤ roomB) (h7 : (List.length l1 + List.length l2) * 8 ≤ roomB ∧ List.length l1 + List.length l2 ≤ roomB) (h8 : (List.length (l1 ++ l2) + List.length l3) * 8 ≤ roomB ∧ List.length (l1 ++ l2) + List.length l3 ≤ roomB) {z0 : St} {σ : Nat → Nat} (hσ : ∀ i j, σ i = σ j → i = j) (S : Sim (f52V l1 bl1 l2 bl2 l3 bl3 σ) (tmpl (List.range f52W.length) f52W []) z0) : J FF (fnOf FF 52) [] (.code (fnOf FF 52).body) z0 (.im (List.map eI ((l1 ++ l2) ++ l3)) false) :=
  jR (R := gm (f52_p0V l1 bl1 l2 bl2 l3 bl3 σ) (vf 1003001)) (by kernel_rfl) (J_end (show Hold FF (f52_p0V l1 bl1 l2 bl2 l3 bl3 σ) f52_p0F from ⟨(valL_good hσ (okL (by kernel_rfl)) (.c (OkF.im eI_ok _ _) <| .c (OkF.im eI_ok _ _) <| .c (OkF.im eI_ok _ _) <| .n) (.c (OkO.own eI_ok _) <| .c (OkO.own eI_ok _) <| .c (OkO.own eI_ok _) <| .c (OkO.own eI_ok _) <| .n)),
    holdF_of (AllP.append (rflF fun _ => by kernel_rfl) (.c (fLen (e := eI) (l := l1) (b := bl1) (by kernel_rfl) (by kernel_rfl)) <| .c (fT (by kernel_rfl) (decide_eq_false h0)) <| .c (fLen (e := eI) (l := l2) (b := bl2) (by kernel_rfl) (by kernel_rfl)) <| .c (fT (by kernel_rfl) (decide_eq_false h1)) <| .c (fLen (e := eI) (l := l3) (b := bl3) (by kernel_rfl) (by kernel_rfl)) <| .c (fT (by kernel_rfl) (decide_eq_false h2)) <| .c (fT (by kernel_rfl) (decide_eq_true h3)) <| .c (fSlOwn0) <| .n)),
    holdA_of (.c (fApp (e := eI) (l := ([] : List Int)) (m := l1) (cb := true) (cx := bl1) (by kernel_rfl) (by kernel_rfl) (by kernel_rfl) h6 (.inl rfl) (by decide) (by decide) (by decide)) <| .c (fApp (e := eI) (l := l1) (m := l2) (cb := false) (cx := bl2) (by kernel_rfl) (by kernel_rfl) (by kernel_rfl) h7 (.inl rfl) (by decide) (by decide) (by decide)) <| .c (fApp (e := eI) (l := (l1 ++ l2)) (m := l3) (cb := false) (cx := bl3) (by kernel_rfl) (by kernel_rfl) (by kernel_rfl) h8 (.inl rfl) (by decide) (by decide) (by decide)) <| .n),
    holdN_of (.c (fApn (e := eI) (z := 0) (l := ([] : List Int)) (n := (w64 ((w64 ((w64 ((w64 (0 + (List.length l1 : Int))) + (List.length l2 : Int))) + (List.length l3 : Int))) - 0))) (kk := .i64) (by kernel_rfl) (by kernel_rfl) h4 (by kernel_rfl) h5 (by decide) (by decide) (by decide)) <| .n),
    holdS_of (.n)⟩) (S.more (ρ' := (f52_p0V l1 bl1 l2 bl2 l3 bl3 σ)) (s0 := σ) (n0 := 0) rfl rfl rfl rfl (f52E l1 bl1 l2 bl2 l3 bl3 σ) (f52G l1 bl1 l2 bl2 l3 bl3 σ) (by kernel_rfl) (by kernel_rfl)) f52_p0Q)
def f52_p1V (l1 : List Int) (bl1 : Bool) (l2 : List Int) (bl2 : Bool) (l3 : List Int) (bl3 : Bool) (σ : Nat → Nat) : Val := (valL ([.int .i64 (List.length l1 : Int), .int .i64 (w64 (0 + (List.length l1 : Int))), .bool (decide ((w64 (0 + (List.length l1 : Int))) < 0)), .int .i64 (List.length l2 : Int), .int .i64 (w64 ((w64 (0 + (List.length l1 : Int))) + (List.length l2 : Int))), .bool (decide ((w64 ((w64 (0 + (List.length l1 : Int))) + (List.length l2 : Int))) < 0)), .int .i64 (List.length l3 : Int), .int .i64 (w64 ((w64 ((w64 (0 + (List.length l1 : Int))) + (List.length l2 : Int))) + (List.length l3 : Int))), .bool (decide ((w64 ((w64 ((w64 (0 + (List.length l1 : Int))) + (List.length l2 : Int))) + (List.length l3 : Int))) < 0)), .int .i64 (w64 ((w64 ((w64 ((w64 (0 + (List.length l1 : Int))) + (List.length l2 : Int))) + (List.length l3 : Int))) - 0)), .bool (decide ((w64 ((w64 ((w64 ((w64 (0 + (List.length l1 : Int))) + (List.length l2 : Int))) + (List.length l3 : Int))) - 0)) > 0))]) ([.im (List.map eI l1) bl1, .im (List.map eI l2) bl2, .im (List.map eI l3) bl3]) [] σ 0)
def f52_p1F : Facts := ⟨(List.append (α := AOp × AV) [(.bin .add (cI 0) (cT 0), (vt 1)), (.bin .lss (cT 1) (cI 0), (vt 2)), (.bin .add (cT 1) (cT 3), (vt 4)), (.bin .lss (cT 4) (cI 0), (vt 5)), (.bin .add (cT 4) (cT 6), (vt 7)), (.bin .lss (cT 7) (cI 0), (vt 8)), (.bin .sub (cT 7) (cI 0), (vt 9)), (.bin .gtr (cT 9) (cI 0), (vt 10))] [(.len 0 (cF 0), (vt 0)), mF 2, (.len 0 (cF 1), (vt 3)), mF 5, (.len 0 (cF 2), (vt 6)), mF 8, mF 10, (.app 1 8 (.c (.im [] true)) (cF 0), (.im [] true)), (.app 1 8 (.c (.im [] true)) (cF 1), (.im [] true)), (.app 1 8 (.c (.im [] true)) (cF 2), (.im [] true))]), [], [], []⟩
theorem f52_p1Q : endS (fnOf FF 52) (stepK f52_p1F FF [] 4000 [] (.code (fnOf FF 52).body) (tmpl (List.range f52W.length) f52W [])) = some (.im [] true) := by kernel_rfl
theorem f52_p1 (l1 : List Int) (bl1 : Bool) (l2 : List Int) (bl2 : Bool) (l3 : List Int) (bl3 : Bool) (h0 : ¬ ((w64 (0 + (List.length l1 : Int))) < 0)) (h1 : ¬ ((w64 ((w64 (0 + (List.length l1 : Int))) + (List.length l2 : Int))) < 0)) (h2 : ¬ ((w64 ((w64 ((w64 (0 + (List.length l1 : Int))) + (List.length l2 : Int))) + (List.length l3 : Int))) < 0)) (h3 : ¬ ((w64 ((w64 ((w64 ((w64 (0 + (List.length l1 : Int))) + (List.length l2 : Int))) + (List.length l3 : Int))) - 0)) > 0)) (h4 : l1 = []) (h5 : l2 = []) (h6 : l3 = []) {z0 : St} {σ : Nat → Nat} (hσ : ∀ i j, σ i = σ j → i = j) (S : Sim (f52V l1 bl1 l2 bl2 l3 bl3 σ) (tmpl (List.range f52W.length) f52W []) z0) : J FF (fnOf FF 52) [] (.code (fnOf FF 52).body) z0 (.im [] true) :=
  jR (R := gm (f52_p1V l1 bl1 l2 bl2 l3 bl3 σ) (.im [] true)) (by kernel_rfl) (J_end (show Hold FF (f52_p1V l1 bl1 l2 bl2 l3 bl3 σ) f52_p1F from ⟨(valL_good hσ (okL (by kernel_rfl)) (.c (OkF.im eI_ok _ _) <| .c (OkF.im eI_ok _ _) <| .c (OkF.im eI_ok _ _) <| .n) (.n)),
    holdF_of (AllP.append (rflF fun _ => by kernel_rfl) (.c (fLen (e := eI) (l := l1) (b := bl1) (by kernel_rfl) (by kernel_rfl)) <| .c (fT (by kernel_rfl) (decide_eq_false h0)) <| .c (fLen (e := eI) (l := l2) (b := bl2) (by kernel_rfl) (by kernel_rfl)) <| .c (fT (by kernel_rfl) (decide_eq_false h1)) <| .c (fLen (e := eI) (l := l3) (b := bl3) (by kernel_rfl) (by kernel_rfl)) <| .c (fT (by kernel_rfl) (decide_eq_false h2)) <| .c (fT (by kernel_rfl) (decide_eq_false h3)) <| .c (fApp0 (A := List.map eI ([] : List Int)) (ca := true) (by kernel_rfl) (x := (vf 0)) (c := bl1) (show gm _ _ = _ from (show gm _ _ = .im (List.map eI l1) bl1 from (by kernel_rfl)).trans (by rw [h4]; rfl)) (by decide)) <| .c (fApp0 (A := List.map eI ([] : List Int)) (ca := true) (by kernel_rfl) (x := (vf 1)) (c := bl2) (show gm _ _ = _ from (show gm _ _ = .im (List.map eI l2) bl2 from (by kernel_rfl)).trans (by rw [h5]; rfl)) (by decide)) <| .c (fApp0 (A := List.map eI ([] : List Int)) (ca := true) (by kernel_rfl) (x := (vf 2)) (c := bl3) (show gm _ _ = _ from (show gm _ _ = .im (List.map eI l3) bl3 from (by kernel_rfl)).trans (by rw [h6]; rfl)) (by decide)) <| .n)),
    holdA_of (.n),
    holdN_of (.n),
    holdS_of (.n)⟩) (S.more (ρ' := (f52_p1V l1 bl1 l2 bl2 l3 bl3 σ)) (s0 := σ) (n0 := 0) rfl rfl rfl rfl (f52E l1 bl1 l2 bl2 l3 bl3 σ) (f52G l1 bl1 l2 bl2 l3 bl3 σ) (by kernel_rfl) (by kernel_rfl)) f52_p1Q)
def f52_p2V (l1 : List Int) (bl1 : Bool) (l2 : List Int) (bl2 : Bool) (l3 : List Int) (bl3 : Bool) (σ : Nat → Nat) : Val := (valL ([.int .i64 (List.length l1 : Int), .int .i64 (w64 (0 + (List.length l1 : Int))), .bool (decide ((w64 (0 + (List.length l1 : Int))) < 0)), .int .i64 (List.length l2 : Int), .int .i64 (w64 ((w64 (0 + (List.length l1 : Int))) + (List.length l2 : Int))), .bool (decide ((w64 ((w64 (0 + (List.length l1 : Int))) + (List.length l2 : Int))) < 0)), .int .i64 (List.length l3 : Int), .int .i64 (w64 ((w64 ((w64 (0 + (List.length l1 : Int))) + (List.length l2 : Int))) + (List.length l3 : Int))), .bool (decide ((w64 ((w64 ((w64 (0 + (List.length l1 : Int))) + (List.length l2 : Int))) + (List.length l3 : Int))) < 0)), .int .i64 (w64 ((w64 ((w64 ((w64 (0 + (List.length l1 : Int))) + (List.length l2 : Int))) + (List.length l3 : Int))) - 0)), .bool (decide ((w64 ((w64 ((w64 ((w64 (0 + (List.length l1 : Int))) + (List.length l2 : Int))) + (List.length l3 : Int))) - 0)) > 0))]) ([.im (List.map eI l1) bl1, .im (List.map eI l2) bl2, .im (List.map eI l3) bl3]) [(1, List.map eI l3)] σ 0)
def f52_p2F : Facts := ⟨(List.append (α := AOp × AV) [(.bin .add (cI 0) (cT 0), (vt 1)), (.bin .lss (cT 1) (cI 0), (vt 2)), (.bin .add (cT 1) (cT 3), (vt 4)), (.bin .lss (cT 4) (cI 0), (vt 5)), (.bin .add (cT 4) (cT 6), (vt 7)), (.bin .lss (cT 7) (cI 0), (vt 8)), (.bin .sub (cT 7) (cI 0), (vt 9)), (.bin .gtr (cT 9) (cI 0), (vt 10))] [(.len 0 (cF 0), (vt 0)), mF 2, (.len 0 (cF 1), (vt 3)), mF 5, (.len 0 (cF 2), (vt 6)), mF 8, mF 10, (.app 1 8 (.c (.im [] true)) (cF 0), (.im [] true)), (.app 1 8 (.c (.im [] true)) (cF 1), (.im [] true))]), [⟨false, 1, 8, (.im [] true), (vf 2), 1000001⟩], [], []⟩
theorem f52_p2Q : endS (fnOf FF 52) (stepK f52_p2F FF [] 4000 [] (.code (fnOf FF 52).body) (tmpl (List.range f52W.length) f52W [])) = some (vf 1000001) := by kernel_rfl
theorem f52_p2 (l1 : List Int) (bl1 : Bool) (l2 : List Int) (bl2 : Bool) (l3 : List Int) (bl3 : Bool) (h0 : ¬ ((w64 (0 + (List.length l1 : Int))) < 0)) (h1 : ¬ ((w64 ((w64 (0 + (List.length l1 : Int))) + (List.length l2 : Int))) < 0)) (h2 : ¬ ((w64 ((w64 ((w64 (0 + (List.length l1 : Int))) + (List.length l2 : Int))) + (List.length l3 : Int))) < 0)) (h3 : ¬ ((w64 ((w64 ((w64 ((w64 (0 + (List.length l1 : Int))) + (List.length l2 : Int))) + (List.length l3 : Int))) - 0)) > 0)) (h4 : l1 = []) (h5 : l2 = []) (h6 : ¬ (l3 = [])) (h7 : (List.length ([] : List Int) + List.length l3) * 8 ≤ roomB ∧ List.length ([] : List Int) + List.length l3 ≤ roomB) {z0 : St} {σ : Nat → Nat} (hσ : ∀ i j, σ i = σ j → i = j) (S : Sim (f52V l1 bl1 l2 bl2 l3 bl3 σ) (tmpl (List.range f52W.length) f52W []) z0) : J FF (fnOf FF 52) [] (.code (fnOf FF 52).body) z0 (.im (List.map eI l3) false) :=
  jR (R := gm (f52_p2V l1 bl1 l2 bl2 l3 bl3 σ) (vf 1000001)) (by kernel_rfl) (J_end (show Hold FF (f52_p2V l1 bl1 l2 bl2 l3 bl3 σ) f52_p2F from ⟨(valL_good hσ (okL (by kernel_rfl)) (.c (OkF.im eI_ok _ _) <| .c (OkF.im eI_ok _ _) <| .c (OkF.im eI_ok _ _) <| .n) (.c (OkO.own eI_ok _) <| .n)),
    holdF_of (AllP.append (rflF fun _ => by kernel_rfl) (.c (fLen (e := eI) (l := l1) (b := bl1) (by kernel_rfl) (by kernel_rfl)) <| .c (fT (by kernel_rfl) (decide_eq_false h0)) <| .c (fLen (e := eI) (l := l2) (b := bl2) (by kernel_rfl) (by kernel_rfl)) <| .c (fT (by kernel_rfl) (decide_eq_false h1)) <| .c (fLen (e := eI) (l := l3) (b := bl3) (by kernel_rfl) (by kernel_rfl)) <| .c (fT (by kernel_rfl) (decide_eq_false h2)) <| .c (fT (by kernel_rfl) (decide_eq_false h3)) <| .c (fApp0 (A := List.map eI ([] : List Int)) (ca := true) (by kernel_rfl) (x := (vf 0)) (c := bl1) (show gm _ _ = _ from (show gm _ _ = .im (List.map eI l1) bl1 from (by kernel_rfl)).trans (by rw [h4]; rfl)) (by decide)) <| .c (fApp0 (A := List.map eI ([] : List Int)) (ca := true) (by kernel_rfl) (x := (vf 1)) (c := bl2) (show gm _ _ = _ from (show gm _ _ = .im (List.map eI l2) bl2 from (by kernel_rfl)).trans (by rw [h5]; rfl)) (by decide)) <| .n)),
    holdA_of (.c (fApp (e := eI) (l := ([] : List Int)) (m := l3) (cb := true) (cx := bl3) (by kernel_rfl) (by kernel_rfl) (by kernel_rfl) h7 (.inr ⟨rfl, h6⟩) (by decide) (by decide) (by decide)) <| .n),
    holdN_of (.n),
    holdS_of (.n)⟩) (S.more (ρ' := (f52_p2V l1 bl1 l2 bl2 l3 bl3 σ)) (s0 := σ) (n0 := 0) rfl rfl rfl rfl (f52E l1 bl1 l2 bl2 l3 bl3 σ) (f52G l1 bl1 l2 bl2 l3 bl3 σ) (by kernel_rfl) (by kernel_rfl)) f52_p2Q)
def f52_p3V (l1 : List Int) (bl1 : Bool) (l2 : List Int) (bl2 : Bool) (l3 : List Int) (bl3 : Bool) (σ : Nat → Nat) : Val := (valL ([.int .i64 (List.length l1 : Int), .int .i64 (w64 (0 + (List.length l1 : Int))), .bool (decide ((w64 (0 + (List.length l1 : Int))) < 0)), .int .i64 (List.length l2 : Int), .int .i64 (w64 ((w64 (0 + (List.length l1 : Int))) + (List.length l2 : Int))), .bool (decide ((w64 ((w64 (0 + (List.length l1 : Int))) + (List.length l2 : Int))) < 0)), .int .i64 (List.length l3 : Int), .int .i64 (w64 ((w64 ((w64 (0 + (List.length l1 : Int))) + (List.length l2 : Int))) + (List.length l3 : Int))), .bool (decide ((w64 ((w64 ((w64 (0 + (List.length l1 : Int))) + (List.length l2 : Int))) + (List.length l3 : Int))) < 0)), .int .i64 (w64 ((w64 ((w64 ((w64 (0 + (List.length l1 : Int))) + (List.length l2 : Int))) + (List.length l3 : Int))) - 0)), .bool (decide ((w64 ((w64 ((w64 ((w64 (0 + (List.length l1 : Int))) + (List.length l2 : Int))) + (List.length l3 : Int))) - 0)) > 0))]) ([.im (List.map eI l1) bl1, .im (List.map eI l2) bl2, .im (List.map eI l3) bl3]) [(1, List.map eI l2), (1, List.map eI (l2 ++ l3))] σ 0)
def f52_p3F : Facts := ⟨(List.append (α := AOp × AV) [(.bin .add (cI 0) (cT 0), (vt 1)), (.bin .lss (cT 1) (cI 0), (vt 2)), (.bin .add (cT 1) (cT 3), (vt 4)), (.bin .lss (cT 4) (cI 0), (vt 5)), (.bin .add (cT 4) (cT 6), (vt 7)), (.bin .lss (cT 7) (cI 0), (vt 8)), (.bin .sub (cT 7) (cI 0), (vt 9)), (.bin .gtr (cT 9) (cI 0), (vt 10))] [(.len 0 (cF 0), (vt 0)), mF 2, (.len 0 (cF 1), (vt 3)), mF 5, (.len 0 (cF 2), (vt 6)), mF 8, mF 10, (.app 1 8 (.c (.im [] true)) (cF 0), (.im [] true))]), [⟨false, 1, 8, (.im [] true), (vf 1), 1000001⟩, ⟨true, 1, 8, (vf 1000001), (vf 2), 1001001⟩], [], []⟩
theorem f52_p3Q : endS (fnOf FF 52) (stepK f52_p3F FF [] 4000 [] (.code (fnOf FF 52).body) (tmpl (List.range f52W.length) f52W [])) = some (vf 1001001) := by kernel_rfl
theorem f52_p3 (l1 : List Int) (bl1 : Bool) (l2 : List Int) (bl2 : Bool) (l3 : List Int) (bl3 : Bool) (h0 : ¬ ((w64 (0 + (List.length l1 : Int))) < 0)) (h1 : ¬ ((w64 ((w64 (0 + (List.length l1 : Int))) + (List.length l2 : Int))) < 0)) (h2 : ¬ ((w64 ((w64 ((w64 (0 + (List.length l1 : Int))) + (List.length l2 : Int))) + (List.length l3 : Int))) < 0)) (h3 : ¬ ((w64 ((w64 ((w64 ((w64 (0 + (List.length l1 : Int))) + (List.length l2 : Int))) + (List.length l3 : Int))) - 0)) > 0)) (h4 : l1 = []) (h5 : ¬ (l2 = [])) (h6 : (List.length ([] : List Int) + List.length l2) * 8 ≤ roomB ∧ List.length ([] : List Int) + List.length l2 ≤ roomB) (h7 : (List.length l2 + List.length l3) * 8 ≤ roomB ∧ List.length l2 + List.length l3 ≤ roomB) {z0 : St} {σ : Nat → Nat} (hσ : ∀ i j, σ i = σ j → i = j) (S : Sim (f52V l1 bl1 l2 bl2 l3 bl3 σ) (tmpl (List.range f52W.length) f52W []) z0) : J FF (fnOf FF 52) [] (.code (fnOf FF 52).body) z0 (.im (List.map eI (l2 ++ l3)) false) :=
  jR (R := gm (f52_p3V l1 bl1 l2 bl2 l3 bl3 σ) (vf 1001001)) (by kernel_rfl) (J_end (show Hold FF (f52_p3V l1 bl1 l2 bl2 l3 bl3 σ) f52_p3F from ⟨(valL_good hσ (okL (by kernel_rfl)) (.c (OkF.im eI_ok _ _) <| .c (OkF.im eI_ok _ _) <| .c (OkF.im eI_ok _ _) <| .n) (.c (OkO.own eI_ok _) <| .c (OkO.own eI_ok _) <| .n)),
    holdF_of (AllP.append (rflF fun _ => by kernel_rfl) (.c (fLen (e := eI) (l := l1) (b := bl1) (by kernel_rfl) (by kernel_rfl)) <| .c (fT (by kernel_rfl) (decide_eq_false h0)) <| .c (fLen (e := eI) (l := l2) (b := bl2) (by kernel_rfl) (by kernel_rfl)) <| .c (fT (by kernel_rfl) (decide_eq_false h1)) <| .c (fLen (e := eI) (l := l3) (b := bl3) (by kernel_rfl) (by kernel_rfl)) <| .c (fT (by kernel_rfl) (decide_eq_false h2)) <| .c (fT (by kernel_rfl) (decide_eq_false h3)) <| .c (fApp0 (A := List.map eI ([] : List Int)) (ca := true) (by kernel_rfl) (x := (vf 0)) (c := bl1) (show gm _ _ = _ from (show gm _ _ = .im (List.map eI l1) bl1 from (by kernel_rfl)).trans (by rw [h4]; rfl)) (by decide)) <| .n)),
    holdA_of (.c (fApp (e := eI) (l := ([] : List Int)) (m := l2) (cb := true) (cx := bl2) (by kernel_rfl) (by kernel_rfl) (by kernel_rfl) h6 (.inr ⟨rfl, h5⟩) (by decide) (by decide) (by decide)) <| .c (fApp (e := eI) (l := l2) (m := l3) (cb := false) (cx := bl3) (by kernel_rfl) (by kernel_rfl) (by kernel_rfl) h7 (.inl rfl) (by decide) (by decide) (by decide)) <| .n),
    holdN_of (.n),
    holdS_of (.n)⟩) (S.more (ρ' := (f52_p3V l1 bl1 l2 bl2 l3 bl3 σ)) (s0 := σ) (n0 := 0) rfl rfl rfl rfl (f52E l1 bl1 l2 bl2 l3 bl3 σ) (f52G l1 bl1 l2 bl2 l3 bl3 σ) (by kernel_rfl) (by kernel_rfl)) f52_p3Q)
def f52_p4V (l1 : List Int) (bl1 : Bool) (l2 : List Int) (bl2 : Bool) (l3 : List Int) (bl3 : Bool) (σ : Nat → Nat) : Val := (valL ([.int .i64 (List.length l1 : Int), .int .i64 (w64 (0 + (List.length l1 : Int))), .bool (decide ((w64 (0 + (List.length l1 : Int))) < 0)), .int .i64 (List.length l2 : Int), .int .i64 (w64 ((w64 (0 + (List.length l1 : Int))) + (List.length l2 : Int))), .bool (decide ((w64 ((w64 (0 + (List.length l1 : Int))) + (List.length l2 : Int))) < 0)), .int .i64 (List.length l3 : Int), .int .i64 (w64 ((w64 ((w64 (0 + (List.length l1 : Int))) + (List.length l2 : Int))) + (List.length l3 : Int))), .bool (decide ((w64 ((w64 ((w64 (0 + (List.length l1 : Int))) + (List.length l2 : Int))) + (List.length l3 : Int))) < 0)), .int .i64 (w64 ((w64 ((w64 ((w64 (0 + (List.length l1 : Int))) + (List.length l2 : Int))) + (List.length l3 : Int))) - 0)), .bool (decide ((w64 ((w64 ((w64 ((w64 (0 + (List.length l1 : Int))) + (List.length l2 : Int))) + (List.length l3 : Int))) - 0)) > 0))]) ([.im (List.map eI l1) bl1, .im (List.map eI l2) bl2, .im (List.map eI l3) bl3]) [(1, List.map eI l1), (1, List.map eI (l1 ++ l2)), (1, List.map eI ((l1 ++ l2) ++ l3))] σ 0)
def f52_p4F : Facts := ⟨(List.append (α := AOp × AV) [(.bin .add (cI 0) (cT 0), (vt 1)), (.bin .lss (cT 1) (cI 0), (vt 2)), (.bin .add (cT 1) (cT 3), (vt 4)), (.bin .lss (cT 4) (cI 0), (vt 5)), (.bin .add (cT 4) (cT 6), (vt 7)), (.bin .lss (cT 7) (cI 0), (vt 8)), (.bin .sub (cT 7) (cI 0), (vt 9)), (.bin .gtr (cT 9) (cI 0), (vt 10))] [(.len 0 (cF 0), (vt 0)), mF 2, (.len 0 (cF 1), (vt 3)), mF 5, (.len 0 (cF 2), (vt 6)), mF 8, mF 10]), [⟨false, 1, 8, (.im [] true), (vf 0), 1000001⟩, ⟨true, 1, 8, (vf 1000001), (vf 1), 1001001⟩, ⟨true, 1, 8, (vf 1001001), (vf 2), 1002001⟩], [], []⟩
theorem f52_p4Q : endS (fnOf FF 52) (stepK f52_p4F FF [] 4000 [] (.code (fnOf FF 52).body) (tmpl (List.range f52W.length) f52W [])) = some (vf 1002001) := by kernel_rfl
theorem f52_p4 (l1 : List Int) (bl1 : Bool) (l2 : List Int) (bl2 : Bool) (l3 : List Int) (bl3 : Bool) (h0 : ¬ ((w64 (0 + (List.length l1 : Int))) < 0)) (h1 : ¬ ((w64 ((w64 (0 + (List.length l1 : Int))) + (List.length l2 : Int))) < 0)) (h2 : ¬ ((w64 ((w64 ((w64 (0 + (List.length l1 : Int))) + (List.length l2 : Int))) + (List.length l3 : Int))) < 0)) (h3 : ¬ ((w64 ((w64 ((w64 ((w64 (0 + (List.length l1 : Int))) + (List.length l2 : Int))) + (List.length l3 : Int))) - 0)) > 0)) (h4 : ¬ (l1 = [])) (h5 : (List.length ([] : List Int) + List.length l1) * 8 ≤ roomB ∧ List.length ([] : List Int) + List.length l1 ≤ roomB) (h6 : (List.length l1 + List.length l2) * 8 ≤ roomB ∧ List.length l1 + List.length l2 ≤ roomB) (h7 : (List.length (l1 ++ l2) + List.length l3) * 8 ≤ roomB ∧ List.length (l1 ++ l2) + List.length l3 ≤ roomB) {z0 : St} {σ : Nat → Nat} (hσ : ∀ i j, σ i = σ j → i = j) (S : Sim (f52V l1 bl1 l2 bl2 l3 bl3 σ) (tmpl (List.range f52W.length) f52W []) z0) : J FF (fnOf FF 52) [] (.code (fnOf FF 52).body) z0 (.im (List.map eI ((l1 ++ l2) ++ l3)) false) :=
  jR (R := gm (f52_p4V l1 bl1 l2 bl2 l3 bl3 σ) (vf 1002001)) (by kernel_rfl) (J_end (show Hold FF (f52_p4V l1 bl1 l2 bl2 l3 bl3 σ) f52_p4F from ⟨(valL_good hσ (okL (by kernel_rfl)) (.c (OkF.im eI_ok _ _) <| .c (OkF.im eI_ok _ _) <| .c (OkF.im eI_ok _ _) <| .n) (.c (OkO.own eI_ok _) <| .c (OkO.own eI_ok _) <| .c (OkO.own eI_ok _) <| .n)),
    holdF_of (AllP.append (rflF fun _ => by kernel_rfl) (.c (fLen (e := eI) (l := l1) (b := bl1) (by kernel_rfl) (by kernel_rfl)) <| .c (fT (by kernel_rfl) (decide_eq_false h0)) <| .c (fLen (e := eI) (l := l2) (b := bl2) (by kernel_rfl) (by kernel_rfl)) <| .c (fT (by kernel_rfl) (decide_eq_false h1)) <| .c (fLen (e := eI) (l := l3) (b := bl3) (by kernel_rfl) (by kernel_rfl)) <| .c (fT (by kernel_rfl) (decide_eq_false h2)) <| .c (fT (by kernel_rfl) (decide_eq_false h3)) <| .n)),
    holdA_of (.c (fApp (e := eI) (l := ([] : List Int)) (m := l1) (cb := true) (cx := bl1) (by kernel_rfl) (by kernel_rfl) (by kernel_rfl) h5 (.inr ⟨rfl, h4⟩) (by decide) (by decide) (by decide)) <| .c (fApp (e := eI) (l := l1) (m := l2) (cb := false) (cx := bl2) (by kernel_rfl) (by kernel_rfl) (by kernel_rfl) h6 (.inl rfl) (by decide) (by decide) (by decide)) <| .c (fApp (e := eI) (l := (l1 ++ l2)) (m := l3) (cb := false) (cx := bl3) (by kernel_rfl) (by kernel_rfl) (by kernel_rfl) h7 (.inl rfl) (by decide) (by decide) (by decide)) <| .n),
    holdN_of (.n),
    holdS_of (.n)⟩) (S.more (ρ' := (f52_p4V l1 bl1 l2 bl2 l3 bl3 σ)) (s0 := σ) (n0 := 0) rfl rfl rfl rfl (f52E l1 bl1 l2 bl2 l3 bl3 σ) (f52G l1 bl1 l2 bl2 l3 bl3 σ) (by kernel_rfl) (by kernel_rfl)) f52_p4Q)
theorem f52_ok (l1 : List Int) (bl1 : Bool) (l2 : List Int) (bl2 : Bool) (l3 : List Int) (bl3 : Bool) {r0 : AV} (h : f52 l1 bl1 l2 bl2 l3 bl3 = some r0) : Spec FF 52 [(.im [[(.im (List.map eI l1) bl1)], [(.im (List.map eI l2) bl2)], [(.im (List.map eI l3) bl3)]] true)] r0 := by
  unfold f52 at h
  have hσ : ∀ i j : Nat, (fun i : Nat => i) i = (fun i : Nat => i) j → i = j := fun _ _ e => e
  exact spec_begin (ρ := f52V l1 bl1 l2 bl2 l3 bl3 (fun i => i)) (xs := f52W) (by kernel_rfl) rfl rfl (by kernel_rfl) (fun z0 S => iteE h (fun _ h => nomatch h) (fun h0 h => iteE h (fun _ h => nomatch h) (fun h1 h => iteE h (fun _ h => nomatch h) (fun h2 h => iteE h (fun h3 h => reqE h (fun h4 h => reqE h (fun h5 h => reqE h (fun h6 h => reqE h (fun h7 h => reqE h (fun h8 h => jE h (f52_p0 l1 bl1 l2 bl2 l3 bl3 h0 h1 h2 h3 h4 h5 h6 h7 h8 hσ S))))))) (fun h3 h => iteE h (fun h4 h => iteE h (fun h5 h => iteE h (fun h6 h => jE h (f52_p1 l1 bl1 l2 bl2 l3 bl3 h0 h1 h2 h3 h4 h5 h6 hσ S)) (fun h6 h => reqE h (fun h7 h => jE h (f52_p2 l1 bl1 l2 bl2 l3 bl3 h0 h1 h2 h3 h4 h5 h6 h7 hσ S)))) (fun h5 h => reqE h (fun h6 h => reqE h (fun h7 h => jE h (f52_p3 l1 bl1 l2 bl2 l3 bl3 h0 h1 h2 h3 h4 h5 h6 h7 hσ S))))) (fun h4 h => reqE h (fun h5 h => reqE h (fun h6 h => reqE h (fun h7 h => jE h (f52_p4 l1 bl1 l2 bl2 l3 bl3 h0 h1 h2 h3 h4 h5 h6 h7 hσ S))))))))))

def f28 (m : Md) (p : Int) (l : List Int) (bl : Bool) : Option AV :=
  if p = 0 then
    some (Md.av (Md.setQ m 0 ⟨l, bl⟩))
  else
    if p = 1 then
      some (Md.av (Md.setQ m 1 ⟨l, bl⟩))
    else
      if p = 2 then
        some (Md.av (Md.setQ m 2 ⟨l, bl⟩))
      else
        if p = 3 then
          some (Md.av (Md.setQ m 3 ⟨l, bl⟩))
        else
          if p = 4 then
            some (Md.av (Md.setQ m 4 ⟨l, bl⟩))
          else
            if p = 5 then
              some (Md.av (Md.setQ m 5 ⟨l, bl⟩))
            else
              if p = 6 then
                some (Md.av (Md.setQ m 6 ⟨l, bl⟩))
              else
                if p = 7 then some (Md.av (Md.setQ m 7 ⟨l, bl⟩)) else none
def f28W : List AV := [(.agg (vF 0 10 ++ vT 0 32)), (vt 32), (vf 10)]
def f28V (m : Md) (p : Int) (l : List Int) (bl : Bool) (σ : Nat → Nat) : Val := (valL (ap (mdT m) ([.int .i64 p])) (ap (mdF m) ([.im (List.map eI l) bl])) [] σ 0)
def f28X (m : Md) (p : Int) (l : List Int) (bl : Bool) (_σ : Nat → Nat) : List AV := [(Md.av m), (.int .i64 p), (.im (List.map eI l) bl)]
def f28Y (_m : Md) (_p : Int) (_l : List Int) (_bl : Bool) (_σ : Nat → Nat) : List Blk := []
theorem f28E (m : Md) (p : Int) (l : List Int) (bl : Bool) (σ : Nat → Nat) : f28W.map (gm (f28V m p l bl σ)) = f28X m p l bl σ := by kernel_rfl
theorem f28G (m : Md) (p : Int) (l : List Int) (bl : Bool) (σ : Nat → Nat) : ([] : List Blk).map (gB (f28V m p l bl σ)) = f28Y m p l bl σ := by kernel_rfl
def f28_p0V (m : Md) (p : Int) (l : List Int) (bl : Bool) (σ : Nat → Nat) : Val := (valL (ap (mdT m) ([.int .i64 p])) (ap (mdF m) ([.im (List.map eI l) bl])) [] σ 0)
def f28_p0F : Facts := ⟨(List.append (α := AOp × AV) [] [(.iaA 8 1 (.c (.ptr 0 0)) (cT 32), (.ptr 0 0))]), [], [], []⟩
theorem f28_p0Q : endS (fnOf FF 28) (stepK f28_p0F FF [] 4000 [] (.code (fnOf FF 28).body) (tmpl (List.range f28W.length) f28W [])) = some (.agg ([(vf 10)] ++ vF 1 9 ++ vT 0 32)) := by kernel_rfl
theorem f28_p0 (m : Md) (p : Int) (l : List Int) (bl : Bool) (h0 : p = 0) {z0 : St} {σ : Nat → Nat} (hσ : ∀ i j, σ i = σ j → i = j) (S : Sim (f28V m p l bl σ) (tmpl (List.range f28W.length) f28W []) z0) : J FF (fnOf FF 28) [] (.code (fnOf FF 28).body) z0 (Md.av (Md.setQ m 0 ⟨l, bl⟩)) :=
  jR (R := gm (f28_p0V m p l bl σ) (.agg ([(vf 10)] ++ vF 1 9 ++ vT 0 32))) (by kernel_rfl) (J_end (show Hold FF (f28_p0V m p l bl σ) f28_p0F from ⟨(valL_good hσ (okL (by kernel_rfl)) (AllP.ap (mdF_ok m) (.c (OkF.im eI_ok _ _) <| .n)) (.n)),
    holdF_of (AllP.append (rflF fun _ => by kernel_rfl) (.c (fIaP (j := 0) (k := .i64) (n := p) (by kernel_rfl) h0 (by decide)) <| .n)),
    holdA_of (.n),
    holdN_of (.n),
    holdS_of (.n)⟩) (S.more (ρ' := (f28_p0V m p l bl σ)) (s0 := σ) (n0 := 0) rfl rfl rfl rfl (f28E m p l bl σ) (f28G m p l bl σ) (by kernel_rfl) (by kernel_rfl)) f28_p0Q)
def f28_p1V (m : Md) (p : Int) (l : List Int) (bl : Bool) (σ : Nat → Nat) : Val := (valL (ap (mdT m) ([.int .i64 p])) (ap (mdF m) ([.im (List.map eI l) bl])) [] σ 0)
def f28_p1F : Facts := ⟨(List.append (α := AOp × AV) [] [(.iaA 8 1 (.c (.ptr 0 0)) (cT 32), (.ptr 0 1))]), [], [], []⟩
theorem f28_p1Q : endS (fnOf FF 28) (stepK f28_p1F FF [] 4000 [] (.code (fnOf FF 28).body) (tmpl (List.range f28W.length) f28W [])) = some (.agg ([(vf 0), (vf 10)] ++ vF 2 8 ++ vT 0 32)) := by kernel_rfl
theorem f28_p1 (m : Md) (p : Int) (l : List Int) (bl : Bool) (_h0 : ¬ (p = 0)) (h1 : p = 1) {z0 : St} {σ : Nat → Nat} (hσ : ∀ i j, σ i = σ j → i = j) (S : Sim (f28V m p l bl σ) (tmpl (List.range f28W.length) f28W []) z0) : J FF (fnOf FF 28) [] (.code (fnOf FF 28).body) z0 (Md.av (Md.setQ m 1 ⟨l, bl⟩)) :=
  jR (R := gm (f28_p1V m p l bl σ) (.agg ([(vf 0), (vf 10)] ++ vF 2 8 ++ vT 0 32))) (by kernel_rfl) (J_end (show Hold FF (f28_p1V m p l bl σ) f28_p1F from ⟨(valL_good hσ (okL (by kernel_rfl)) (AllP.ap (mdF_ok m) (.c (OkF.im eI_ok _ _) <| .n)) (.n)),
    holdF_of (AllP.append (rflF fun _ => by kernel_rfl) (.c (fIaP (j := 1) (k := .i64) (n := p) (by kernel_rfl) h1 (by decide)) <| .n)),
    holdA_of (.n),
    holdN_of (.n),
    holdS_of (.n)⟩) (S.more (ρ' := (f28_p1V m p l bl σ)) (s0 := σ) (n0 := 0) rfl rfl rfl rfl (f28E m p l bl σ) (f28G m p l bl σ) (by kernel_rfl) (by kernel_rfl)) f28_p1Q)
def f28_p2V (m : Md) (p : Int) (l : List Int) (bl : Bool) (σ : Nat → Nat) : Val := (valL (ap (mdT m) ([.int .i64 p])) (ap (mdF m) ([.im (List.map eI l) bl])) [] σ 0)
def f28_p2F : Facts := ⟨(List.append (α := AOp × AV) [] [(.iaA 8 1 (.c (.ptr 0 0)) (cT 32), (.ptr 0 2))]), [], [], []⟩
theorem f28_p2Q : endS (fnOf FF 28) (stepK f28_p2F FF [] 4000 [] (.code (fnOf FF 28).body) (tmpl (List.range f28W.length) f28W [])) = some (.agg ([(vf 0), (vf 1), (vf 10)] ++ vF 3 7 ++ vT 0 32)) := by kernel_rfl
theorem f28_p2 (m : Md) (p : Int) (l : List Int) (bl : Bool) (_h0 : ¬ (p = 0)) (_h1 : ¬ (p = 1)) (h2 : p = 2) {z0 : St} {σ : Nat → Nat} (hσ : ∀ i j, σ i = σ j → i = j) (S : Sim (f28V m p l bl σ) (tmpl (List.range f28W.length) f28W []) z0) : J FF (fnOf FF 28) [] (.code (fnOf FF 28).body) z0 (Md.av (Md.setQ m 2 ⟨l, bl⟩)) :=
  jR (R := gm (f28_p2V m p l bl σ) (.agg ([(vf 0), (vf 1), (vf 10)] ++ vF 3 7 ++ vT 0 32))) (by kernel_rfl) (J_end (show Hold FF (f28_p2V m p l bl σ) f28_p2F from ⟨(valL_good hσ (okL (by kernel_rfl)) (AllP.ap (mdF_ok m) (.c (OkF.im eI_ok _ _) <| .n)) (.n)),
    holdF_of (AllP.append (rflF fun _ => by kernel_rfl) (.c (fIaP (j := 2) (k := .i64) (n := p) (by kernel_rfl) h2 (by decide)) <| .n)),
    holdA_of (.n),
    holdN_of (.n),
    holdS_of (.n)⟩) (S.more (ρ' := (f28_p2V m p l bl σ)) (s0 := σ) (n0 := 0) rfl rfl rfl rfl (f28E m p l bl σ) (f28G m p l bl σ) (by kernel_rfl) (by kernel_rfl)) f28_p2Q)
def f28_p3V (m : Md) (p : Int) (l : List Int) (bl : Bool) (σ : Nat → Nat) : Val := (valL (ap (mdT m) ([.int .i64 p])) (ap (mdF m) ([.im (List.map eI l) bl])) [] σ 0)
def f28_p3F : Facts := ⟨(List.append (α := AOp × AV) [] [(.iaA 8 1 (.c (.ptr 0 0)) (cT 32), (.ptr 0 3))]), [], [], []⟩
theorem f28_p3Q : endS (fnOf FF 28) (stepK f28_p3F FF [] 4000 [] (.code (fnOf FF 28).body) (tmpl (List.range f28W.length) f28W [])) = some (.agg ([(vf 0), (vf 1), (vf 2), (vf 10)] ++ vF 4 6 ++ vT 0 32)) := by kernel_rfl
theorem f28_p3 (m : Md) (p : Int) (l : List Int) (bl : Bool) (_h0 : ¬ (p = 0)) (_h1 : ¬ (p = 1)) (_h2 : ¬ (p = 2)) (h3 : p = 3) {z0 : St} {σ : Nat → Nat} (hσ : ∀ i j, σ i = σ j → i = j) (S : Sim (f28V m p l bl σ) (tmpl (List.range f28W.length) f28W []) z0) : J FF (fnOf FF 28) [] (.code (fnOf FF 28).body) z0 (Md.av (Md.setQ m 3 ⟨l, bl⟩)) :=
  jR (R := gm (f28_p3V m p l bl σ) (.agg ([(vf 0), (vf 1), (vf 2), (vf 10)] ++ vF 4 6 ++ vT 0 32))) (by kernel_rfl) (J_end (show Hold FF (f28_p3V m p l bl σ) f28_p3F from ⟨(valL_good hσ (okL (by kernel_rfl)) (AllP.ap (mdF_ok m) (.c (OkF.im eI_ok _ _) <| .n)) (.n)),
    holdF_of (AllP.append (rflF fun _ => by kernel_rfl) (.c (fIaP (j := 3) (k := .i64) (n := p) (by kernel_rfl) h3 (by decide)) <| .n)),
    holdA_of (.n),
    holdN_of (.n),
    holdS_of (.n)⟩) (S.more (ρ' := (f28_p3V m p l bl σ)) (s0 := σ) (n0 := 0) rfl rfl rfl rfl (f28E m p l bl σ) (f28G m p l bl σ) (by kernel_rfl) (by kernel_rfl)) f28_p3Q)
def f28_p4V (m : Md) (p : Int) (l : List Int) (bl : Bool) (σ : Nat → Nat) : Val := (valL (ap (mdT m) ([.int .i64 p])) (ap (mdF m) ([.im (List.map eI l) bl])) [] σ 0)
def f28_p4F : Facts := ⟨(List.append (α := AOp × AV) [] [(.iaA 8 1 (.c (.ptr 0 0)) (cT 32), (.ptr 0 4))]), [], [], []⟩
theorem f28_p4Q : endS (fnOf FF 28) (stepK f28_p4F FF [] 4000 [] (.code (fnOf FF 28).body) (tmpl (List.range f28W.length) f28W [])) = some (.agg (vF 0 4 ++ [(vf 10)] ++ vF 5 5 ++ vT 0 32)) := by kernel_rfl
theorem f28_p4 (m : Md) (p : Int) (l : List Int) (bl : Bool) (_h0 : ¬ (p = 0)) (_h1 : ¬ (p = 1)) (_h2 : ¬ (p = 2)) (_h3 : ¬ (p = 3)) (h4 : p = 4) {z0 : St} {σ : Nat → Nat} (hσ : ∀ i j, σ i = σ j → i = j) (S : Sim (f28V m p l bl σ) (tmpl (List.range f28W.length) f28W []) z0) : J FF (fnOf FF 28) [] (.code (fnOf FF 28).body) z0 (Md.av (Md.setQ m 4 ⟨l, bl⟩)) :=
  jR (R := gm (f28_p4V m p l bl σ) (.agg (vF 0 4 ++ [(vf 10)] ++ vF 5 5 ++ vT 0 32))) (by kernel_rfl) (J_end (show Hold FF (f28_p4V m p l bl σ) f28_p4F from ⟨(valL_good hσ (okL (by kernel_rfl)) (AllP.ap (mdF_ok m) (.c (OkF.im eI_ok _ _) <| .n)) (.n)),
    holdF_of (AllP.append (rflF fun _ => by kernel_rfl) (.c (fIaP (j := 4) (k := .i64) (n := p) (by kernel_rfl) h4 (by decide)) <| .n)),
    holdA_of (.n),
    holdN_of (.n),
    holdS_of (.n)⟩) (S.more (ρ' := (f28_p4V m p l bl σ)) (s0 := σ) (n0 := 0) rfl rfl rfl rfl (f28E m p l bl σ) (f28G m p l bl σ) (by kernel_rfl) (by kernel_rfl)) f28_p4Q)
def f28_p5V (m : Md) (p : Int) (l : List Int) (bl : Bool) (σ : Nat → Nat) : Val := (valL (ap (mdT m) ([.int .i64 p])) (ap (mdF m) ([.im (List.map eI l) bl])) [] σ 0)
def f28_p5F : Facts := ⟨(List.append (α := AOp × AV) [] [(.iaA 8 1 (.c (.ptr 0 0)) (cT 32), (.ptr 0 5))]), [], [], []⟩
theorem f28_p5Q : endS (fnOf FF 28) (stepK f28_p5F FF [] 4000 [] (.code (fnOf FF 28).body) (tmpl (List.range f28W.length) f28W [])) = some (.agg (vF 0 5 ++ [(vf 10)] ++ vF 6 4 ++ vT 0 32)) := by kernel_rfl
theorem f28_p5 (m : Md) (p : Int) (l : List Int) (bl : Bool) (_h0 : ¬ (p = 0)) (_h1 : ¬ (p = 1)) (_h2 : ¬ (p = 2)) (_h3 : ¬ (p = 3)) (_h4 : ¬ (p = 4)) (h5 : p = 5) {z0 : St} {σ : Nat → Nat} (hσ : ∀ i j, σ i = σ j → i = j) (S : Sim (f28V m p l bl σ) (tmpl (List.range f28W.length) f28W []) z0) : J FF (fnOf FF 28) [] (.code (fnOf FF 28).body) z0 (Md.av (Md.setQ m 5 ⟨l, bl⟩)) :=
  jR (R := gm (f28_p5V m p l bl σ) (.agg (vF 0 5 ++ [(vf 10)] ++ vF 6 4 ++ vT 0 32))) (by kernel_rfl) (J_end (show Hold FF (f28_p5V m p l bl σ) f28_p5F from ⟨(valL_good hσ (okL (by kernel_rfl)) (AllP.ap (mdF_ok m) (.c (OkF.im eI_ok _ _) <| .n)) (.n)),
    holdF_of (AllP.append (rflF fun _ => by kernel_rfl) (.c (fIaP (j := 5) (k := .i64) (n := p) (by kernel_rfl) h5 (by decide)) <| .n)),
    holdA_of (.n),
    holdN_of (.n),
    holdS_of (.n)⟩) (S.more (ρ' := (f28_p5V m p l bl σ)) (s0 := σ) (n0 := 0) rfl rfl rfl rfl (f28E m p l bl σ) (f28G m p l bl σ) (by kernel_rfl) (by kernel_rfl)) f28_p5Q)
def f28_p6V (m : Md) (p : Int) (l : List Int) (bl : Bool) (σ : Nat → Nat) : Val := (valL (ap (mdT m) ([.int .i64 p])) (ap (mdF m) ([.im (List.map eI l) bl])) [] σ 0)
def f28_p6F : Facts := ⟨(List.append (α := AOp × AV) [] [(.iaA 8 1 (.c (.ptr 0 0)) (cT 32), (.ptr 0 6))]), [], [], []⟩
theorem f28_p6Q : endS (fnOf FF 28) (stepK f28_p6F FF [] 4000 [] (.code (fnOf FF 28).body) (tmpl (List.range f28W.length) f28W [])) = some (.agg (vF 0 6 ++ [(vf 10), (vf 7), (vf 8), (vf 9)] ++ vT 0 32)) := by kernel_rfl
theorem f28_p6 (m : Md) (p : Int) (l : List Int) (bl : Bool) (_h0 : ¬ (p = 0)) (_h1 : ¬ (p = 1)) (_h2 : ¬ (p = 2)) (_h3 : ¬ (p = 3)) (_h4 : ¬ (p = 4)) (_h5 : ¬ (p = 5)) (h6 : p = 6) {z0 : St} {σ : Nat → Nat} (hσ : ∀ i j, σ i = σ j → i = j) (S : Sim (f28V m p l bl σ) (tmpl (List.range f28W.length) f28W []) z0) : J FF (fnOf FF 28) [] (.code (fnOf FF 28).body) z0 (Md.av (Md.setQ m 6 ⟨l, bl⟩)) :=
  jR (R := gm (f28_p6V m p l bl σ) (.agg (vF 0 6 ++ [(vf 10), (vf 7), (vf 8), (vf 9)] ++ vT 0 32))) (by kernel_rfl) (J_end (show Hold FF (f28_p6V m p l bl σ) f28_p6F from ⟨(valL_good hσ (okL (by kernel_rfl)) (AllP.ap (mdF_ok m) (.c (OkF.im eI_ok _ _) <| .n)) (.n)),
    holdF_of (AllP.append (rflF fun _ => by kernel_rfl) (.c (fIaP (j := 6) (k := .i64) (n := p) (by kernel_rfl) h6 (by decide)) <| .n)),
    holdA_of (.n),
    holdN_of (.n),
    holdS_of (.n)⟩) (S.more (ρ' := (f28_p6V m p l bl σ)) (s0 := σ) (n0 := 0) rfl rfl rfl rfl (f28E m p l bl σ) (f28G m p l bl σ) (by kernel_rfl) (by kernel_rfl)) f28_p6Q)
def f28_p7V (m : Md) (p : Int) (l : List Int) (bl : Bool) (σ : Nat → Nat) : Val := (valL (ap (mdT m) ([.int .i64 p])) (ap (mdF m) ([.im (List.map eI l) bl])) [] σ 0)
def f28_p7F : Facts := ⟨(List.append (α := AOp × AV) [] [(.iaA 8 1 (.c (.ptr 0 0)) (cT 32), (.ptr 0 7))]), [], [], []⟩
theorem f28_p7Q : endS (fnOf FF 28) (stepK f28_p7F FF [] 4000 [] (.code (fnOf FF 28).body) (tmpl (List.range f28W.length) f28W [])) = some (.agg (vF 0 7 ++ [(vf 10), (vf 8), (vf 9)] ++ vT 0 32)) := by kernel_rfl
theorem f28_p7 (m : Md) (p : Int) (l : List Int) (bl : Bool) (_h0 : ¬ (p = 0)) (_h1 : ¬ (p = 1)) (_h2 : ¬ (p = 2)) (_h3 : ¬ (p = 3)) (_h4 : ¬ (p = 4)) (_h5 : ¬ (p = 5)) (_h6 : ¬ (p = 6)) (h7 : p = 7) {z0 : St} {σ : Nat → Nat} (hσ : ∀ i j, σ i = σ j → i = j) (S : Sim (f28V m p l bl σ) (tmpl (List.range f28W.length) f28W []) z0) : J FF (fnOf FF 28) [] (.code (fnOf FF 28).body) z0 (Md.av (Md.setQ m 7 ⟨l, bl⟩)) :=
  jR (R := gm (f28_p7V m p l bl σ) (.agg (vF 0 7 ++ [(vf 10), (vf 8), (vf 9)] ++ vT 0 32))) (by kernel_rfl) (J_end (show Hold FF (f28_p7V m p l bl σ) f28_p7F from ⟨(valL_good hσ (okL (by kernel_rfl)) (AllP.ap (mdF_ok m) (.c (OkF.im eI_ok _ _) <| .n)) (.n)),
    holdF_of (AllP.append (rflF fun _ => by kernel_rfl) (.c (fIaP (j := 7) (k := .i64) (n := p) (by kernel_rfl) h7 (by decide)) <| .n)),
    holdA_of (.n),
    holdN_of (.n),
    holdS_of (.n)⟩) (S.more (ρ' := (f28_p7V m p l bl σ)) (s0 := σ) (n0 := 0) rfl rfl rfl rfl (f28E m p l bl σ) (f28G m p l bl σ) (by kernel_rfl) (by kernel_rfl)) f28_p7Q)
theorem f28_ok (m : Md) (p : Int) (l : List Int) (bl : Bool) {r0 : AV} (h : f28 m p l bl = some r0) : Spec FF 28 [(Md.av m), (.int .i64 p), (.im (List.map eI l) bl)] r0 := by
  unfold f28 at h
  have hσ : ∀ i j : Nat, (fun i : Nat => i) i = (fun i : Nat => i) j → i = j := fun _ _ e => e
  exact spec_begin (ρ := f28V m p l bl (fun i => i)) (xs := f28W) (by kernel_rfl) rfl rfl (by kernel_rfl) (fun z0 S => iteE h (fun h0 h => jE h (f28_p0 m p l bl h0 hσ S)) (fun h0 h => iteE h (fun h1 h => jE h (f28_p1 m p l bl h0 h1 hσ S)) (fun h1 h => iteE h (fun h2 h => jE h (f28_p2 m p l bl h0 h1 h2 hσ S)) (fun h2 h => iteE h (fun h3 h => jE h (f28_p3 m p l bl h0 h1 h2 h3 hσ S)) (fun h3 h => iteE h (fun h4 h => jE h (f28_p4 m p l bl h0 h1 h2 h3 h4 hσ S)) (fun h4 h => iteE h (fun h5 h => jE h (f28_p5 m p l bl h0 h1 h2 h3 h4 h5 hσ S)) (fun h5 h => iteE h (fun h6 h => jE h (f28_p6 m p l bl h0 h1 h2 h3 h4 h5 h6 hσ S)) (fun h6 h => reqE h (fun h7 h => jE h (f28_p7 m p l bl h0 h1 h2 h3 h4 h5 h6 h7 hσ S))))))))))

def f32 (m : Md) (e : Int) : Option AV :=
  if e = 0 then
    if (m.e 0) = true then
      some (.tup [(Md.av (Md.setE m 0 (!(m.s 0)))), (.int .i64 1)])
    else
      some (.tup [(Md.av (Md.setE m 0 false)), (.int .i64 0)])
  else
    if e = 1 then
      if (m.e 1) = true then
        some (.tup [(Md.av (Md.setE m 1 (!(m.s 1)))), (.int .i64 1)])
      else
        some (.tup [(Md.av (Md.setE m 1 false)), (.int .i64 0)])
    else
      if e = 2 then
        if (m.e 2) = true then
          some (.tup [(Md.av (Md.setE m 2 (!(m.s 2)))), (.int .i64 1)])
        else
          some (.tup [(Md.av (Md.setE m 2 false)), (.int .i64 0)])
      else
        if e = 3 then
          if (m.e 3) = true then
            some (.tup [(Md.av (Md.setE m 3 (!(m.s 3)))), (.int .i64 1)])
          else
            some (.tup [(Md.av (Md.setE m 3 false)), (.int .i64 0)])
        else
          if e = 4 then
            if (m.e 4) = true then
              some (.tup [(Md.av (Md.setE m 4 (!(m.s 4)))), (.int .i64 1)])
            else
              some (.tup [(Md.av (Md.setE m 4 false)), (.int .i64 0)])
          else
            if e = 5 then
              if (m.e 5) = true then
                some (.tup [(Md.av (Md.setE m 5 (!(m.s 5)))), (.int .i64 1)])
              else
                some (.tup [(Md.av (Md.setE m 5 false)), (.int .i64 0)])
            else
              if e = 6 then
                if (m.e 6) = true then
                  some (.tup [(Md.av (Md.setE m 6 (!(m.s 6)))), (.int .i64 1)])
                else
                  some (.tup [(Md.av (Md.setE m 6 false)), (.int .i64 0)])
              else
                if e = 7 then
                  if (m.e 7) = true then
                    some (.tup [(Md.av (Md.setE m 7 (!(m.s 7)))), (.int .i64 1)])
                  else
                    some (.tup [(Md.av (Md.setE m 7 false)), (.int .i64 0)])
                else
                  if e = 8 then
                    if (m.e 8) = true then
                      some (.tup [(Md.av (Md.setE m 8 (!(m.s 8)))), (.int .i64 1)])
                    else
                      some (.tup [(Md.av (Md.setE m 8 false)), (.int .i64 0)])
                  else
                    if e = 9 then
                      if (m.e 9) = true then
                        some (.tup [(Md.av (Md.setE m 9 (!(m.s 9)))), (.int .i64 1)])
                      else
                        some (.tup [(Md.av (Md.setE m 9 false)), (.int .i64 0)])
                    else
                      if e = 10 then
                        if (m.e 10) = true then
                          some (.tup [(Md.av (Md.setE m 10 (!(m.s 10)))), (.int .i64 1)])
                        else
                          some (.tup [(Md.av (Md.setE m 10 false)), (.int .i64 0)])
                      else
                        if e = 11 then
                          if (m.e 11) = true then
                            some (.tup [(Md.av (Md.setE m 11 (!(m.s 11)))), (.int .i64 1)])
                          else
                            some (.tup [(Md.av (Md.setE m 11 false)), (.int .i64 0)])
                        else
                          if e = 12 then
                            if (m.e 12) = true then
                              some (.tup [(Md.av (Md.setE m 12 (!(m.s 12)))), (.int .i64 1)])
                            else
                              some (.tup [(Md.av (Md.setE m 12 false)), (.int .i64 0)])
                          else
                            if e = 13 then
                              if (m.e 13) = true then
                                some (.tup [(Md.av (Md.setE m 13 (!(m.s 13)))), (.int .i64 1)])
                              else
                                some (.tup [(Md.av (Md.setE m 13 false)), (.int .i64 0)])
                            else
                              if e = 14 then
                                if (m.e 14) = true then
                                  some (.tup [(Md.av (Md.setE m 14 (!(m.s 14)))), (.int .i64 1)])
                                else
                                  some (.tup [(Md.av (Md.setE m 14 false)), (.int .i64 0)])
                              else
                                if e = 15 then if (m.e 15) = true then
                                  some (.tup [(Md.av (Md.setE m 15 (!(m.s 15)))), (.int .i64 1)])
                                else
                                  some (.tup [(Md.av (Md.setE m 15 false)), (.int .i64 0)]) else none
def f32W : List AV := [(.agg (vF 0 10 ++ vT 0 32)), (vt 32)]
def f32V (m : Md) (e : Int) (σ : Nat → Nat) : Val := (valL (ap (mdT m) ([.int .i64 e])) (mdF m) [] σ 0)
def f32X (m : Md) (e : Int) (_σ : Nat → Nat) : List AV := [(Md.av m), (.int .i64 e)]
def f32Y (_m : Md) (_e : Int) (_σ : Nat → Nat) : List Blk := []
theorem f32E (m : Md) (e : Int) (σ : Nat → Nat) : f32W.map (gm (f32V m e σ)) = f32X m e σ := by kernel_rfl
theorem f32G (m : Md) (e : Int) (σ : Nat → Nat) : ([] : List Blk).map (gB (f32V m e σ)) = f32Y m e σ := by kernel_rfl
def f32_p0V (m : Md) (e : Int) (σ : Nat → Nat) : Val := (valL (ap (mdT m) ([.int .i64 e, .bool (!(m.s 0))])) (mdF m) [] σ 0)
def f32_p0F : Facts := ⟨(List.append (α := AOp × AV) [(.un .not (cT 16), (vt 33))] [(.iaA 16 1 (.c (.ptr 0 10)) (cT 32), (.ptr 0 10)), mT 0, (.iaA 16 1 (.c (.ptr 0 26)) (cT 32), (.ptr 0 26))]), [], [], []⟩
theorem f32_p0Q : endS (fnOf FF 32) (stepK f32_p0F FF [] 4000 [] (.code (fnOf FF 32).body) (tmpl (List.range f32W.length) f32W [])) = some (.tup [(.agg (vF 0 10 ++ [(vt 33)] ++ vT 1 31)), (.int .i64 1)]) := by kernel_rfl
theorem f32_p0 (m : Md) (e : Int) (h0 : e = 0) (h1 : (m.e 0) = true) {z0 : St} {σ : Nat → Nat} (hσ : ∀ i j, σ i = σ j → i = j) (S : Sim (f32V m e σ) (tmpl (List.range f32W.length) f32W []) z0) : J FF (fnOf FF 32) [] (.code (fnOf FF 32).body) z0 (.tup [(Md.av (Md.setE m 0 (!(m.s 0)))), (.int .i64 1)]) :=
  jR (R := gm (f32_p0V m e σ) (.tup [(.agg (vF 0 10 ++ [(vt 33)] ++ vT 1 31)), (.int .i64 1)])) (by kernel_rfl) (J_end (show Hold FF (f32_p0V m e σ) f32_p0F from ⟨(valL_good hσ (okL (by kernel_rfl)) (mdF_ok m) (.n)),
    holdF_of (AllP.append (rflF fun _ => by kernel_rfl) (.c (fIaP (j := 0) (k := .i64) (n := e) (by kernel_rfl) h0 (by decide)) <| .c (fT (by kernel_rfl) h1) <| .c (fIaP (j := 0) (k := .i64) (n := e) (by kernel_rfl) h0 (by decide)) <| .n)),
    holdA_of (.n),
    holdN_of (.n),
    holdS_of (.n)⟩) (S.more (ρ' := (f32_p0V m e σ)) (s0 := σ) (n0 := 0) rfl rfl rfl rfl (f32E m e σ) (f32G m e σ) (by kernel_rfl) (by kernel_rfl)) f32_p0Q)
def f32_p1V (m : Md) (e : Int) (σ : Nat → Nat) : Val := (valL (ap (mdT m) ([.int .i64 e])) (mdF m) [] σ 0)
def f32_p1F : Facts := ⟨(List.append (α := AOp × AV) [] [(.iaA 16 1 (.c (.ptr 0 10)) (cT 32), (.ptr 0 10)), mF 0]), [], [], []⟩
theorem f32_p1Q : endS (fnOf FF 32) (stepK f32_p1F FF [] 4000 [] (.code (fnOf FF 32).body) (tmpl (List.range f32W.length) f32W [])) = some (.tup [(.agg (vF 0 10 ++ [(.bool false)] ++ vT 1 31)), (.int .i64 0)]) := by kernel_rfl
theorem f32_p1 (m : Md) (e : Int) (h0 : e = 0) (h1 : ¬ ((m.e 0) = true)) {z0 : St} {σ : Nat → Nat} (hσ : ∀ i j, σ i = σ j → i = j) (S : Sim (f32V m e σ) (tmpl (List.range f32W.length) f32W []) z0) : J FF (fnOf FF 32) [] (.code (fnOf FF 32).body) z0 (.tup [(Md.av (Md.setE m 0 false)), (.int .i64 0)]) :=
  jR (R := gm (f32_p1V m e σ) (.tup [(.agg (vF 0 10 ++ [(.bool false)] ++ vT 1 31)), (.int .i64 0)])) (by kernel_rfl) (J_end (show Hold FF (f32_p1V m e σ) f32_p1F from ⟨(valL_good hσ (okL (by kernel_rfl)) (mdF_ok m) (.n)),
    holdF_of (AllP.append (rflF fun _ => by kernel_rfl) (.c (fIaP (j := 0) (k := .i64) (n := e) (by kernel_rfl) h0 (by decide)) <| .c (fT (by kernel_rfl) (bF h1)) <| .n)),
    holdA_of (.n),
    holdN_of (.n),
    holdS_of (.n)⟩) (S.more (ρ' := (f32_p1V m e σ)) (s0 := σ) (n0 := 0) rfl rfl rfl rfl (f32E m e σ) (f32G m e σ) (by kernel_rfl) (by kernel_rfl)) f32_p1Q)
def f32_p2V (m : Md) (e : Int) (σ : Nat → Nat) : Val := (valL (ap (mdT m) ([.int .i64 e, .bool (!(m.s 1))])) (mdF m) [] σ 0)
def f32_p2F : Facts := ⟨(List.append (α := AOp × AV) [(.un .not (cT 17), (vt 33))] [(.iaA 16 1 (.c (.ptr 0 10)) (cT 32), (.ptr 0 11)), mT 1, (.iaA 16 1 (.c (.ptr 0 26)) (cT 32), (.ptr 0 27))]), [], [], []⟩
theorem f32_p2Q : endS (fnOf FF 32) (stepK f32_p2F FF [] 4000 [] (.code (fnOf FF 32).body) (tmpl (List.range f32W.length) f32W [])) = some (.tup [(.agg (vF 0 10 ++ [(vt 0), (vt 33)] ++ vT 2 30)), (.int .i64 1)]) := by kernel_rfl
theorem f32_p2 (m : Md) (e : Int) (_h0 : ¬ (e = 0)) (h1 : e = 1) (h2 : (m.e 1) = true) {z0 : St} {σ : Nat → Nat} (hσ : ∀ i j, σ i = σ j → i = j) (S : Sim (f32V m e σ) (tmpl (List.range f32W.length) f32W []) z0) : J FF (fnOf FF 32) [] (.code (fnOf FF 32).body) z0 (.tup [(Md.av (Md.setE m 1 (!(m.s 1)))), (.int .i64 1)]) :=
  jR (R := gm (f32_p2V m e σ) (.tup [(.agg (vF 0 10 ++ [(vt 0), (vt 33)] ++ vT 2 30)), (.int .i64 1)])) (by kernel_rfl) (J_end (show Hold FF (f32_p2V m e σ) f32_p2F from ⟨(valL_good hσ (okL (by kernel_rfl)) (mdF_ok m) (.n)),
    holdF_of (AllP.append (rflF fun _ => by kernel_rfl) (.c (fIaP (j := 1) (k := .i64) (n := e) (by kernel_rfl) h1 (by decide)) <| .c (fT (by kernel_rfl) h2) <| .c (fIaP (j := 1) (k := .i64) (n := e) (by kernel_rfl) h1 (by decide)) <| .n)),
    holdA_of (.n),
    holdN_of (.n),
    holdS_of (.n)⟩) (S.more (ρ' := (f32_p2V m e σ)) (s0 := σ) (n0 := 0) rfl rfl rfl rfl (f32E m e σ) (f32G m e σ) (by kernel_rfl) (by kernel_rfl)) f32_p2Q)
def f32_p3V (m : Md) (e : Int) (σ : Nat → Nat) : Val := (valL (ap (mdT m) ([.int .i64 e])) (mdF m) [] σ 0)
def f32_p3F : Facts := ⟨(List.append (α := AOp × AV) [] [(.iaA 16 1 (.c (.ptr 0 10)) (cT 32), (.ptr 0 11)), mF 1]), [], [], []⟩
theorem f32_p3Q : endS (fnOf FF 32) (stepK f32_p3F FF [] 4000 [] (.code (fnOf FF 32).body) (tmpl (List.range f32W.length) f32W [])) = some (.tup [(.agg (vF 0 10 ++ [(vt 0), (.bool false)] ++ vT 2 30)), (.int .i64 0)]) := by kernel_rfl
theorem f32_p3 (m : Md) (e : Int) (_h0 : ¬ (e = 0)) (h1 : e = 1) (h2 : ¬ ((m.e 1) = true)) {z0 : St} {σ : Nat → Nat} (hσ : ∀ i j, σ i = σ j → i = j) (S : Sim (f32V m e σ) (tmpl (List.range f32W.length) f32W []) z0) : J FF (fnOf FF 32) [] (.code (fnOf FF 32).body) z0 (.tup [(Md.av (Md.setE m 1 false)), (.int .i64 0)]) :=
  jR (R := gm (f32_p3V m e σ) (.tup [(.agg (vF 0 10 ++ [(vt 0), (.bool false)] ++ vT 2 30)), (.int .i64 0)])) (by kernel_rfl) (J_end (show Hold FF (f32_p3V m e σ) f32_p3F from ⟨(valL_good hσ (okL (by kernel_rfl)) (mdF_ok m) (.n)),
    holdF_of (AllP.append (rflF fun _ => by kernel_rfl) (.c (fIaP (j := 1) (k := .i64) (n := e) (by kernel_rfl) h1 (by decide)) <| .c (fT (by kernel_rfl) (bF h2)) <| .n)),
    holdA_of (.n),
    holdN_of (.n),
    holdS_of (.n)⟩) (S.more (ρ' := (f32_p3V m e σ)) (s0 := σ) (n0 := 0) rfl rfl rfl rfl (f32E m e σ) (f32G m e σ) (by kernel_rfl) (by kernel_rfl)) f32_p3Q)
def f32_p4V (m : Md) (e : Int) (σ : Nat → Nat) : Val := (valL (ap (mdT m) ([.int .i64 e, .bool (!(m.s 2))])) (mdF m) [] σ 0)
def f32_p4F : Facts := ⟨(List.append (α := AOp × AV) [(.un .not (cT 18), (vt 33))] [(.iaA 16 1 (.c (.ptr 0 10)) (cT 32), (.ptr 0 12)), mT 2, (.iaA 16 1 (.c (.ptr 0 26)) (cT 32), (.ptr 0 28))]), [], [], []⟩
theorem f32_p4Q : endS (fnOf FF 32) (stepK f32_p4F FF [] 4000 [] (.code (fnOf FF 32).body) (tmpl (List.range f32W.length) f32W [])) = some (.tup [(.agg (vF 0 10 ++ [(vt 0), (vt 1), (vt 33)] ++ vT 3 29)), (.int .i64 1)]) := by kernel_rfl
theorem f32_p4 (m : Md) (e : Int) (_h0 : ¬ (e = 0)) (_h1 : ¬ (e = 1)) (h2 : e = 2) (h3 : (m.e 2) = true) {z0 : St} {σ : Nat → Nat} (hσ : ∀ i j, σ i = σ j → i = j) (S : Sim (f32V m e σ) (tmpl (List.range f32W.length) f32W []) z0) : J FF (fnOf FF 32) [] (.code (fnOf FF 32).body) z0 (.tup [(Md.av (Md.setE m 2 (!(m.s 2)))), (.int .i64 1)]) :=
  jR (R := gm (f32_p4V m e σ) (.tup [(.agg (vF 0 10 ++ [(vt 0), (vt 1), (vt 33)] ++ vT 3 29)), (.int .i64 1)])) (by kernel_rfl) (J_end (show Hold FF (f32_p4V m e σ) f32_p4F from ⟨(valL_good hσ (okL (by kernel_rfl)) (mdF_ok m) (.n)),
    holdF_of (AllP.append (rflF fun _ => by kernel_rfl) (.c (fIaP (j := 2) (k := .i64) (n := e) (by kernel_rfl) h2 (by decide)) <| .c (fT (by kernel_rfl) h3) <| .c (fIaP (j := 2) (k := .i64) (n := e) (by kernel_rfl) h2 (by decide)) <| .n)),
    holdA_of (.n),
    holdN_of (.n),
    holdS_of (.n)⟩) (S.more (ρ' := (f32_p4V m e σ)) (s0 := σ) (n0 := 0) rfl rfl rfl rfl (f32E m e σ) (f32G m e σ) (by kernel_rfl) (by kernel_rfl)) f32_p4Q)
def f32_p5V (m : Md) (e : Int) (σ : Nat → Nat) : Val := (valL (ap (mdT m) ([.int .i64 e])) (mdF m) [] σ 0)
def f32_p5F : Facts := ⟨(List.append (α := AOp × AV) [] [(.iaA 16 1 (.c (.ptr 0 10)) (cT 32), (.ptr 0 12)), mF 2]), [], [], []⟩
theorem f32_p5Q : endS (fnOf FF 32) (stepK f32_p5F FF [] 4000 [] (.code (fnOf FF 32).body) (tmpl (List.range f32W.length) f32W [])) = some (.tup [(.agg (vF 0 10 ++ [(vt 0), (vt 1), (.bool false)] ++ vT 3 29)), (.int .i64 0)]) := by kernel_rfl
theorem f32_p5 (m : Md) (e : Int) (_h0 : ¬ (e = 0)) (_h1 : ¬ (e = 1)) (h2 : e = 2) (h3 : ¬ ((m.e 2) = true)) {z0 : St} {σ : Nat → Nat} (hσ : ∀ i j, σ i = σ j → i = j) (S : Sim (f32V m e σ) (tmpl (List.range f32W.length) f32W []) z0) : J FF (fnOf FF 32) [] (.code (fnOf FF 32).body) z0 (.tup [(Md.av (Md.setE m 2 false)), (.int .i64 0)]) :=
  jR (R := gm (f32_p5V m e σ) (.tup [(.agg (vF 0 10 ++ [(vt 0), (vt 1), (.bool false)] ++ vT 3 29)), (.int .i64 0)])) (by kernel_rfl) (J_end (show Hold FF (f32_p5V m e σ) f32_p5F from ⟨(valL_good hσ (okL (by kernel_rfl)) (mdF_ok m) (.n)),
    holdF_of (AllP.append (rflF fun _ => by kernel_rfl) (.c (fIaP (j := 2) (k := .i64) (n := e) (by kernel_rfl) h2 (by decide)) <| .c (fT (by kernel_rfl) (bF h3)) <| .n)),
    holdA_of (.n),
    holdN_of (.n),
    holdS_of (.n)⟩) (S.more (ρ' := (f32_p5V m e σ)) (s0 := σ) (n0 := 0) rfl rfl rfl rfl (f32E m e σ) (f32G m e σ) (by kernel_rfl) (by kernel_rfl)) f32_p5Q)
def f32_p6V (m : Md) (e : Int) (σ : Nat → Nat) : Val := (valL (ap (mdT m) ([.int .i64 e, .bool (!(m.s 3))])) (mdF m) [] σ 0)
def f32_p6F : Facts := ⟨(List.append (α := AOp × AV) [(.un .not (cT 19), (vt 33))] [(.iaA 16 1 (.c (.ptr 0 10)) (cT 32), (.ptr 0 13)), mT 3, (.iaA 16 1 (.c (.ptr 0 26)) (cT 32), (.ptr 0 29))]), [], [], []⟩
theorem f32_p6Q : endS (fnOf FF 32) (stepK f32_p6F FF [] 4000 [] (.code (fnOf FF 32).body) (tmpl (List.range f32W.length) f32W [])) = some (.tup [(.agg (vF 0 10 ++ [(vt 0), (vt 1), (vt 2), (vt 33)] ++ vT 4 28)), (.int .i64 1)]) := by kernel_rfl
theorem f32_p6 (m : Md) (e : Int) (_h0 : ¬ (e = 0)) (_h1 : ¬ (e = 1)) (_h2 : ¬ (e = 2)) (h3 : e = 3) (h4 : (m.e 3) = true) {z0 : St} {σ : Nat → Nat} (hσ : ∀ i j, σ i = σ j → i = j) (S : Sim (f32V m e σ) (tmpl (List.range f32W.length) f32W []) z0) : J FF (fnOf FF 32) [] (.code (fnOf FF 32).body) z0 (.tup [(Md.av (Md.setE m 3 (!(m.s 3)))), (.int .i64 1)]) :=
  jR (R := gm (f32_p6V m e σ) (.tup [(.agg (vF 0 10 ++ [(vt 0), (vt 1), (vt 2), (vt 33)] ++ vT 4 28)), (.int .i64 1)])) (by kernel_rfl) (J_end (show Hold FF (f32_p6V m e σ) f32_p6F from ⟨(valL_good hσ (okL (by kernel_rfl)) (mdF_ok m) (.n)),
    holdF_of (AllP.append (rflF fun _ => by kernel_rfl) (.c (fIaP (j := 3) (k := .i64) (n := e) (by kernel_rfl) h3 (by decide)) <| .c (fT (by kernel_rfl) h4) <| .c (fIaP (j := 3) (k := .i64) (n := e) (by kernel_rfl) h3 (by decide)) <| .n)),
    holdA_of (.n),
    holdN_of (.n),
    holdS_of (.n)⟩) (S.more (ρ' := (f32_p6V m e σ)) (s0 := σ) (n0 := 0) rfl rfl rfl rfl (f32E m e σ) (f32G m e σ) (by kernel_rfl) (by kernel_rfl)) f32_p6Q)
def f32_p7V (m : Md) (e : Int) (σ : Nat → Nat) : Val := (valL (ap (mdT m) ([.int .i64 e])) (mdF m) [] σ 0)
def f32_p7F : Facts := ⟨(List.append (α := AOp × AV) [] [(.iaA 16 1 (.c (.ptr 0 10)) (cT 32), (.ptr 0 13)), mF 3]), [], [], []⟩
theorem f32_p7Q : endS (fnOf FF 32) (stepK f32_p7F FF [] 4000 [] (.code (fnOf FF 32).body) (tmpl (List.range f32W.length) f32W [])) = some (.tup [(.agg (vF 0 10 ++ [(vt 0), (vt 1), (vt 2), (.bool false)] ++ vT 4 28)), (.int .i64 0)]) := by kernel_rfl
theorem f32_p7 (m : Md) (e : Int) (_h0 : ¬ (e = 0)) (_h1 : ¬ (e = 1)) (_h2 : ¬ (e = 2)) (h3 : e = 3) (h4 : ¬ ((m.e 3) = true)) {z0 : St} {σ : Nat → Nat} (hσ : ∀ i j, σ i = σ j → i = j) (S : Sim (f32V m e σ) (tmpl (List.range f32W.length) f32W []) z0) : J FF (fnOf FF 32) [] (.code (fnOf FF 32).body) z0 (.tup [(Md.av (Md.setE m 3 false)), (.int .i64 0)]) :=
  jR (R := gm (f32_p7V m e σ) (.tup [(.agg (vF 0 10 ++ [(vt 0), (vt 1), (vt 2), (.bool false)] ++ vT 4 28)), (.int .i64 0)])) (by kernel_rfl) (J_end (show Hold FF (f32_p7V m e σ) f32_p7F from ⟨(valL_good hσ (okL (by kernel_rfl)) (mdF_ok m) (.n)),
    holdF_of (AllP.append (rflF fun _ => by kernel_rfl) (.c (fIaP (j := 3) (k := .i64) (n := e) (by kernel_rfl) h3 (by decide)) <| .c (fT (by kernel_rfl) (bF h4)) <| .n)),
    holdA_of (.n),
    holdN_of (.n),
    holdS_of (.n)⟩) (S.more (ρ' := (f32_p7V m e σ)) (s0 := σ) (n0 := 0) rfl rfl rfl rfl (f32E m e σ) (f32G m e σ) (by kernel_rfl) (by kernel_rfl)) f32_p7Q)
def f32_p8V (m : Md) (e : Int) (σ : Nat → Nat) : Val := (valL (ap (mdT m) ([.int .i64 e, .bool (!(m.s 4))])) (mdF m) [] σ 0)
def f32_p8F : Facts := ⟨(List.append (α := AOp × AV) [(.un .not (cT 20), (vt 33))] [(.iaA 16 1 (.c (.ptr 0 10)) (cT 32), (.ptr 0 14)), mT 4, (.iaA 16 1 (.c (.ptr 0 26)) (cT 32), (.ptr 0 30))]), [], [], []⟩
theorem f32_p8Q : endS (fnOf FF 32) (stepK f32_p8F FF [] 4000 [] (.code (fnOf FF 32).body) (tmpl (List.range f32W.length) f32W [])) = some (.tup [(.agg (vF 0 10 ++ vT 0 4 ++ [(vt 33)] ++ vT 5 27)), (.int .i64 1)]) := by kernel_rfl
theorem f32_p8 (m : Md) (e : Int) (_h0 : ¬ (e = 0)) (_h1 : ¬ (e = 1)) (_h2 : ¬ (e = 2)) (_h3 : ¬ (e = 3)) (h4 : e = 4) (h5 : (m.e 4) = true) {z0 : St} {σ : Nat → Nat} (hσ : ∀ i j, σ i = σ j → i = j) (S : Sim (f32V m e σ) (tmpl (List.range f32W.length) f32W []) z0) : J FF (fnOf FF 32) [] (.code (fnOf FF 32).body) z0 (.tup [(Md.av (Md.setE m 4 (!(m.s 4)))), (.int .i64 1)]) :=
  jR (R := gm (f32_p8V m e σ) (.tup [(.agg (vF 0 10 ++ vT 0 4 ++ [(vt 33)] ++ vT 5 27)), (.int .i64 1)])) (by kernel_rfl) (J_end (show Hold FF (f32_p8V m e σ) f32_p8F from ⟨(valL_good hσ (okL (by kernel_rfl)) (mdF_ok m) (.n)),
    holdF_of (AllP.append (rflF fun _ => by kernel_rfl) (.c (fIaP (j := 4) (k := .i64) (n := e) (by kernel_rfl) h4 (by decide)) <| .c (fT (by kernel_rfl) h5) <| .c (fIaP (j := 4) (k := .i64) (n := e) (by kernel_rfl) h4 (by decide)) <| .n)),
    holdA_of (.n),
    holdN_of (.n),
    holdS_of (.n)⟩) (S.more (ρ' := (f32_p8V m e σ)) (s0 := σ) (n0 := 0) rfl rfl rfl rfl (f32E m e σ) (f32G m e σ) (by kernel_rfl) (by kernel_rfl)) f32_p8Q)
def f32_p9V (m : Md) (e : Int) (σ : Nat → Nat) : Val := (valL (ap (mdT m) ([.int .i64 e])) (mdF m) [] σ 0)
def f32_p9F : Facts := ⟨(List.append (α := AOp × AV) [] [(.iaA 16 1 (.c (.ptr 0 10)) (cT 32), (.ptr 0 14)), mF 4]), [], [], []⟩
theorem f32_p9Q : endS (fnOf FF 32) (stepK f32_p9F FF [] 4000 [] (.code (fnOf FF 32).body) (tmpl (List.range f32W.length) f32W [])) = some (.tup [(.agg (vF 0 10 ++ vT 0 4 ++ [(.bool false)] ++ vT 5 27)), (.int .i64 0)]) := by kernel_rfl
theorem f32_p9 (m : Md) (e : Int) (_h0 : ¬ (e = 0)) (_h1 : ¬ (e = 1)) (_h2 : ¬ (e = 2)) (_h3 : ¬ (e = 3)) (h4 : e = 4) (h5 : ¬ ((m.e 4) = true)) {z0 : St} {σ : Nat → Nat} (hσ : ∀ i j, σ i = σ j → i = j) (S : Sim (f32V m e σ) (tmpl (List.range f32W.length) f32W []) z0) : J FF (fnOf FF 32) [] (.code (fnOf FF 32).body) z0 (.tup [(Md.av (Md.setE m 4 false)), (.int .i64 0)]) :=
  jR (R := gm (f32_p9V m e σ) (.tup [(.agg (vF 0 10 ++ vT 0 4 ++ [(.bool false)] ++ vT 5 27)), (.int .i64 0)])) (by kernel_rfl) (J_end (show Hold FF (f32_p9V m e σ) f32_p9F from ⟨(valL_good hσ (okL (by kernel_rfl)) (mdF_ok m) (.n)),
    holdF_of (AllP.append (rflF fun _ => by kernel_rfl) (.c (fIaP (j := 4) (k := .i64) (n := e) (by kernel_rfl) h4 (by decide)) <| .c (fT (by kernel_rfl) (bF h5)) <| .n)),
    holdA_of (.n),
    holdN_of (.n),
    holdS_of (.n)⟩) (S.more (ρ' := (f32_p9V m e σ)) (s0 := σ) (n0 := 0) rfl rfl rfl rfl (f32E m e σ) (f32G m e σ) (by kernel_rfl) (by kernel_rfl)) f32_p9Q)
def f32_p10V (m : Md) (e : Int) (σ : Nat → Nat) : Val := (valL (ap (mdT m) ([.int .i64 e, .bool (!(m.s 5))])) (mdF m) [] σ 0)
def f32_p10F : Facts := ⟨(List.append (α := AOp × AV) [(.un .not (cT 21), (vt 33))] [(.iaA 16 1 (.c (.ptr 0 10)) (cT 32), (.ptr 0 15)), mT 5, (.iaA 16 1 (.c (.ptr 0 26)) (cT 32), (.ptr 0 31))]), [], [], []⟩
theorem f32_p10Q : endS (fnOf FF 32) (stepK f32_p10F FF [] 4000 [] (.code (fnOf FF 32).body) (tmpl (List.range f32W.length) f32W [])) = some (.tup [(.agg (vF 0 10 ++ vT 0 5 ++ [(vt 33)] ++ vT 6 26)), (.int .i64 1)]) := by kernel_rfl
theorem f32_p10 (m : Md) (e : Int) (_h0 : ¬ (e = 0)) (_h1 : ¬ (e = 1)) (_h2 : ¬ (e = 2)) (_h3 : ¬ (e = 3)) (_h4 : ¬ (e = 4)) (h5 : e = 5) (h6 : (m.e 5) = true) {z0 : St} {σ : Nat → Nat} (hσ : ∀ i j, σ i = σ j → i = j) (S : Sim (f32V m e σ) (tmpl (List.range f32W.length) f32W []) z0) : J FF (fnOf FF 32) [] (.code (fnOf FF 32).body) z0 (.tup [(Md.av (Md.setE m 5 (!(m.s 5)))), (.int .i64 1)]) :=
  jR (R := gm (f32_p10V m e σ) (.tup [(.agg (vF 0 10 ++ vT 0 5 ++ [(vt 33)] ++ vT 6 26)), (.int .i64 1)])) (by kernel_rfl) (J_end (show Hold FF (f32_p10V m e σ) f32_p10F from ⟨(valL_good hσ (okL (by kernel_rfl)) (mdF_ok m) (.n)),
    holdF_of (AllP.append (rflF fun _ => by kernel_rfl) (.c (fIaP (j := 5) (k := .i64) (n := e) (by kernel_rfl) h5 (by decide)) <| .c (fT (by kernel_rfl) h6) <| .c (fIaP (j := 5) (k := .i64) (n := e) (by kernel_rfl) h5 (by decide)) <| .n)),
    holdA_of (.n),
    holdN_of (.n),
    holdS_of (.n)⟩) (S.more (ρ' := (f32_p10V m e σ)) (s0 := σ) (n0 := 0) rfl rfl rfl rfl (f32E m e σ) (f32G m e σ) (by kernel_rfl) (by kernel_rfl)) f32_p10Q)
def f32_p11V (m : Md) (e : Int) (σ : Nat → Nat) : Val := (valL (ap (mdT m) ([.int .i64 e])) (mdF m) [] σ 0)
def f32_p11F : Facts := ⟨(List.append (α := AOp × AV) [] [(.iaA 16 1 (.c (.ptr 0 10)) (cT 32), (.ptr 0 15)), mF 5]), [], [], []⟩
theorem f32_p11Q : endS (fnOf FF 32) (stepK f32_p11F FF [] 4000 [] (.code (fnOf FF 32).body) (tmpl (List.range f32W.length) f32W [])) = some (.tup [(.agg (vF 0 10 ++ vT 0 5 ++ [(.bool false)] ++ vT 6 26)), (.int .i64 0)]) := by kernel_rfl
theorem f32_p11 (m : Md) (e : Int) (_h0 : ¬ (e = 0)) (_h1 : ¬ (e = 1)) (_h2 : ¬ (e = 2)) (_h3 : ¬ (e = 3)) (_h4 : ¬ (e = 4)) (h5 : e = 5) (h6 : ¬ ((m.e 5) = true)) {z0 : St} {σ : Nat → Nat} (hσ : ∀ i j, σ i = σ j → i = j) (S : Sim (f32V m e σ) (tmpl (List.range f32W.length) f32W []) z0) : J FF (fnOf FF 32) [] (.code (fnOf FF 32).body) z0 (.tup [(Md.av (Md.setE m 5 false)), (.int .i64 0)]) :=
  jR (R := gm (f32_p11V m e σ) (.tup [(.agg (vF 0 10 ++ vT 0 5 ++ [(.bool false)] ++ vT 6 26)), (.int .i64 0)])) (by kernel_rfl) (J_end (show Hold FF (f32_p11V m e σ) f32_p11F from ⟨(valL_good hσ (okL (by kernel_rfl)) (mdF_ok m) (.n)),
    holdF_of (AllP.append (rflF fun _ => by kernel_rfl) (.c (fIaP (j := 5) (k := .i64) (n := e) (by kernel_rfl) h5 (by decide)) <| .c (fT (by kernel_rfl) (bF h6)) <| .n)),
    holdA_of (.n),
    holdN_of (.n),
    holdS_of (.n)⟩) (S.more (ρ' := (f32_p11V m e σ)) (s0 := σ) (n0 := 0) rfl rfl rfl rfl (f32E m e σ) (f32G m e σ) (by kernel_rfl) (by kernel_rfl)) f32_p11Q)
def f32_p12V (m : Md) (e : Int) (σ : Nat → Nat) : Val := (valL (ap (mdT m) ([.int .i64 e, .bool (!(m.s 6))])) (mdF m) [] σ 0)
def f32_p12F : Facts := ⟨(List.append (α := AOp × AV) [(.un .not (cT 22), (vt 33))] [(.iaA 16 1 (.c (.ptr 0 10)) (cT 32), (.ptr 0 16)), mT 6, (.iaA 16 1 (.c (.ptr 0 26)) (cT 32), (.ptr 0 32))]), [], [], []⟩
theorem f32_p12Q : endS (fnOf FF 32) (stepK f32_p12F FF [] 4000 [] (.code (fnOf FF 32).body) (tmpl (List.range f32W.length) f32W [])) = some (.tup [(.agg (vF 0 10 ++ vT 0 6 ++ [(vt 33)] ++ vT 7 25)), (.int .i64 1)]) := by kernel_rfl
theorem f32_p12 (m : Md) (e : Int) (_h0 : ¬ (e = 0)) (_h1 : ¬ (e = 1)) (_h2 : ¬ (e = 2)) (_h3 : ¬ (e = 3)) (_h4 : ¬ (e = 4)) (_h5 : ¬ (e = 5)) (h6 : e = 6) (h7 : (m.e 6) = true) {z0 : St} {σ : Nat → Nat} (hσ : ∀ i j, σ i = σ j → i = j) (S : Sim (f32V m e σ) (tmpl (List.range f32W.length) f32W []) z0) : J FF (fnOf FF 32) [] (.code (fnOf FF 32).body) z0 (.tup [(Md.av (Md.setE m 6 (!(m.s 6)))), (.int .i64 1)]) :=
  jR (R := gm (f32_p12V m e σ) (.tup [(.agg (vF 0 10 ++ vT 0 6 ++ [(vt 33)] ++ vT 7 25)), (.int .i64 1)])) (by kernel_rfl) (J_end (show Hold FF (f32_p12V m e σ) f32_p12F from ⟨(valL_good hσ (okL (by kernel_rfl)) (mdF_ok m) (.n)),
    holdF_of (AllP.append (rflF fun _ => by kernel_rfl) (.c (fIaP (j := 6) (k := .i64) (n := e) (by kernel_rfl) h6 (by decide)) <| .c (fT (by kernel_rfl) h7) <| .c (fIaP (j := 6) (k := .i64) (n := e) (by kernel_rfl) h6 (by decide)) <| .n)),
    holdA_of (.n),
    holdN_of (.n),
    holdS_of (.n)⟩) (S.more (ρ' := (f32_p12V m e σ)) (s0 := σ) (n0 := 0) rfl rfl rfl rfl (f32E m e σ) (f32G m e σ) (by kernel_rfl) (by kernel_rfl)) f32_p12Q)
def f32_p13V (m : Md) (e : Int) (σ : Nat → Nat) : Val := (valL (ap (mdT m) ([.int .i64 e])) (mdF m) [] σ 0)
def f32_p13F : Facts := ⟨(List.append (α := AOp × AV) [] [(.iaA 16 1 (.c (.ptr 0 10)) (cT 32), (.ptr 0 16)), mF 6]), [], [], []⟩
theorem f32_p13Q : endS (fnOf FF 32) (stepK f32_p13F FF [] 4000 [] (.code (fnOf FF 32).body) (tmpl (List.range f32W.length) f32W [])) = some (.tup [(.agg (vF 0 10 ++ vT 0 6 ++ [(.bool false)] ++ vT 7 25)), (.int .i64 0)]) := by kernel_rfl
theorem f32_p13 (m : Md) (e : Int) (_h0 : ¬ (e = 0)) (_h1 : ¬ (e = 1)) (_h2 : ¬ (e = 2)) (_h3 : ¬ (e = 3)) (_h4 : ¬ (e = 4)) (_h5 : ¬ (e = 5)) (h6 : e = 6) (h7 : ¬ ((m.e 6) = true)) {z0 : St} {σ : Nat → Nat} (hσ : ∀ i j, σ i = σ j → i = j) (S : Sim (f32V m e σ) (tmpl (List.range f32W.length) f32W []) z0) : J FF (fnOf FF 32) [] (.code (fnOf FF 32).body) z0 (.tup [(Md.av (Md.setE m 6 false)), (.int .i64 0)]) :=
  jR (R := gm (f32_p13V m e σ) (.tup [(.agg (vF 0 10 ++ vT 0 6 ++ [(.bool false)] ++ vT 7 25)), (.int .i64 0)])) (by kernel_rfl) (J_end (show Hold FF (f32_p13V m e σ) f32_p13F from ⟨(valL_good hσ (okL (by kernel_rfl)) (mdF_ok m) (.n)),
    holdF_of (AllP.append (rflF fun _ => by kernel_rfl) (.c (fIaP (j := 6) (k := .i64) (n := e) (by kernel_rfl) h6 (by decide)) <| .c (fT (by kernel_rfl) (bF h7)) <| .n)),
    holdA_of (.n),
    holdN_of (.n),
    holdS_of (.n)⟩) (S.more (ρ' := (f32_p13V m e σ)) (s0 := σ) (n0 := 0) rfl rfl rfl rfl (f32E m e σ) (f32G m e σ) (by kernel_rfl) (by kernel_rfl)) f32_p13Q)
def f32_p14V (m : Md) (e : Int) (σ : Nat → Nat) : Val := (valL (ap (mdT m) ([.int .i64 e, .bool (!(m.s 7))])) (mdF m) [] σ 0)
def f32_p14F : Facts := ⟨(List.append (α := AOp × AV) [(.un .not (cT 23), (vt 33))] [(.iaA 16 1 (.c (.ptr 0 10)) (cT 32), (.ptr 0 17)), mT 7, (.iaA 16 1 (.c (.ptr 0 26)) (cT 32), (.ptr 0 33))]), [], [], []⟩
theorem f32_p14Q : endS (fnOf FF 32) (stepK f32_p14F FF [] 4000 [] (.code (fnOf FF 32).body) (tmpl (List.range f32W.length) f32W [])) = some (.tup [(.agg (vF 0 10 ++ vT 0 7 ++ [(vt 33)] ++ vT 8 24)), (.int .i64 1)]) := by kernel_rfl
theorem f32_p14 (m : Md) (e : Int) (_h0 : ¬ (e = 0)) (_h1 : ¬ (e = 1)) (_h2 : ¬ (e = 2)) (_h3 : ¬ (e = 3)) (_h4 : ¬ (e = 4)) (_h5 : ¬ (e = 5)) (_h6 : ¬ (e = 6)) (h7 : e = 7) (h8 : (m.e 7) = true) {z0 : St} {σ : Nat → Nat} (hσ : ∀ i j, σ i = σ j → i = j) (S : Sim (f32V m e σ) (tmpl (List.range f32W.length) f32W []) z0) : J FF (fnOf FF 32) [] (.code (fnOf FF 32).body) z0 (.tup [(Md.av (Md.setE m 7 (!(m.s 7)))), (.int .i64 1)]) :=
  jR (R := gm (f32_p14V m e σ) (.tup [(.agg (vF 0 10 ++ vT 0 7 ++ [(vt 33)] ++ vT 8 24)), (.int .i64 1)])) (by kernel_rfl) (J_end (show Hold FF (f32_p14V m e σ) f32_p14F from ⟨(valL_good hσ (okL (by kernel_rfl)) (mdF_ok m) (.n)),
    holdF_of (AllP.append (rflF fun _ => by kernel_rfl) (.c (fIaP (j := 7) (k := .i64) (n := e) (by kernel_rfl) h7 (by decide)) <| .c (fT (by kernel_rfl) h8) <| .c (fIaP (j := 7) (k := .i64) (n := e) (by kernel_rfl) h7 (by decide)) <| .n)),
    holdA_of (.n),
    holdN_of (.n),
    holdS_of (.n)⟩) (S.more (ρ' := (f32_p14V m e σ)) (s0 := σ) (n0 := 0) rfl rfl rfl rfl (f32E m e σ) (f32G m e σ) (by kernel_rfl) (by kernel_rfl)) f32_p14Q)
def f32_p15V (m : Md) (e : Int) (σ : Nat → Nat) : Val := (valL (ap (mdT m) ([.int .i64 e])) (mdF m) [] σ 0)
def f32_p15F : Facts := ⟨(List.append (α := AOp × AV) [] [(.iaA 16 1 (.c (.ptr 0 10)) (cT 32), (.ptr 0 17)), mF 7]), [], [], []⟩
theorem f32_p15Q : endS (fnOf FF 32) (stepK f32_p15F FF [] 4000 [] (.code (fnOf FF 32).body) (tmpl (List.range f32W.length) f32W [])) = some (.tup [(.agg (vF 0 10 ++ vT 0 7 ++ [(.bool false)] ++ vT 8 24)), (.int .i64 0)]) := by kernel_rfl
theorem f32_p15 (m : Md) (e : Int) (_h0 : ¬ (e = 0)) (_h1 : ¬ (e = 1)) (_h2 : ¬ (e = 2)) (_h3 : ¬ (e = 3)) (_h4 : ¬ (e = 4)) (_h5 : ¬ (e = 5)) (_h6 : ¬ (e = 6)) (h7 : e = 7) (h8 : ¬ ((m.e 7) = true)) {z0 : St} {σ : Nat → Nat} (hσ : ∀ i j, σ i = σ j → i = j) (S : Sim (f32V m e σ) (tmpl (List.range f32W.length) f32W []) z0) : J FF (fnOf FF 32) [] (.code (fnOf FF 32).body) z0 (.tup [(Md.av (Md.setE m 7 false)), (.int .i64 0)]) :=
  jR (R := gm (f32_p15V m e σ) (.tup [(.agg (vF 0 10 ++ vT 0 7 ++ [(.bool false)] ++ vT 8 24)), (.int .i64 0)])) (by kernel_rfl) (J_end (show Hold FF (f32_p15V m e σ) f32_p15F from ⟨(valL_good hσ (okL (by kernel_rfl)) (mdF_ok m) (.n)),
    holdF_of (AllP.append (rflF fun _ => by kernel_rfl) (.c (fIaP (j := 7) (k := .i64) (n := e) (by kernel_rfl) h7 (by decide)) <| .c (fT (by kernel_rfl) (bF h8)) <| .n)),
    holdA_of (.n),
    holdN_of (.n),
    holdS_of (.n)⟩) (S.more (ρ' := (f32_p15V m e σ)) (s0 := σ) (n0 := 0) rfl rfl rfl rfl (f32E m e σ) (f32G m e σ) (by kernel_rfl) (by kernel_rfl)) f32_p15Q)
def f32_p16V (m : Md) (e : Int) (σ : Nat → Nat) : Val := (valL (ap (mdT m) ([.int .i64 e, .bool (!(m.s 8))])) (mdF m) [] σ 0)
def f32_p16F : Facts := ⟨(List.append (α := AOp × AV) [(.un .not (cT 24), (vt 33))] [(.iaA 16 1 (.c (.ptr 0 10)) (cT 32), (.ptr 0 18)), mT 8, (.iaA 16 1 (.c (.ptr 0 26)) (cT 32), (.ptr 0 34))]), [], [], []⟩
theorem f32_p16Q : endS (fnOf FF 32) (stepK f32_p16F FF [] 4000 [] (.code (fnOf FF 32).body) (tmpl (List.range f32W.length) f32W [])) = some (.tup [(.agg (vF 0 10 ++ vT 0 8 ++ [(vt 33)] ++ vT 9 23)), (.int .i64 1)]) := by kernel_rfl
theorem f32_p16 (m : Md) (e : Int) (_h0 : ¬ (e = 0)) (_h1 : ¬ (e = 1)) (_h2 : ¬ (e = 2)) (_h3 : ¬ (e = 3)) (_h4 : ¬ (e = 4)) (_h5 : ¬ (e = 5)) (_h6 : ¬ (e = 6)) (_h7 : ¬ (e = 7)) (h8 : e = 8) (h9 : (m.e 8) = true) {z0 : St} {σ : Nat → Nat} (hσ : ∀ i j, σ i = σ j → i = j) (S : Sim (f32V m e σ) (tmpl (List.range f32W.length) f32W []) z0) : J FF (fnOf FF 32) [] (.code (fnOf FF 32).body) z0 (.tup [(Md.av (Md.setE m 8 (!(m.s 8)))), (.int .i64 1)]) :=
  jR (R := gm (f32_p16V m e σ) (.tup [(.agg (vF 0 10 ++ vT 0 8 ++ [(vt 33)] ++ vT 9 23)), (.int .i64 1)])) (by kernel_rfl) (J_end (show Hold FF (f32_p16V m e σ) f32_p16F from ⟨(valL_good hσ (okL (by kernel_rfl)) (mdF_ok m) (.n)),
    holdF_of (AllP.append (rflF fun _ => by kernel_rfl) (.c (fIaP (j := 8) (k := .i64) (n := e) (by kernel_rfl) h8 (by decide)) <| .c (fT (by kernel_rfl) h9) <| .c (fIaP (j := 8) (k := .i64) (n := e) (by kernel_rfl) h8 (by decide)) <| .n)),
    holdA_of (.n),
    holdN_of (.n),
    holdS_of (.n)⟩) (S.more (ρ' := (f32_p16V m e σ)) (s0 := σ) (n0 := 0) rfl rfl rfl rfl (f32E m e σ) (f32G m e σ) (by kernel_rfl) (by kernel_rfl)) f32_p16Q)
def f32_p17V (m : Md) (e : Int) (σ : Nat → Nat) : Val := (valL (ap (mdT m) ([.int .i64 e])) (mdF m) [] σ 0)
def f32_p17F : Facts := ⟨(List.append (α := AOp × AV) [] [(.iaA 16 1 (.c (.ptr 0 10)) (cT 32), (.ptr 0 18)), mF 8]), [], [], []⟩
theorem f32_p17Q : endS (fnOf FF 32) (stepK f32_p17F FF [] 4000 [] (.code (fnOf FF 32).body) (tmpl (List.range f32W.length) f32W [])) = some (.tup [(.agg (vF 0 10 ++ vT 0 8 ++ [(.bool false)] ++ vT 9 23)), (.int .i64 0)]) := by kernel_rfl
theorem f32_p17 (m : Md) (e : Int) (_h0 : ¬ (e = 0)) (_h1 : ¬ (e = 1)) (_h2 : ¬ (e = 2)) (_h3 : ¬ (e = 3)) (_h4 : ¬ (e = 4)) (_h5 : ¬ (e = 5)) (_h6 : ¬ (e = 6)) (_h7 : ¬ (e = 7)) (h8 : e = 8) (h9 : ¬ ((m.e 8) = true)) {z0 : St} {σ : Nat → Nat} (hσ : ∀ i j, σ i = σ j → i = j) (S : Sim (f32V m e σ) (tmpl (List.range f32W.length) f32W []) z0) : J FF (fnOf FF 32) [] (.code (fnOf FF 32).body) z0 (.tup [(Md.av (Md.setE m 8 false)), (.int .i64 0)]) :=
  jR (R := gm (f32_p17V m e σ) (.tup [(.agg (vF 0 10 ++ vT 0 8 ++ [(.bool false)] ++ vT 9 23)), (.int .i64 0)])) (by kernel_rfl) (J_end (show Hold FF (f32_p17V m e σ) f32_p17F from ⟨(valL_good hσ (okL (by kernel_rfl)) (mdF_ok m) (.n)),
    holdF_of (AllP.append (rflF fun _ => by kernel_rfl) (.c (fIaP (j := 8) (k := .i64) (n := e) (by kernel_rfl) h8 (by decide)) <| .c (fT (by kernel_rfl) (bF h9)) <| .n)),
    holdA_of (.n),
    holdN_of (.n),
    holdS_of (.n)⟩) (S.more (ρ' := (f32_p17V m e σ)) (s0 := σ) (n0 := 0) rfl rfl rfl rfl (f32E m e σ) (f32G m e σ) (by kernel_rfl) (by kernel_rfl)) f32_p17Q)
def f32_p18V (m : Md) (e : Int) (σ : Nat → Nat) : Val := (valL (ap (mdT m) ([.int .i64 e, .bool (!(m.s 9))])) (mdF m) [] σ 0)
def f32_p18F : Facts := ⟨(List.append (α := AOp × AV) [(.un .not (cT 25), (vt 33))] [(.iaA 16 1 (.c (.ptr 0 10)) (cT 32), (.ptr 0 19)), mT 9, (.iaA 16 1 (.c (.ptr 0 26)) (cT 32), (.ptr 0 35))]), [], [], []⟩
theorem f32_p18Q : endS (fnOf FF 32) (stepK f32_p18F FF [] 4000 [] (.code (fnOf FF 32).body) (tmpl (List.range f32W.length) f32W [])) = some (.tup [(.agg (vF 0 10 ++ vT 0 9 ++ [(vt 33)] ++ vT 10 22)), (.int .i64 1)]) := by kernel_rfl
theorem f32_p18 (m : Md) (e : Int) (_h0 : ¬ (e = 0)) (_h1 : ¬ (e = 1)) (_h2 : ¬ (e = 2)) (_h3 : ¬ (e = 3)) (_h4 : ¬ (e = 4)) (_h5 : ¬ (e = 5)) (_h6 : ¬ (e = 6)) (_h7 : ¬ (e = 7)) (_h8 : ¬ (e = 8)) (h9 : e = 9) (h10 : (m.e 9) = true) {z0 : St} {σ : Nat → Nat} (hσ : ∀ i j, σ i = σ j → i = j) (S : Sim (f32V m e σ) (tmpl (List.range f32W.length) f32W []) z0) : J FF (fnOf FF 32) [] (.code (fnOf FF 32).body) z0 (.tup [(Md.av (Md.setE m 9 (!(m.s 9)))), (.int .i64 1)]) :=
  jR (R := gm (f32_p18V m e σ) (.tup [(.agg (vF 0 10 ++ vT 0 9 ++ [(vt 33)] ++ vT 10 22)), (.int .i64 1)])) (by kernel_rfl) (J_end (show Hold FF (f32_p18V m e σ) f32_p18F from ⟨(valL_good hσ (okL (by kernel_rfl)) (mdF_ok m) (.n)),
    holdF_of (AllP.append (rflF fun _ => by kernel_rfl) (.c (fIaP (j := 9) (k := .i64) (n := e) (by kernel_rfl) h9 (by decide)) <| .c (fT (by kernel_rfl) h10) <| .c (fIaP (j := 9) (k := .i64) (n := e) (by kernel_rfl) h9 (by decide)) <| .n)),
    holdA_of (.n),
    holdN_of (.n),
    holdS_of (.n)⟩) (S.more (ρ' := (f32_p18V m e σ)) (s0 := σ) (n0 := 0) rfl rfl rfl rfl (f32E m e σ) (f32G m e σ) (by kernel_rfl) (by kernel_rfl)) f32_p18Q)
def f32_p19V (m : Md) (e : Int) (σ : Nat → Nat) : Val := (valL (ap (mdT m) ([.int .i64 e])) (mdF m) [] σ 0)
def f32_p19F : Facts := ⟨(List.append (α := AOp × AV) [] [(.iaA 16 1 (.c (.ptr 0 10)) (cT 32), (.ptr 0 19)), mF 9]), [], [], []⟩
theorem f32_p19Q : endS (fnOf FF 32) (stepK f32_p19F FF [] 4000 [] (.code (fnOf FF 32).body) (tmpl (List.range f32W.length) f32W [])) = some (.tup [(.agg (vF 0 10 ++ vT 0 9 ++ [(.bool false)] ++ vT 10 22)), (.int .i64 0)]) := by kernel_rfl
theorem f32_p19 (m : Md) (e : Int) (_h0 : ¬ (e = 0)) (_h1 : ¬ (e = 1)) (_h2 : ¬ (e = 2)) (_h3 : ¬ (e = 3)) (_h4 : ¬ (e = 4)) (_h5 : ¬ (e = 5)) (_h6 : ¬ (e = 6)) (_h7 : ¬ (e = 7)) (_h8 : ¬ (e = 8)) (h9 : e = 9) (h10 : ¬ ((m.e 9) = true)) {z0 : St} {σ : Nat → Nat} (hσ : ∀ i j, σ i = σ j → i = j) (S : Sim (f32V m e σ) (tmpl (List.range f32W.length) f32W []) z0) : J FF (fnOf FF 32) [] (.code (fnOf FF 32).body) z0 (.tup [(Md.av (Md.setE m 9 false)), (.int .i64 0)]) :=
  jR (R := gm (f32_p19V m e σ) (.tup [(.agg (vF 0 10 ++ vT 0 9 ++ [(.bool false)] ++ vT 10 22)), (.int .i64 0)])) (by kernel_rfl) (J_end (show Hold FF (f32_p19V m e σ) f32_p19F from ⟨(valL_good hσ (okL (by kernel_rfl)) (mdF_ok m) (.n)),
    holdF_of (AllP.append (rflF fun _ => by kernel_rfl) (.c (fIaP (j := 9) (k := .i64) (n := e) (by kernel_rfl) h9 (by decide)) <| .c (fT (by kernel_rfl) (bF h10)) <| .n)),
    holdA_of (.n),
    holdN_of (.n),
    holdS_of (.n)⟩) (S.more (ρ' := (f32_p19V m e σ)) (s0 := σ) (n0 := 0) rfl rfl rfl rfl (f32E m e σ) (f32G m e σ) (by kernel_rfl) (by kernel_rfl)) f32_p19Q)
def f32_p20V (m : Md) (e : Int) (σ : Nat → Nat) : Val := (valL (ap (mdT m) ([.int .i64 e, .bool (!(m.s 10))])) (mdF m) [] σ 0)
def f32_p20F : Facts := ⟨(List.append (α := AOp × AV) [(.un .not (cT 26), (vt 33))] [(.iaA 16 1 (.c (.ptr 0 10)) (cT 32), (.ptr 0 20)), mT 10, (.iaA 16 1 (.c (.ptr 0 26)) (cT 32), (.ptr 0 36))]), [], [], []⟩
theorem f32_p20Q : endS (fnOf FF 32) (stepK f32_p20F FF [] 4000 [] (.code (fnOf FF 32).body) (tmpl (List.range f32W.length) f32W [])) = some (.tup [(.agg (vF 0 10 ++ vT 0 10 ++ [(vt 33)] ++ vT 11 21)), (.int .i64 1)]) := by kernel_rfl
theorem f32_p20 (m : Md) (e : Int) (_h0 : ¬ (e = 0)) (_h1 : ¬ (e = 1)) (_h2 : ¬ (e = 2)) (_h3 : ¬ (e = 3)) (_h4 : ¬ (e = 4)) (_h5 : ¬ (e = 5)) (_h6 : ¬ (e = 6)) (_h7 : ¬ (e = 7)) (_h8 : ¬ (e = 8)) (_h9 : ¬ (e = 9)) (h10 : e = 10) (h11 : (m.e 10) = true) {z0 : St} {σ : Nat → Nat} (hσ : ∀ i j, σ i = σ j → i = j) (S : Sim (f32V m e σ) (tmpl (List.range f32W.length) f32W []) z0) : J FF (fnOf FF 32) [] (.code (fnOf FF 32).body) z0 (.tup [(Md.av (Md.setE m 10 (!(m.s 10)))), (.int .i64 1)]) :=
  jR (R := gm (f32_p20V m e σ) (.tup [(.agg (vF 0 10 ++ vT 0 10 ++ [(vt 33)] ++ vT 11 21)), (.int .i64 1)])) (by kernel_rfl) (J_end (show Hold FF (f32_p20V m e σ) f32_p20F from ⟨(valL_good hσ (okL (by kernel_rfl)) (mdF_ok m) (.n)),
    holdF_of (AllP.append (rflF fun _ => by kernel_rfl) (.c (fIaP (j := 10) (k := .i64) (n := e) (by kernel_rfl) h10 (by decide)) <| .c (fT (by kernel_rfl) h11) <| .c (fIaP (j := 10) (k := .i64) (n := e) (by kernel_rfl) h10 (by decide)) <| .n)),
    holdA_of (.n),
    holdN_of (.n),
    holdS_of (.n)⟩) (S.more (ρ' := (f32_p20V m e σ)) (s0 := σ) (n0 := 0) rfl rfl rfl rfl (f32E m e σ) (f32G m e σ) (by kernel_rfl) (by kernel_rfl)) f32_p20Q)
def f32_p21V (m : Md) (e : Int) (σ : Nat → Nat) : Val := (valL (ap (mdT m) ([.int .i64 e])) (mdF m) [] σ 0)
def f32_p21F : Facts := ⟨(List.append (α := AOp × AV) [] [(.iaA 16 1 (.c (.ptr 0 10)) (cT 32), (.ptr 0 20)), mF 10]), [], [], []⟩
theorem f32_p21Q : endS (fnOf FF 32) (stepK f32_p21F FF [] 4000 [] (.code (fnOf FF 32).body) (tmpl (List.range f32W.length) f32W [])) = some (.tup [(.agg (vF 0 10 ++ vT 0 10 ++ [(.bool false)] ++ vT 11 21)), (.int .i64 0)]) := by kernel_rfl
theorem f32_p21 (m : Md) (e : Int) (_h0 : ¬ (e = 0)) (_h1 : ¬ (e = 1)) (_h2 : ¬ (e = 2)) (_h3 : ¬ (e = 3)) (_h4 : ¬ (e = 4)) (_h5 : ¬ (e = 5)) (_h6 : ¬ (e = 6)) (_h7 : ¬ (e = 7)) (_h8 : ¬ (e = 8)) (_h9 : ¬ (e = 9)) (h10 : e = 10) (h11 : ¬ ((m.e 10) = true)) {z0 : St} {σ : Nat → Nat} (hσ : ∀ i j, σ i = σ j → i = j) (S : Sim (f32V m e σ) (tmpl (List.range f32W.length) f32W []) z0) : J FF (fnOf FF 32) [] (.code (fnOf FF 32).body) z0 (.tup [(Md.av (Md.setE m 10 false)), (.int .i64 0)]) :=
  jR (R := gm (f32_p21V m e σ) (.tup [(.agg (vF 0 10 ++ vT 0 10 ++ [(.bool false)] ++ vT 11 21)), (.int .i64 0)])) (by kernel_rfl) (J_end (show Hold FF (f32_p21V m e σ) f32_p21F from ⟨(valL_good hσ (okL (by kernel_rfl)) (mdF_ok m) (.n)),
    holdF_of (AllP.append (rflF fun _ => by kernel_rfl) (.c (fIaP (j := 10) (k := .i64) (n := e) (by kernel_rfl) h10 (by decide)) <| .c (fT (by kernel_rfl) (bF h11)) <| .n)),
    holdA_of (.n),
    holdN_of (.n),
    holdS_of (.n)⟩) (S.more (ρ' := (f32_p21V m e σ)) (s0 := σ) (n0 := 0) rfl rfl rfl rfl (f32E m e σ) (f32G m e σ) (by kernel_rfl) (by kernel_rfl)) f32_p21Q)
def f32_p22V (m : Md) (e : Int) (σ : Nat → Nat) : Val := (valL (ap (mdT m) ([.int .i64 e, .bool (!(m.s 11))])) (mdF m) [] σ 0)
def f32_p22F : Facts := ⟨(List.append (α := AOp × AV) [(.un .not (cT 27), (vt 33))] [(.iaA 16 1 (.c (.ptr 0 10)) (cT 32), (.ptr 0 21)), mT 11, (.iaA 16 1 (.c (.ptr 0 26)) (cT 32), (.ptr 0 37))]), [], [], []⟩
theorem f32_p22Q : endS (fnOf FF 32) (stepK f32_p22F FF [] 4000 [] (.code (fnOf FF 32).body) (tmpl (List.range f32W.length) f32W [])) = some (.tup [(.agg (vF 0 10 ++ vT 0 11 ++ [(vt 33)] ++ vT 12 20)), (.int .i64 1)]) := by kernel_rfl
theorem f32_p22 (m : Md) (e : Int) (_h0 : ¬ (e = 0)) (_h1 : ¬ (e = 1)) (_h2 : ¬ (e = 2)) (_h3 : ¬ (e = 3)) (_h4 : ¬ (e = 4)) (_h5 : ¬ (e = 5)) (_h6 : ¬ (e = 6)) (_h7 : ¬ (e = 7)) (_h8 : ¬ (e = 8)) (_h9 : ¬ (e = 9)) (_h10 : ¬ (e = 10)) (h11 : e = 11) (h12 : (m.e 11) = true) {z0 : St} {σ : Nat → Nat} (hσ : ∀ i j, σ i = σ j → i = j) (S : Sim (f32V m e σ) (tmpl (List.range f32W.length) f32W []) z0) : J FF (fnOf FF 32) [] (.code (fnOf FF 32).body) z0 (.tup [(Md.av (Md.setE m 11 (!(m.s 11)))), (.int .i64 1)]) :=
  jR (R := gm (f32_p22V m e σ) (.tup [(.agg (vF 0 10 ++ vT 0 11 ++ [(vt 33)] ++ vT 12 20)), (.int .i64 1)])) (by kernel_rfl) (J_end (show Hold FF (f32_p22V m e σ) f32_p22F from ⟨(valL_good hσ (okL (by kernel_rfl)) (mdF_ok m) (.n)),
    holdF_of (AllP.append (rflF fun _ => by kernel_rfl) (.c (fIaP (j := 11) (k := .i64) (n := e) (by kernel_rfl) h11 (by decide)) <| .c (fT (by kernel_rfl) h12) <| .c (fIaP (j := 11) (k := .i64) (n := e) (by kernel_rfl) h11 (by decide)) <| .n)),
    holdA_of (.n),
    holdN_of (.n),
    holdS_of (.n)⟩) (S.more (ρ' := (f32_p22V m e σ)) (s0 := σ) (n0 := 0) rfl rfl rfl rfl (f32E m e σ) (f32G m e σ) (by kernel_rfl) (by kernel_rfl)) f32_p22Q)
def f32_p23V (m : Md) (e : Int) (σ : Nat → Nat) : Val := (valL (ap (mdT m) ([.int .i64 e])) (mdF m) [] σ 0)
def f32_p23F : Facts := ⟨(List.append (α := AOp × AV) [] [(.iaA 16 1 (.c (.ptr 0 10)) (cT 32), (.ptr 0 21)), mF 11]), [], [], []⟩
theorem f32_p23Q : endS (fnOf FF 32) (stepK f32_p23F FF [] 4000 [] (.code (fnOf FF 32).body) (tmpl (List.range f32W.length) f32W [])) = some (.tup [(.agg (vF 0 10 ++ vT 0 11 ++ [(.bool false)] ++ vT 12 20)), (.int .i64 0)]) := by kernel_rfl
theorem f32_p23 (m : Md) (e : Int) (_h0 : ¬ (e = 0)) (_h1 : ¬ (e = 1)) (_h2 : ¬ (e = 2)) (_h3 : ¬ (e = 3)) (_h4 : ¬ (e = 4)) (_h5 : ¬ (e = 5)) (_h6 : ¬ (e = 6)) (_h7 : ¬ (e = 7)) (_h8 : ¬ (e = 8)) (_h9 : ¬ (e = 9)) (_h10 : ¬ (e = 10)) (h11 : e = 11) (h12 : ¬ ((m.e 11) = true)) {z0 : St} {σ : Nat → Nat} (hσ : ∀ i j, σ i = σ j → i = j) (S : Sim (f32V m e σ) (tmpl (List.range f32W.length) f32W []) z0) : J FF (fnOf FF 32) [] (.code (fnOf FF 32).body) z0 (.tup [(Md.av (Md.setE m 11 false)), (.int .i64 0)]) :=
  jR (R := gm (f32_p23V m e σ) (.tup [(.agg (vF 0 10 ++ vT 0 11 ++ [(.bool false)] ++ vT 12 20)), (.int .i64 0)])) (by kernel_rfl) (J_end (show Hold FF (f32_p23V m e σ) f32_p23F from ⟨(valL_good hσ (okL (by kernel_rfl)) (mdF_ok m) (.n)),
    holdF_of (AllP.append (rflF fun _ => by kernel_rfl) (.c (fIaP (j := 11) (k := .i64) (n := e) (by kernel_rfl) h11 (by decide)) <| .c (fT (by kernel_rfl) (bF h12)) <| .n)),
    holdA_of (.n),
    holdN_of (.n),
    holdS_of (.n)⟩) (S.more (ρ' := (f32_p23V m e σ)) (s0 := σ) (n0 := 0) rfl rfl rfl rfl (f32E m e σ) (f32G m e σ) (by kernel_rfl) (by kernel_rfl)) f32_p23Q)
def f32_p24V (m : Md) (e : Int) (σ : Nat → Nat) : Val := (valL (ap (mdT m) ([.int .i64 e, .bool (!(m.s 12))])) (mdF m) [] σ 0)
def f32_p24F : Facts := ⟨(List.append (α := AOp × AV) [(.un .not (cT 28), (vt 33))] [(.iaA 16 1 (.c (.ptr 0 10)) (cT 32), (.ptr 0 22)), mT 12, (.iaA 16 1 (.c (.ptr 0 26)) (cT 32), (.ptr 0 38))]), [], [], []⟩
theorem f32_p24Q : endS (fnOf FF 32) (stepK f32_p24F FF [] 4000 [] (.code (fnOf FF 32).body) (tmpl (List.range f32W.length) f32W [])) = some (.tup [(.agg (vF 0 10 ++ vT 0 12 ++ [(vt 33)] ++ vT 13 19)), (.int .i64 1)]) := by kernel_rfl
theorem f32_p24 (m : Md) (e : Int) (_h0 : ¬ (e = 0)) (_h1 : ¬ (e = 1)) (_h2 : ¬ (e = 2)) (_h3 : ¬ (e = 3)) (_h4 : ¬ (e = 4)) (_h5 : ¬ (e = 5)) (_h6 : ¬ (e = 6)) (_h7 : ¬ (e = 7)) (_h8 : ¬ (e = 8)) (_h9 : ¬ (e = 9)) (_h10 : ¬ (e = 10)) (_h11 : ¬ (e = 11)) (h12 : e = 12) (h13 : (m.e 12) = true) {z0 : St} {σ : Nat → Nat} (hσ : ∀ i j, σ i = σ j → i = j) (S : Sim (f32V m e σ) (tmpl (List.range f32W.length) f32W []) z0) : J FF (fnOf FF 32) [] (.code (fnOf FF 32).body) z0 (.tup [(Md.av (Md.setE m 12 (!(m.s 12)))), (.int .i64 1)]) :=
  jR (R := gm (f32_p24V m e σ) (.tup [(.agg (vF 0 10 ++ vT 0 12 ++ [(vt 33)] ++ vT 13 19)), (.int .i64 1)])) (by kernel_rfl) (J_end (show Hold FF (f32_p24V m e σ) f32_p24F from ⟨(valL_good hσ (okL (by kernel_rfl)) (mdF_ok m) (.n)),
    holdF_of (AllP.append (rflF fun _ => by kernel_rfl) (.c (fIaP (j := 12) (k := .i64) (n := e) (by kernel_rfl) h12 (by decide)) <| .c (fT (by kernel_rfl) h13) <| .c (fIaP (j := 12) (k := .i64) (n := e) (by kernel_rfl) h12 (by decide)) <| .n)),
    holdA_of (.n),
    holdN_of (.n),
    holdS_of (.n)⟩) (S.more (ρ' := (f32_p24V m e σ)) (s0 := σ) (n0 := 0) rfl rfl rfl rfl (f32E m e σ) (f32G m e σ) (by kernel_rfl) (by kernel_rfl)) f32_p24Q)
def f32_p25V (m : Md) (e : Int) (σ : Nat → Nat) : Val := (valL (ap (mdT m) ([.int .i64 e])) (mdF m) [] σ 0)
def f32_p25F : Facts := ⟨(List.append (α := AOp × AV) [] [(.iaA 16 1 (.c (.ptr 0 10)) (cT 32), (.ptr 0 22)), mF 12]), [], [], []⟩
theorem f32_p25Q : endS (fnOf FF 32) (stepK f32_p25F FF [] 4000 [] (.code (fnOf FF 32).body) (tmpl (List.range f32W.length) f32W [])) = some (.tup [(.agg (vF 0 10 ++ vT 0 12 ++ [(.bool false)] ++ vT 13 19)), (.int .i64 0)]) := by kernel_rfl
theorem f32_p25 (m : Md) (e : Int) (_h0 : ¬ (e = 0)) (_h1 : ¬ (e = 1)) (_h2 : ¬ (e = 2)) (_h3 : ¬ (e = 3)) (_h4 : ¬ (e = 4)) (_h5 : ¬ (e = 5)) (_h6 : ¬ (e = 6)) (_h7 : ¬ (e = 7)) (_h8 : ¬ (e = 8)) (_h9 : ¬ (e = 9)) (_h10 : ¬ (e = 10)) (_h11 : ¬ (e = 11)) (h12 : e = 12) (h13 : ¬ ((m.e 12) = true)) {z0 : St} {σ : Nat → Nat} (hσ : ∀ i j, σ i = σ j → i = j) (S : Sim (f32V m e σ) (tmpl (List.range f32W.length) f32W []) z0) : J FF (fnOf FF 32) [] (.code (fnOf FF 32).body) z0 (.tup [(Md.av (Md.setE m 12 false)), (.int .i64 0)]) :=
  jR (R := gm (f32_p25V m e σ) (.tup [(.agg (vF 0 10 ++ vT 0 12 ++ [(.bool false)] ++ vT 13 19)), (.int .i64 0)])) (by kernel_rfl) (J_end (show Hold FF (f32_p25V m e σ) f32_p25F from ⟨(valL_good hσ (okL (by kernel_rfl)) (mdF_ok m) (.n)),
    holdF_of (AllP.append (rflF fun _ => by kernel_rfl) (.c (fIaP (j := 12) (k := .i64) (n := e) (by kernel_rfl) h12 (by decide)) <| .c (fT (by kernel_rfl) (bF h13)) <| .n)),
    holdA_of (.n),
    holdN_of (.n),
    holdS_of (.n)⟩) (S.more (ρ' := (f32_p25V m e σ)) (s0 := σ) (n0 := 0) rfl rfl rfl rfl (f32E m e σ) (f32G m e σ) (by kernel_rfl) (by kernel_rfl)) f32_p25Q)
def f32_p26V (m : Md) (e : Int) (σ : Nat → Nat) : Val := (valL (ap (mdT m) ([.int .i64 e, .bool (!(m.s 13))])) (mdF m) [] σ 0)
def f32_p26F : Facts := ⟨(List.append (α := AOp × AV) [(.un .not (cT 29), (vt 33))] [(.iaA 16 1 (.c (.ptr 0 10)) (cT 32), (.ptr 0 23)), mT 13, (.iaA 16 1 (.c (.ptr 0 26)) (cT 32), (.ptr 0 39))]), [], [], []⟩
theorem f32_p26Q : endS (fnOf FF 32) (stepK f32_p26F FF [] 4000 [] (.code (fnOf FF 32).body) (tmpl (List.range f32W.length) f32W [])) = some (.tup [(.agg (vF 0 10 ++ vT 0 13 ++ [(vt 33)] ++ vT 14 18)), (.int .i64 1)]) := by kernel_rfl
theorem f32_p26 (m : Md) (e : Int) (_h0 : ¬ (e = 0)) (_h1 : ¬ (e = 1)) (_h2 : ¬ (e = 2)) (_h3 : ¬ (e = 3)) (_h4 : ¬ (e = 4)) (_h5 : ¬ (e = 5)) (_h6 : ¬ (e = 6)) (_h7 : ¬ (e = 7)) (_h8 : ¬ (e = 8)) (_h9 : ¬ (e = 9)) (_h10 : ¬ (e = 10)) (_h11 : ¬ (e = 11)) (_h12 : ¬ (e = 12)) (h13 : e = 13) (h14 : (m.e 13) = true) {z0 : St} {σ : Nat → Nat} (hσ : ∀ i j, σ i = σ j → i = j) (S : Sim (f32V m e σ) (tmpl (List.range f32W.length) f32W []) z0) : J FF (fnOf FF 32) [] (.code (fnOf FF 32).body) z0 (.tup [(Md.av (Md.setE m 13 (!(m.s 13)))), (.int .i64 1)]) :=
  jR (R := gm (f32_p26V m e σ) (.tup [(.agg (vF 0 10 ++ vT 0 13 ++ [(vt 33)] ++ vT 14 18)), (.int .i64 1)])) (by kernel_rfl) (J_end (show Hold FF (f32_p26V m e σ) f32_p26F from ⟨(valL_good hσ (okL (by kernel_rfl)) (mdF_ok m) (.n)),
    holdF_of (AllP.append (rflF fun _ => by kernel_rfl) (.c (fIaP (j := 13) (k := .i64) (n := e) (by kernel_rfl) h13 (by decide)) <| .c (fT (by kernel_rfl) h14) <| .c (fIaP (j := 13) (k := .i64) (n := e) (by kernel_rfl) h13 (by decide)) <| .n)),
    holdA_of (.n),
    holdN_of (.n),
    holdS_of (.n)⟩) (S.more (ρ' := (f32_p26V m e σ)) (s0 := σ) (n0 := 0) rfl rfl rfl rfl (f32E m e σ) (f32G m e σ) (by kernel_rfl) (by kernel_rfl)) f32_p26Q)
def f32_p27V (m : Md) (e : Int) (σ : Nat → Nat) : Val := (valL (ap (mdT m) ([.int .i64 e])) (mdF m) [] σ 0)
def f32_p27F : Facts := ⟨(List.append (α := AOp × AV) [] [(.iaA 16 1 (.c (.ptr 0 10)) (cT 32), (.ptr 0 23)), mF 13]), [], [], []⟩
theorem f32_p27Q : endS (fnOf FF 32) (stepK f32_p27F FF [] 4000 [] (.code (fnOf FF 32).body) (tmpl (List.range f32W.length) f32W [])) = some (.tup [(.agg (vF 0 10 ++ vT 0 13 ++ [(.bool false)] ++ vT 14 18)), (.int .i64 0)]) := by kernel_rfl
theorem f32_p27 (m : Md) (e : Int) (_h0 : ¬ (e = 0)) (_h1 : ¬ (e = 1)) (_h2 : ¬ (e = 2)) (_h3 : ¬ (e = 3)) (_h4 : ¬ (e = 4)) (_h5 : ¬ (e = 5)) (_h6 : ¬ (e = 6)) (_h7 : ¬ (e = 7)) (_h8 : ¬ (e = 8)) (_h9 : ¬ (e = 9)) (_h10 : ¬ (e = 10)) (_h11 : ¬ (e = 11)) (_h12 : ¬ (e = 12)) (h13 : e = 13) (h14 : ¬ ((m.e 13) = true)) {z0 : St} {σ : Nat → Nat} (hσ : ∀ i j, σ i = σ j → i = j) (S : Sim (f32V m e σ) (tmpl (List.range f32W.length) f32W []) z0) : J FF (fnOf FF 32) [] (.code (fnOf FF 32).body) z0 (.tup [(Md.av (Md.setE m 13 false)), (.int .i64 0)]) :=
  jR (R := gm (f32_p27V m e σ) (.tup [(.agg (vF 0 10 ++ vT 0 13 ++ [(.bool false)] ++ vT 14 18)), (.int .i64 0)])) (by kernel_rfl) (J_end (show Hold FF (f32_p27V m e σ) f32_p27F from ⟨(valL_good hσ (okL (by kernel_rfl)) (mdF_ok m) (.n)),
    holdF_of (AllP.append (rflF fun _ => by kernel_rfl) (.c (fIaP (j := 13) (k := .i64) (n := e) (by kernel_rfl) h13 (by decide)) <| .c (fT (by kernel_rfl) (bF h14)) <| .n)),
    holdA_of (.n),
    holdN_of (.n),
    holdS_of (.n)⟩) (S.more (ρ' := (f32_p27V m e σ)) (s0 := σ) (n0 := 0) rfl rfl rfl rfl (f32E m e σ) (f32G m e σ) (by kernel_rfl) (by kernel_rfl)) f32_p27Q)
def f32_p28V (m : Md) (e : Int) (σ : Nat → Nat) : Val := (valL (ap (mdT m) ([.int .i64 e, .bool (!(m.s 14))])) (mdF m) [] σ 0)
def f32_p28F : Facts := ⟨(List.append (α := AOp × AV) [(.un .not (cT 30), (vt 33))] [(.iaA 16 1 (.c (.ptr 0 10)) (cT 32), (.ptr 0 24)), mT 14, (.iaA 16 1 (.c (.ptr 0 26)) (cT 32), (.ptr 0 40))]), [], [], []⟩
theorem f32_p28Q : endS (fnOf FF 32) (stepK f32_p28F FF [] 4000 [] (.code (fnOf FF 32).body) (tmpl (List.range f32W.length) f32W [])) = some (.tup [(.agg (vF 0 10 ++ vT 0 14 ++ [(vt 33)] ++ vT 15 17)), (.int .i64 1)]) := by kernel_rfl
theorem f32_p28 (m : Md) (e : Int) (_h0 : ¬ (e = 0)) (_h1 : ¬ (e = 1)) (_h2 : ¬ (e = 2)) (_h3 : ¬ (e = 3)) (_h4 : ¬ (e = 4)) (_h5 : ¬ (e = 5)) (_h6 : ¬ (e = 6)) (_h7 : ¬ (e = 7)) (_h8 : ¬ (e = 8)) (_h9 : ¬ (e = 9)) (_h10 : ¬ (e = 10)) (_h11 : ¬ (e = 11)) (_h12 : ¬ (e = 12)) (_h13 : ¬ (e = 13)) (h14 : e = 14) (h15 : (m.e 14) = true) {z0 : St} {σ : Nat → Nat} (hσ : ∀ i j, σ i = σ j → i = j) (S : Sim (f32V m e σ) (tmpl (List.range f32W.length) f32W []) z0) : J FF (fnOf FF 32) [] (.code (fnOf FF 32).body) z0 (.tup [(Md.av (Md.setE m 14 (!(m.s 14)))), (.int .i64 1)]) :=
  jR (R := gm (f32_p28V m e σ) (.tup [(.agg (vF 0 10 ++ vT 0 14 ++ [(vt 33)] ++ vT 15 17)), (.int .i64 1)])) (by kernel_rfl) (J_end (show Hold FF (f32_p28V m e σ) f32_p28F from ⟨(valL_good hσ (okL (by kernel_rfl)) (mdF_ok m) (.n)),
    holdF_of (AllP.append (rflF fun _ => by kernel_rfl) (.c (fIaP (j := 14) (k := .i64) (n := e) (by kernel_rfl) h14 (by decide)) <| .c (fT (by kernel_rfl) h15) <| .c (fIaP (j := 14) (k := .i64) (n := e) (by kernel_rfl) h14 (by decide)) <| .n)),
    holdA_of (.n),
    holdN_of (.n),
    holdS_of (.n)⟩) (S.more (ρ' := (f32_p28V m e σ)) (s0 := σ) (n0 := 0) rfl rfl rfl rfl (f32E m e σ) (f32G m e σ) (by kernel_rfl) (by kernel_rfl)) f32_p28Q)
def f32_p29V (m : Md) (e : Int) (σ : Nat → Nat) : Val := (valL (ap (mdT m) ([.int .i64 e])) (mdF m) [] σ 0)
def f32_p29F : Facts := ⟨(List.append (α := AOp × AV) [] [(.iaA 16 1 (.c (.ptr 0 10)) (cT 32), (.ptr 0 24)), mF 14]), [], [], []⟩
theorem f32_p29Q : endS (fnOf FF 32) (stepK f32_p29F FF [] 4000 [] (.code (fnOf FF 32).body) (tmpl (List.range f32W.length) f32W [])) = some (.tup [(.agg (vF 0 10 ++ vT 0 14 ++ [(.bool false)] ++ vT 15 17)), (.int .i64 0)]) := by kernel_rfl
theorem f32_p29 (m : Md) (e : Int) (_h0 : ¬ (e = 0)) (_h1 : ¬ (e = 1)) (_h2 : ¬ (e = 2)) (_h3 : ¬ (e = 3)) (_h4 : ¬ (e = 4)) (_h5 : ¬ (e = 5)) (_h6 : ¬ (e = 6)) (_h7 : ¬ (e = 7)) (_h8 : ¬ (e = 8)) (_h9 : ¬ (e = 9)) (_h10 : ¬ (e = 10)) (_h11 : ¬ (e = 11)) (_h12 : ¬ (e = 12)) (_h13 : ¬ (e = 13)) (h14 : e = 14) (h15 : ¬ ((m.e 14) = true)) {z0 : St} {σ : Nat → Nat} (hσ : ∀ i j, σ i = σ j → i = j) (S : Sim (f32V m e σ) (tmpl (List.range f32W.length) f32W []) z0) : J FF (fnOf FF 32) [] (.code (fnOf FF 32).body) z0 (.tup [(Md.av (Md.setE m 14 false)), (.int .i64 0)]) :=
  jR (R := gm (f32_p29V m e σ) (.tup [(.agg (vF 0 10 ++ vT 0 14 ++ [(.bool false)] ++ vT 15 17)), (.int .i64 0)])) (by kernel_rfl) (J_end (show Hold FF (f32_p29V m e σ) f32_p29F from ⟨(valL_good hσ (okL (by kernel_rfl)) (mdF_ok m) (.n)),
    holdF_of (AllP.append (rflF fun _ => by kernel_rfl) (.c (fIaP (j := 14) (k := .i64) (n := e) (by kernel_rfl) h14 (by decide)) <| .c (fT (by kernel_rfl) (bF h15)) <| .n)),
    holdA_of (.n),
    holdN_of (.n),
    holdS_of (.n)⟩) (S.more (ρ' := (f32_p29V m e σ)) (s0 := σ) (n0 := 0) rfl rfl rfl rfl (f32E m e σ) (f32G m e σ) (by kernel_rfl) (by kernel_rfl)) f32_p29Q)
def f32_p30V (m : Md) (e : Int) (σ : Nat → Nat) : Val := (valL (ap (mdT m) ([.int .i64 e, .bool (!(m.s 15))])) (mdF m) [] σ 0)
def f32_p30F : Facts := ⟨(List.append (α := AOp × AV) [(.un .not (cT 31), (vt 33))] [(.iaA 16 1 (.c (.ptr 0 10)) (cT 32), (.ptr 0 25)), mT 15, (.iaA 16 1 (.c (.ptr 0 26)) (cT 32), (.ptr 0 41))]), [], [], []⟩
theorem f32_p30Q : endS (fnOf FF 32) (stepK f32_p30F FF [] 4000 [] (.code (fnOf FF 32).body) (tmpl (List.range f32W.length) f32W [])) = some (.tup [(.agg (vF 0 10 ++ vT 0 15 ++ [(vt 33)] ++ vT 16 16)), (.int .i64 1)]) := by kernel_rfl
theorem f32_p30 (m : Md) (e : Int) (_h0 : ¬ (e = 0)) (_h1 : ¬ (e = 1)) (_h2 : ¬ (e = 2)) (_h3 : ¬ (e = 3)) (_h4 : ¬ (e = 4)) (_h5 : ¬ (e = 5)) (_h6 : ¬ (e = 6)) (_h7 : ¬ (e = 7)) (_h8 : ¬ (e = 8)) (_h9 : ¬ (e = 9)) (_h10 : ¬ (e = 10)) (_h11 : ¬ (e = 11)) (_h12 : ¬ (e = 12)) (_h13 : ¬ (e = 13)) (_h14 : ¬ (e = 14)) (h15 : e = 15) (h16 : (m.e 15) = true) {z0 : St} {σ : Nat → Nat} (hσ : ∀ i j, σ i = σ j → i = j) (S : Sim (f32V m e σ) (tmpl (List.range f32W.length) f32W []) z0) : J FF (fnOf FF 32) [] (.code (fnOf FF 32).body) z0 (.tup [(Md.av (Md.setE m 15 (!(m.s 15)))), (.int .i64 1)]) :=
  jR (R := gm (f32_p30V m e σ) (.tup [(.agg (vF 0 10 ++ vT 0 15 ++ [(vt 33)] ++ vT 16 16)), (.int .i64 1)])) (by kernel_rfl) (J_end (show Hold FF (f32_p30V m e σ) f32_p30F from ⟨(valL_good hσ (okL (by kernel_rfl)) (mdF_ok m) (.n)),
    holdF_of (AllP.append (rflF fun _ => by kernel_rfl) (.c (fIaP (j := 15) (k := .i64) (n := e) (by kernel_rfl) h15 (by decide)) <| .c (fT (by kernel_rfl) h16) <| .c (fIaP (j := 15) (k := .i64) (n := e) (by kernel_rfl) h15 (by decide)) <| .n)),
    holdA_of (.n),
    holdN_of (.n),
    holdS_of (.n)⟩) (S.more (ρ' := (f32_p30V m e σ)) (s0 := σ) (n0 := 0) rfl rfl rfl rfl (f32E m e σ) (f32G m e σ) (by kernel_rfl) (by kernel_rfl)) f32_p30Q)
def f32_p31V (m : Md) (e : Int) (σ : Nat → Nat) : Val := (valL (ap (mdT m) ([.int .i64 e])) (mdF m) [] σ 0)
def f32_p31F : Facts := ⟨(List.append (α := AOp × AV) [] [(.iaA 16 1 (.c (.ptr 0 10)) (cT 32), (.ptr 0 25)), mF 15]), [], [], []⟩
theorem f32_p31Q : endS (fnOf FF 32) (stepK f32_p31F FF [] 4000 [] (.code (fnOf FF 32).body) (tmpl (List.range f32W.length) f32W [])) = some (.tup [(.agg (vF 0 10 ++ vT 0 15 ++ [(.bool false)] ++ vT 16 16)), (.int .i64 0)]) := by kernel_rfl
theorem f32_p31 (m : Md) (e : Int) (_h0 : ¬ (e = 0)) (_h1 : ¬ (e = 1)) (_h2 : ¬ (e = 2)) (_h3 : ¬ (e = 3)) (_h4 : ¬ (e = 4)) (_h5 : ¬ (e = 5)) (_h6 : ¬ (e = 6)) (_h7 : ¬ (e = 7)) (_h8 : ¬ (e = 8)) (_h9 : ¬ (e = 9)) (_h10 : ¬ (e = 10)) (_h11 : ¬ (e = 11)) (_h12 : ¬ (e = 12)) (_h13 : ¬ (e = 13)) (_h14 : ¬ (e = 14)) (h15 : e = 15) (h16 : ¬ ((m.e 15) = true)) {z0 : St} {σ : Nat → Nat} (hσ : ∀ i j, σ i = σ j → i = j) (S : Sim (f32V m e σ) (tmpl (List.range f32W.length) f32W []) z0) : J FF (fnOf FF 32) [] (.code (fnOf FF 32).body) z0 (.tup [(Md.av (Md.setE m 15 false)), (.int .i64 0)]) :=
  jR (R := gm (f32_p31V m e σ) (.tup [(.agg (vF 0 10 ++ vT 0 15 ++ [(.bool false)] ++ vT 16 16)), (.int .i64 0)])) (by kernel_rfl) (J_end (show Hold FF (f32_p31V m e σ) f32_p31F from ⟨(valL_good hσ (okL (by kernel_rfl)) (mdF_ok m) (.n)),
    holdF_of (AllP.append (rflF fun _ => by kernel_rfl) (.c (fIaP (j := 15) (k := .i64) (n := e) (by kernel_rfl) h15 (by decide)) <| .c (fT (by kernel_rfl) (bF h16)) <| .n)),
    holdA_of (.n),
    holdN_of (.n),
    holdS_of (.n)⟩) (S.more (ρ' := (f32_p31V m e σ)) (s0 := σ) (n0 := 0) rfl rfl rfl rfl (f32E m e σ) (f32G m e σ) (by kernel_rfl) (by kernel_rfl)) f32_p31Q)
theorem f32_ok (m : Md) (e : Int) {r0 : AV} (h : f32 m e = some r0) : Spec FF 32 [(Md.av m), (.int .i64 e)] r0 := by
  unfold f32 at h
  have hσ : ∀ i j : Nat, (fun i : Nat => i) i = (fun i : Nat => i) j → i = j := fun _ _ e => e
  exact spec_begin (ρ := f32V m e (fun i => i)) (xs := f32W) (by kernel_rfl) rfl rfl (by kernel_rfl) (fun z0 S => iteE h (fun h0 h => iteE h (fun h1 h => jE h (f32_p0 m e h0 h1 hσ S)) (fun h1 h => jE h (f32_p1 m e h0 h1 hσ S))) (fun h0 h => iteE h (fun h1 h => iteE h (fun h2 h => jE h (f32_p2 m e h0 h1 h2 hσ S)) (fun h2 h => jE h (f32_p3 m e h0 h1 h2 hσ S))) (fun h1 h => iteE h (fun h2 h => iteE h (fun h3 h => jE h (f32_p4 m e h0 h1 h2 h3 hσ S)) (fun h3 h => jE h (f32_p5 m e h0 h1 h2 h3 hσ S))) (fun h2 h => iteE h (fun h3 h => iteE h (fun h4 h => jE h (f32_p6 m e h0 h1 h2 h3 h4 hσ S)) (fun h4 h => jE h (f32_p7 m e h0 h1 h2 h3 h4 hσ S))) (fun h3 h => iteE h (fun h4 h => iteE h (fun h5 h => jE h (f32_p8 m e h0 h1 h2 h3 h4 h5 hσ S)) (fun h5 h => jE h (f32_p9 m e h0 h1 h2 h3 h4 h5 hσ S))) (fun h4 h => iteE h (fun h5 h => iteE h (fun h6 h => jE h (f32_p10 m e h0 h1 h2 h3 h4 h5 h6 hσ S)) (fun h6 h => jE h (f32_p11 m e h0 h1 h2 h3 h4 h5 h6 hσ S))) (fun h5 h => iteE h (fun h6 h => iteE h (fun h7 h => jE h (f32_p12 m e h0 h1 h2 h3 h4 h5 h6 h7 hσ S)) (fun h7 h => jE h (f32_p13 m e h0 h1 h2 h3 h4 h5 h6 h7 hσ S))) (fun h6 h => iteE h (fun h7 h => iteE h (fun h8 h => jE h (f32_p14 m e h0 h1 h2 h3 h4 h5 h6 h7 h8 hσ S)) (fun h8 h => jE h (f32_p15 m e h0 h1 h2 h3 h4 h5 h6 h7 h8 hσ S))) (fun h7 h => iteE h (fun h8 h => iteE h (fun h9 h => jE h (f32_p16 m e h0 h1 h2 h3 h4 h5 h6 h7 h8 h9 hσ S)) (fun h9 h => jE h (f32_p17 m e h0 h1 h2 h3 h4 h5 h6 h7 h8 h9 hσ S))) (fun h8 h => iteE h (fun h9 h => iteE h (fun h10 h => jE h (f32_p18 m e h0 h1 h2 h3 h4 h5 h6 h7 h8 h9 h10 hσ S)) (fun h10 h => jE h (f32_p19 m e h0 h1 h2 h3 h4 h5 h6 h7 h8 h9 h10 hσ S))) (fun h9 h => iteE h (fun h10 h => iteE h (fun h11 h => jE h (f32_p20 m e h0 h1 h2 h3 h4 h5 h6 h7 h8 h9 h10 h11 hσ S)) (fun h11 h => jE h (f32_p21 m e h0 h1 h2 h3 h4 h5 h6 h7 h8 h9 h10 h11 hσ S))) (fun h10 h => iteE h (fun h11 h => iteE h (fun h12 h => jE h (f32_p22 m e h0 h1 h2 h3 h4 h5 h6 h7 h8 h9 h10 h11 h12 hσ S)) (fun h12 h => jE h (f32_p23 m e h0 h1 h2 h3 h4 h5 h6 h7 h8 h9 h10 h11 h12 hσ S))) (fun h11 h => iteE h (fun h12 h => iteE h (fun h13 h => jE h (f32_p24 m e h0 h1 h2 h3 h4 h5 h6 h7 h8 h9 h10 h11 h12 h13 hσ S)) (fun h13 h => jE h (f32_p25 m e h0 h1 h2 h3 h4 h5 h6 h7 h8 h9 h10 h11 h12 h13 hσ S))) (fun h12 h => iteE h (fun h13 h => iteE h (fun h14 h => jE h (f32_p26 m e h0 h1 h2 h3 h4 h5 h6 h7 h8 h9 h10 h11 h12 h13 h14 hσ S)) (fun h14 h => jE h (f32_p27 m e h0 h1 h2 h3 h4 h5 h6 h7 h8 h9 h10 h11 h12 h13 h14 hσ S))) (fun h13 h => iteE h (fun h14 h => iteE h (fun h15 h => jE h (f32_p28 m e h0 h1 h2 h3 h4 h5 h6 h7 h8 h9 h10 h11 h12 h13 h14 h15 hσ S)) (fun h15 h => jE h (f32_p29 m e h0 h1 h2 h3 h4 h5 h6 h7 h8 h9 h10 h11 h12 h13 h14 h15 hσ S))) (fun h14 h => reqE h (fun h15 h => iteE h (fun h16 h => jE h (f32_p30 m e h0 h1 h2 h3 h4 h5 h6 h7 h8 h9 h10 h11 h12 h13 h14 h15 h16 hσ S)) (fun h16 h => jE h (f32_p31 m e h0 h1 h2 h3 h4 h5 h6 h7 h8 h9 h10 h11 h12 h13 h14 h15 h16 hσ S)))))))))))))))))))

def f19_2 : Nat → Md → Int → Option AV
  | 0, _, _ => none
  | fu + 1, m, p0 =>
    if p0 < (List.length m.k.l : Int) then
      if 0 ≤ p0 then Option.bind (m.k.l[Int.toNat p0]?) fun x2 =>
      if x2 < 0 then
        some (.bool false)
      else
        if x2 > 65535 then
          some (.bool false)
        else
          if p0 > 0 then
            if 0 ≤ (w64 (p0 - 1)) then Option.bind (m.k.l[Int.toNat (w64 (p0 - 1))]?) fun x7 =>
            if x7 ≥ x2 then
              some (.bool false)
            else
              f19_2 fu m (w64 (p0 + 1)) else none
          else
            f19_2 fu m (w64 (p0 + 1)) else none
    else
      some (.bool (decide ((List.length m.v.l : Int) = (List.length m.k.l : Int))))
def f19_2W : List AV := [(.ptr 0 0), (vt 0)]
def f19_2C : List Blk := [.cells (vF 0 10 ++ vT 1 32) false]
def f19_2V (m : Md) (p0 : Int) (σ : Nat → Nat) : Val := (valL (ap ([.int .i64 p0]) (mdT m)) (mdF m) [] σ 1)
def f19_2X (_m : Md) (p0 : Int) (σ : Nat → Nat) : List AV := [(.ptr (σ 0) 0), (.int .i64 p0)]
def f19_2Y (m : Md) (_p0 : Int) (_σ : Nat → Nat) : List Blk := [.cells (Md.cells m) false]
theorem f19_2E (m : Md) (p0 : Int) (σ : Nat → Nat) : f19_2W.map (gm (f19_2V m p0 σ)) = f19_2X m p0 σ := by kernel_rfl
theorem f19_2G (m : Md) (p0 : Int) (σ : Nat → Nat) : f19_2C.map (gB (f19_2V m p0 σ)) = f19_2Y m p0 σ := by kernel_rfl
def f19_2_p0V (m : Md) (p0 : Int) (x2 : Int) (σ : Nat → Nat) : Val := (valL (ap ([.int .i64 p0]) (ap (mdT m) ([.int .i64 (List.length m.k.l : Int), .bool (decide (p0 < (List.length m.k.l : Int))), .int .i64 x2, .bool (decide (x2 < 0))]))) (mdF m) [] σ 1)
def f19_2_p0F : Facts := ⟨(List.append (α := AOp × AV) [(.bin .lss (cT 0) (cT 33), (vt 34)), (.bin .lss (cT 35) (cI 0), (vt 36))] [(.len 0 (cF 8), (vt 33)), mT 34, (.iaS 1 (cF 8) (cT 0), (.ip [(vt 35)] 0)), mT 36]), [], [], []⟩
theorem f19_2_p0Q : endS (fnOf FF 19) (stepK f19_2_p0F FF [2] 4000 (.lp (cutB (fnOf FF 19) 2) :: cutK (fnOf FF 19) 2) (.code (cutB (fnOf FF 19) 2)) (tmpl [1, 4] f19_2W f19_2C)) = some (.bool false) := by kernel_rfl
theorem f19_2_p0 (m : Md) (p0 : Int) (h0 : p0 < (List.length m.k.l : Int)) (h1 : 0 ≤ p0) (x2 : Int) (h2 : m.k.l[Int.toNat p0]? = some x2) (h3 : x2 < 0) {z0 : St} {σ : Nat → Nat} (hσ : ∀ i j, σ i = σ j → i = j) (S : Sim (f19_2V m p0 σ) (tmpl [1, 4] f19_2W f19_2C) z0) : J FF (fnOf FF 19) (.lp (cutB (fnOf FF 19) 2) :: cutK (fnOf FF 19) 2) (.code (cutB (fnOf FF 19) 2)) z0 (.bool false) :=
  jR (R := gm (f19_2_p0V m p0 x2 σ) (.bool false)) (by kernel_rfl) (J_end (show Hold FF (f19_2_p0V m p0 x2 σ) f19_2_p0F from ⟨(valL_good hσ (okL (by kernel_rfl)) (mdF_ok m) (.n)),
    holdF_of (AllP.append (rflF fun _ => by kernel_rfl) (.c (fLen (e := eI) (l := m.k.l) (b := m.k.c) (by kernel_rfl) (by kernel_rfl)) <| .c (fT (by kernel_rfl) (decide_eq_true h0)) <| .c (fIa (sz := 1) (e := eI) (l := m.k.l) (b := m.k.c) (k := .i64) (n := p0) (y := x2) eI_ok (by kernel_rfl) (by kernel_rfl) h1 h2 (by kernel_rfl)) <| .c (fT (by kernel_rfl) (decide_eq_true h3)) <| .n)),
    holdA_of (.n),
    holdN_of (.n),
    holdS_of (.n)⟩) (S.more (ρ' := (f19_2_p0V m p0 x2 σ)) (s0 := σ) (n0 := 1) rfl rfl rfl rfl (f19_2E m p0 σ) (f19_2G m p0 σ) (by kernel_rfl) (by kernel_rfl)) f19_2_p0Q)
def f19_2_p1V (m : Md) (p0 : Int) (x2 : Int) (σ : Nat → Nat) : Val := (valL (ap ([.int .i64 p0]) (ap (mdT m) ([.int .i64 (List.length m.k.l : Int), .bool (decide (p0 < (List.length m.k.l : Int))), .int .i64 x2, .bool (decide (x2 < 0)), .bool (decide (x2 > 65535))]))) (mdF m) [] σ 1)
def f19_2_p1F : Facts := ⟨(List.append (α := AOp × AV) [(.bin .lss (cT 0) (cT 33), (vt 34)), (.bin .lss (cT 35) (cI 0), (vt 36)), (.bin .gtr (cT 35) (cI 65535), (vt 37))] [(.len 0 (cF 8), (vt 33)), mT 34, (.iaS 1 (cF 8) (cT 0), (.ip [(vt 35)] 0)), mF 36, mT 37]), [], [], []⟩
theorem f19_2_p1Q : endS (fnOf FF 19) (stepK f19_2_p1F FF [2] 4000 (.lp (cutB (fnOf FF 19) 2) :: cutK (fnOf FF 19) 2) (.code (cutB (fnOf FF 19) 2)) (tmpl [1, 4] f19_2W f19_2C)) = some (.bool false) := by kernel_rfl
theorem f19_2_p1 (m : Md) (p0 : Int) (h0 : p0 < (List.length m.k.l : Int)) (h1 : 0 ≤ p0) (x2 : Int) (h2 : m.k.l[Int.toNat p0]? = some x2) (h3 : ¬ (x2 < 0)) (h4 : x2 > 65535) {z0 : St} {σ : Nat → Nat} (hσ : ∀ i j, σ i = σ j → i = j) (S : Sim (f19_2V m p0 σ) (tmpl [1, 4] f19_2W f19_2C) z0) : J FF (fnOf FF 19) (.lp (cutB (fnOf FF 19) 2) :: cutK (fnOf FF 19) 2) (.code (cutB (fnOf FF 19) 2)) z0 (.bool false) :=
  jR (R := gm (f19_2_p1V m p0 x2 σ) (.bool false)) (by kernel_rfl) (J_end (show Hold FF (f19_2_p1V m p0 x2 σ) f19_2_p1F from ⟨(valL_good hσ (okL (by kernel_rfl)) (mdF_ok m) (.n)),
    holdF_of (AllP.append (rflF fun _ => by kernel_rfl) (.c (fLen (e := eI) (l := m.k.l) (b := m.k.c) (by kernel_rfl) (by kernel_rfl)) <| .c (fT (by kernel_rfl) (decide_eq_true h0)) <| .c (fIa (sz := 1) (e := eI) (l := m.k.l) (b := m.k.c) (k := .i64) (n := p0) (y := x2) eI_ok (by kernel_rfl) (by kernel_rfl) h1 h2 (by kernel_rfl)) <| .c (fT (by kernel_rfl) (decide_eq_false h3)) <| .c (fT (by kernel_rfl) (decide_eq_true h4)) <| .n)),
    holdA_of (.n),
    holdN_of (.n),
    holdS_of (.n)⟩) (S.more (ρ' := (f19_2_p1V m p0 x2 σ)) (s0 := σ) (n0 := 1) rfl rfl rfl rfl (f19_2E m p0 σ) (f19_2G m p0 σ) (by kernel_rfl) (by kernel_rfl)) f19_2_p1Q)
def f19_2_p2V (m : Md) (p0 : Int) (x2 : Int) (x7 : Int) (σ : Nat → Nat) : Val := (valL (ap ([.int .i64 p0]) (ap (mdT m) ([.int .i64 (List.length m.k.l : Int), .bool (decide (p0 < (List.length m.k.l : Int))), .int .i64 x2, .bool (decide (x2 < 0)), .bool (decide (x2 > 65535)), .bool (decide (p0 > 0)), .int .i64 (w64 (p0 - 1)), .int .i64 x7, .bool (decide (x7 ≥ x2))]))) (mdF m) [] σ 1)
def f19_2_p2F : Facts := ⟨(List.append (α := AOp × AV) [(.bin .lss (cT 0) (cT 33), (vt 34)), (.bin .lss (cT 35) (cI 0), (vt 36)), (.bin .gtr (cT 35) (cI 65535), (vt 37)), (.bin .gtr (cT 0) (cI 0), (vt 38)), (.bin .sub (cT 0) (cI 1), (vt 39)), (.bin .geq (cT 40) (cT 35), (vt 41))] [(.len 0 (cF 8), (vt 33)), mT 34, (.iaS 1 (cF 8) (cT 0), (.ip [(vt 35)] 0)), mF 36, mF 37, mT 38, (.iaS 1 (cF 8) (cT 39), (.ip [(vt 40)] 0)), mT 41]), [], [], []⟩
theorem f19_2_p2Q : endS (fnOf FF 19) (stepK f19_2_p2F FF [2] 4000 (.lp (cutB (fnOf FF 19) 2) :: cutK (fnOf FF 19) 2) (.code (cutB (fnOf FF 19) 2)) (tmpl [1, 4] f19_2W f19_2C)) = some (.bool false) := by kernel_rfl
theorem f19_2_p2 (m : Md) (p0 : Int) (h0 : p0 < (List.length m.k.l : Int)) (h1 : 0 ≤ p0) (x2 : Int) (h2 : m.k.l[Int.toNat p0]? = some x2) (h3 : ¬ (x2 < 0)) (h4 : ¬ (x2 > 65535)) (h5 : p0 > 0) (h6 : 0 ≤ (w64 (p0 - 1))) (x7 : Int) (h7 : m.k.l[Int.toNat (w64 (p0 - 1))]? = some x7) (h8 : x7 ≥ x2) {z0 : St} {σ : Nat → Nat} (hσ : ∀ i j, σ i = σ j → i = j) (S : Sim (f19_2V m p0 σ) (tmpl [1, 4] f19_2W f19_2C) z0) : J FF (fnOf FF 19) (.lp (cutB (fnOf FF 19) 2) :: cutK (fnOf FF 19) 2) (.code (cutB (fnOf FF 19) 2)) z0 (.bool false) :=
  jR (R := gm (f19_2_p2V m p0 x2 x7 σ) (.bool false)) (by kernel_rfl) (J_end (show Hold FF (f19_2_p2V m p0 x2 x7 σ) f19_2_p2F from ⟨(valL_good hσ (okL (by kernel_rfl)) (mdF_ok m) (.n)),
    holdF_of (AllP.append (rflF fun _ => by kernel_rfl) (.c (fLen (e := eI) (l := m.k.l) (b := m.k.c) (by kernel_rfl) (by kernel_rfl)) <| .c (fT (by kernel_rfl) (decide_eq_true h0)) <| .c (fIa (sz := 1) (e := eI) (l := m.k.l) (b := m.k.c) (k := .i64) (n := p0) (y := x2) eI_ok (by kernel_rfl) (by kernel_rfl) h1 h2 (by kernel_rfl)) <| .c (fT (by kernel_rfl) (decide_eq_false h3)) <| .c (fT (by kernel_rfl) (decide_eq_false h4)) <| .c (fT (by kernel_rfl) (decide_eq_true h5)) <| .c (fIa (sz := 1) (e := eI) (l := m.k.l) (b := m.k.c) (k := .i64) (n := (w64 (p0 - 1))) (y := x7) eI_ok (by kernel_rfl) (by kernel_rfl) h6 h7 (by kernel_rfl)) <| .c (fT (by kernel_rfl) (decide_eq_true h8)) <| .n)),
    holdA_of (.n),
    holdN_of (.n),
    holdS_of (.n)⟩) (S.more (ρ' := (f19_2_p2V m p0 x2 x7 σ)) (s0 := σ) (n0 := 1) rfl rfl rfl rfl (f19_2E m p0 σ) (f19_2G m p0 σ) (by kernel_rfl) (by kernel_rfl)) f19_2_p2Q)
def f19_2_p3V (m : Md) (p0 : Int) (x2 : Int) (x7 : Int) (σ : Nat → Nat) : Val := (valL (ap ([.int .i64 p0]) (ap (mdT m) ([.int .i64 (List.length m.k.l : Int), .bool (decide (p0 < (List.length m.k.l : Int))), .int .i64 x2, .bool (decide (x2 < 0)), .bool (decide (x2 > 65535)), .bool (decide (p0 > 0)), .int .i64 (w64 (p0 - 1)), .int .i64 x7, .bool (decide (x7 ≥ x2)), .int .i64 (w64 (p0 + 1))]))) (mdF m) [] σ 1)
def f19_2_p3F : Facts := ⟨(List.append (α := AOp × AV) [(.bin .lss (cT 0) (cT 33), (vt 34)), (.bin .lss (cT 35) (cI 0), (vt 36)), (.bin .gtr (cT 35) (cI 65535), (vt 37)), (.bin .gtr (cT 0) (cI 0), (vt 38)), (.bin .sub (cT 0) (cI 1), (vt 39)), (.bin .geq (cT 40) (cT 35), (vt 41)), (.bin .add (cT 0) (cI 1), (vt 42))] [(.len 0 (cF 8), (vt 33)), mT 34, (.iaS 1 (cF 8) (cT 0), (.ip [(vt 35)] 0)), mF 36, mF 37, mT 38, (.iaS 1 (cF 8) (cT 39), (.ip [(vt 40)] 0)), mF 41]), [], [], []⟩
theorem f19_2_p3Q : keep [1, 4] [0] (stepK f19_2_p3F FF [2] 4000 (.lp (cutB (fnOf FF 19) 2) :: cutK (fnOf FF 19) 2) (.code (cutB (fnOf FF 19) 2)) (tmpl [1, 4] f19_2W f19_2C)) = some (cutK (fnOf FF 19) 2, .loop (cutB (fnOf FF 19) 2), [(.ptr 0 0), (vt 42)], [.cells (vF 0 10 ++ vT 1 32) false], 33) := by kernel_rfl
theorem f19_2_p3 (m : Md) (p0 : Int) (h0 : p0 < (List.length m.k.l : Int)) (h1 : 0 ≤ p0) (x2 : Int) (h2 : m.k.l[Int.toNat p0]? = some x2) (h3 : ¬ (x2 < 0)) (h4 : ¬ (x2 > 65535)) (h5 : p0 > 0) (h6 : 0 ≤ (w64 (p0 - 1))) (x7 : Int) (h7 : m.k.l[Int.toNat (w64 (p0 - 1))]? = some x7) (h8 : ¬ (x7 ≥ x2)) {z0 : St} {σ : Nat → Nat} (hσ : ∀ i j, σ i = σ j → i = j) (S : Sim (f19_2V m p0 σ) (tmpl [1, 4] f19_2W f19_2C) z0) {r0 : AV} (hj : ∀ (σ1 : Nat → Nat) (c1 : St), (∀ i j, σ1 i = σ1 j → i = j) → Sim (f19_2V m (w64 (p0 + 1)) σ1) (tmpl [1, 4] f19_2W f19_2C) c1 → J FF (fnOf FF 19) (cutK (fnOf FF 19) 2) (.code (.loop (cutB (fnOf FF 19) 2))) c1 r0) : J FF (fnOf FF 19) (.lp (cutB (fnOf FF 19) 2) :: cutK (fnOf FF 19) 2) (.code (cutB (fnOf FF 19) 2)) z0 r0 :=
  J_next (show Hold FF (f19_2_p3V m p0 x2 x7 σ) f19_2_p3F from ⟨(valL_good hσ (okL (by kernel_rfl)) (mdF_ok m) (.n)),
    holdF_of (AllP.append (rflF fun _ => by kernel_rfl) (.c (fLen (e := eI) (l := m.k.l) (b := m.k.c) (by kernel_rfl) (by kernel_rfl)) <| .c (fT (by kernel_rfl) (decide_eq_true h0)) <| .c (fIa (sz := 1) (e := eI) (l := m.k.l) (b := m.k.c) (k := .i64) (n := p0) (y := x2) eI_ok (by kernel_rfl) (by kernel_rfl) h1 h2 (by kernel_rfl)) <| .c (fT (by kernel_rfl) (decide_eq_false h3)) <| .c (fT (by kernel_rfl) (decide_eq_false h4)) <| .c (fT (by kernel_rfl) (decide_eq_true h5)) <| .c (fIa (sz := 1) (e := eI) (l := m.k.l) (b := m.k.c) (k := .i64) (n := (w64 (p0 - 1))) (y := x7) eI_ok (by kernel_rfl) (by kernel_rfl) h6 h7 (by kernel_rfl)) <| .c (fT (by kernel_rfl) (decide_eq_false h8)) <| .n)),
    holdA_of (.n),
    holdN_of (.n),
    holdS_of (.n)⟩) (S.more (ρ' := (f19_2_p3V m p0 x2 x7 σ)) (s0 := σ) (n0 := 1) rfl rfl rfl rfl (f19_2E m p0 σ) (f19_2G m p0 σ) (by kernel_rfl) (by kernel_rfl)) f19_2_p3Q f19_2W f19_2C (f19_2V m (w64 (p0 + 1)) (sig σ [0] 33)) (X := f19_2X m (w64 (p0 + 1)) (sig σ [0] 33)) (Y := f19_2Y m (w64 (p0 + 1)) (sig σ [0] 33)) rfl rfl (by kernel_rfl) (f19_2E m (w64 (p0 + 1)) _) (by kernel_rfl) (f19_2G m (w64 (p0 + 1)) _) (fun c1 hi S2 => hj _ c1 hi S2)
def f19_2_p4V (m : Md) (p0 : Int) (x2 : Int) (σ : Nat → Nat) : Val := (valL (ap ([.int .i64 p0]) (ap (mdT m) ([.int .i64 (List.length m.k.l : Int), .bool (decide (p0 < (List.length m.k.l : Int))), .int .i64 x2, .bool (decide (x2 < 0)), .bool (decide (x2 > 65535)), .bool (decide (p0 > 0)), .int .i64 (w64 (p0 + 1))]))) (mdF m) [] σ 1)
def f19_2_p4F : Facts := ⟨(List.append (α := AOp × AV) [(.bin .lss (cT 0) (cT 33), (vt 34)), (.bin .lss (cT 35) (cI 0), (vt 36)), (.bin .gtr (cT 35) (cI 65535), (vt 37)), (.bin .gtr (cT 0) (cI 0), (vt 38)), (.bin .add (cT 0) (cI 1), (vt 39))] [(.len 0 (cF 8), (vt 33)), mT 34, (.iaS 1 (cF 8) (cT 0), (.ip [(vt 35)] 0)), mF 36, mF 37, mF 38]), [], [], []⟩
theorem f19_2_p4Q : keep [1, 4] [0] (stepK f19_2_p4F FF [2] 4000 (.lp (cutB (fnOf FF 19) 2) :: cutK (fnOf FF 19) 2) (.code (cutB (fnOf FF 19) 2)) (tmpl [1, 4] f19_2W f19_2C)) = some (cutK (fnOf FF 19) 2, .loop (cutB (fnOf FF 19) 2), [(.ptr 0 0), (vt 39)], [.cells (vF 0 10 ++ vT 1 32) false], 33) := by kernel_rfl
theorem f19_2_p4 (m : Md) (p0 : Int) (h0 : p0 < (List.length m.k.l : Int)) (h1 : 0 ≤ p0) (x2 : Int) (h2 : m.k.l[Int.toNat p0]? = some x2) (h3 : ¬ (x2 < 0)) (h4 : ¬ (x2 > 65535)) (h5 : ¬ (p0 > 0)) {z0 : St} {σ : Nat → Nat} (hσ : ∀ i j, σ i = σ j → i = j) (S : Sim (f19_2V m p0 σ) (tmpl [1, 4] f19_2W f19_2C) z0) {r0 : AV} (hj : ∀ (σ1 : Nat → Nat) (c1 : St), (∀ i j, σ1 i = σ1 j → i = j) → Sim (f19_2V m (w64 (p0 + 1)) σ1) (tmpl [1, 4] f19_2W f19_2C) c1 → J FF (fnOf FF 19) (cutK (fnOf FF 19) 2) (.code (.loop (cutB (fnOf FF 19) 2))) c1 r0) : J FF (fnOf FF 19) (.lp (cutB (fnOf FF 19) 2) :: cutK (fnOf FF 19) 2) (.code (cutB (fnOf FF 19) 2)) z0 r0 :=
  J_next (show Hold FF (f19_2_p4V m p0 x2 σ) f19_2_p4F from ⟨(valL_good hσ (okL (by kernel_rfl)) (mdF_ok m) (.n)),
    holdF_of (AllP.append (rflF fun _ => by kernel_rfl) (.c (fLen (e := eI) (l := m.k.l) (b := m.k.c) (by kernel_rfl) (by kernel_rfl)) <| .c (fT (by kernel_rfl) (decide_eq_true h0)) <| .c (fIa (sz := 1) (e := eI) (l := m.k.l) (b := m.k.c) (k := .i64) (n := p0) (y := x2) eI_ok (by kernel_rfl) (by kernel_rfl) h1 h2 (by kernel_rfl)) <| .c (fT (by kernel_rfl) (decide_eq_false h3)) <| .c (fT (by kernel_rfl) (decide_eq_false h4)) <| .c (fT (by kernel_rfl) (decide_eq_false h5)) <| .n)),
    holdA_of (.n),
    holdN_of (.n),
    holdS_of (.n)⟩) (S.more (ρ' := (f19_2_p4V m p0 x2 σ)) (s0 := σ) (n0 := 1) rfl rfl rfl rfl (f19_2E m p0 σ) (f19_2G m p0 σ) (by kernel_rfl) (by kernel_rfl)) f19_2_p4Q f19_2W f19_2C (f19_2V m (w64 (p0 + 1)) (sig σ [0] 33)) (X := f19_2X m (w64 (p0 + 1)) (sig σ [0] 33)) (Y := f19_2Y m (w64 (p0 + 1)) (sig σ [0] 33)) rfl rfl (by kernel_rfl) (f19_2E m (w64 (p0 + 1)) _) (by kernel_rfl) (f19_2G m (w64 (p0 + 1)) _) (fun c1 hi S2 => hj _ c1 hi S2)
def f19_2_p5V (m : Md) (p0 : Int) (σ : Nat → Nat) : Val := (valL (ap ([.int .i64 p0]) (ap (mdT m) ([.int .i64 (List.length m.k.l : Int), .bool (decide (p0 < (List.length m.k.l : Int))), .int .i64 (List.length m.v.l : Int), .bool (decide ((List.length m.v.l : Int) = (List.length m.k.l : Int)))]))) (mdF m) [] σ 1)
def f19_2_p5F : Facts := ⟨(List.append (α := AOp × AV) [(.bin .lss (cT 0) (cT 33), (vt 34)), (.bin .eql (cT 35) (cT 33), (vt 36))] [(.len 0 (cF 8), (vt 33)), mF 34, (.len 0 (cF 9), (vt 35))]), [], [], []⟩
theorem f19_2_p5Q : endS (fnOf FF 19) (stepK f19_2_p5F FF [2] 4000 (.lp (cutB (fnOf FF 19) 2) :: cutK (fnOf FF 19) 2) (.code (cutB (fnOf FF 19) 2)) (tmpl [1, 4] f19_2W f19_2C)) = some (vt 36) := by kernel_rfl
theorem f19_2_p5 (m : Md) (p0 : Int) (h0 : ¬ (p0 < (List.length m.k.l : Int))) {z0 : St} {σ : Nat → Nat} (hσ : ∀ i j, σ i = σ j → i = j) (S : Sim (f19_2V m p0 σ) (tmpl [1, 4] f19_2W f19_2C) z0) : J FF (fnOf FF 19) (.lp (cutB (fnOf FF 19) 2) :: cutK (fnOf FF 19) 2) (.code (cutB (fnOf FF 19) 2)) z0 (.bool (decide ((List.length m.v.l : Int) = (List.length m.k.l : Int)))) :=
  jR (R := gm (f19_2_p5V m p0 σ) (vt 36)) (by kernel_rfl) (J_end (show Hold FF (f19_2_p5V m p0 σ) f19_2_p5F from ⟨(valL_good hσ (okL (by kernel_rfl)) (mdF_ok m) (.n)),
    holdF_of (AllP.append (rflF fun _ => by kernel_rfl) (.c (fLen (e := eI) (l := m.k.l) (b := m.k.c) (by kernel_rfl) (by kernel_rfl)) <| .c (fT (by kernel_rfl) (decide_eq_false h0)) <| .c (fLen (e := eI) (l := m.v.l) (b := m.v.c) (by kernel_rfl) (by kernel_rfl)) <| .n)),
    holdA_of (.n),
    holdN_of (.n),
    holdS_of (.n)⟩) (S.more (ρ' := (f19_2_p5V m p0 σ)) (s0 := σ) (n0 := 1) rfl rfl rfl rfl (f19_2E m p0 σ) (f19_2G m p0 σ) (by kernel_rfl) (by kernel_rfl)) f19_2_p5Q)
theorem f19_2_ok : ∀ (fu : Nat) (m : Md) (p0 : Int) {r0 : AV} {z0 : St} {σ : Nat → Nat}, (∀ i j, σ i = σ j → i = j) → f19_2 fu m p0 = some r0 → Sim (f19_2V m p0 σ) (tmpl [1, 4] f19_2W f19_2C) z0 → J FF (fnOf FF 19) (cutK (fnOf FF 19) 2) (.code (.loop (cutB (fnOf FF 19) 2))) z0 r0 := by
  intro fu
  induction fu with
  | zero =>
    intro _ _ _ _ _ _ h _
    unfold f19_2 at h
    cases h
  | succ fu ih =>
    intro m p0 r0 z0 σ hσ h S
    unfold f19_2 at h
    exact J_enter (iteE h (fun h0 h => reqE h (fun h1 h => bindE h (fun x2 h2 h => iteE h (fun h3 h => jE h (f19_2_p0 m p0 h0 h1 x2 h2 h3 hσ S)) (fun h3 h => iteE h (fun h4 h => jE h (f19_2_p1 m p0 h0 h1 x2 h2 h3 h4 hσ S)) (fun h4 h => iteE h (fun h5 h => reqE h (fun h6 h => bindE h (fun x7 h7 h => iteE h (fun h8 h => jE h (f19_2_p2 m p0 h0 h1 x2 h2 h3 h4 h5 h6 x7 h7 h8 hσ S)) (fun h8 h => f19_2_p3 m p0 h0 h1 x2 h2 h3 h4 h5 h6 x7 h7 h8 hσ S (fun σ1 c1 hi S1 => ih _ _ hi h S1))))) (fun h5 h => f19_2_p4 m p0 h0 h1 x2 h2 h3 h4 h5 hσ S (fun σ1 c1 hi S1 => ih _ _ hi h S1))))))) (fun h0 h => jE h (f19_2_p5 m p0 h0 hσ S)))
def f19 (fu : Nat) (m : Md) : Option AV :=
  if (List.length (m.q 0).l : Int) > 1000 then
    some (.bool false)
  else
    if (List.length (m.q 1).l : Int) > 1000 then
      some (.bool false)
    else
      if (List.length (m.q 2).l : Int) > 1000 then
        some (.bool false)
      else
        if (List.length (m.q 3).l : Int) > 1000 then
          some (.bool false)
        else
          if (List.length (m.q 4).l : Int) > 1000 then
            some (.bool false)
          else
            if (List.length (m.q 5).l : Int) > 1000 then
              some (.bool false)
            else
              if (List.length (m.q 6).l : Int) > 1000 then
                some (.bool false)
              else
                if (List.length (m.q 7).l : Int) > 1000 then
                  some (.bool false)
                else
                  f19_2 fu m 0
def f19W : List AV := [(.agg (vF 0 10 ++ vT 0 32))]
def f19V (m : Md) (σ : Nat → Nat) : Val := (valL (mdT m) (mdF m) [] σ 0)
def f19X (m : Md) (_σ : Nat → Nat) : List AV := [(Md.av m)]
def f19Y (_m : Md) (_σ : Nat → Nat) : List Blk := []
theorem f19E (m : Md) (σ : Nat → Nat) : f19W.map (gm (f19V m σ)) = f19X m σ := by kernel_rfl
theorem f19G (m : Md) (σ : Nat → Nat) : ([] : List Blk).map (gB (f19V m σ)) = f19Y m σ := by kernel_rfl
def f19_p0V (m : Md) (σ : Nat → Nat) : Val := (valL (ap (mdT m) ([.int .i64 (List.length (m.q 0).l : Int), .bool (decide ((List.length (m.q 0).l : Int) > 1000))])) (mdF m) [] σ 0)
def f19_p0F : Facts := ⟨(List.append (α := AOp × AV) [(.bin .gtr (cT 32) (cI 1000), (vt 33))] [(.len 0 (cF 0), (vt 32)), mT 33]), [], [], []⟩
theorem f19_p0Q : endS (fnOf FF 19) (stepK f19_p0F FF [2] 4000 [] (.code (fnOf FF 19).body) (tmpl (List.range f19W.length) f19W [])) = some (.bool false) := by kernel_rfl
theorem f19_p0 (m : Md) (h0 : (List.length (m.q 0).l : Int) > 1000) {z0 : St} {σ : Nat → Nat} (hσ : ∀ i j, σ i = σ j → i = j) (S : Sim (f19V m σ) (tmpl (List.range f19W.length) f19W []) z0) : J FF (fnOf FF 19) [] (.code (fnOf FF 19).body) z0 (.bool false) :=
  jR (R := gm (f19_p0V m σ) (.bool false)) (by kernel_rfl) (J_end (show Hold FF (f19_p0V m σ) f19_p0F from ⟨(valL_good hσ (okL (by kernel_rfl)) (mdF_ok m) (.n)),
    holdF_of (AllP.append (rflF fun _ => by kernel_rfl) (.c (fLen (e := eI) (l := (m.q 0).l) (b := (m.q 0).c) (by kernel_rfl) (by kernel_rfl)) <| .c (fT (by kernel_rfl) (decide_eq_true h0)) <| .n)),
    holdA_of (.n),
    holdN_of (.n),
    holdS_of (.n)⟩) (S.more (ρ' := (f19_p0V m σ)) (s0 := σ) (n0 := 0) rfl rfl rfl rfl (f19E m σ) (f19G m σ) (by kernel_rfl) (by kernel_rfl)) f19_p0Q)
def f19_p1V (m : Md) (σ : Nat → Nat) : Val := (valL (ap (mdT m) ([.int .i64 (List.length (m.q 0).l : Int), .bool (decide ((List.length (m.q 0).l : Int) > 1000)), .int .i64 (List.length (m.q 1).l : Int), .bool (decide ((List.length (m.q 1).l : Int) > 1000))])) (mdF m) [] σ 0)
def f19_p1F : Facts := ⟨(List.append (α := AOp × AV) [(.bin .gtr (cT 32) (cI 1000), (vt 33)), (.bin .gtr (cT 34) (cI 1000), (vt 35))] [(.len 0 (cF 0), (vt 32)), mF 33, (.len 0 (cF 1), (vt 34)), mT 35]), [], [], []⟩
theorem f19_p1Q : endS (fnOf FF 19) (stepK f19_p1F FF [2] 4000 [] (.code (fnOf FF 19).body) (tmpl (List.range f19W.length) f19W [])) = some (.bool false) := by kernel_rfl
theorem f19_p1 (m : Md) (h0 : ¬ ((List.length (m.q 0).l : Int) > 1000)) (h1 : (List.length (m.q 1).l : Int) > 1000) {z0 : St} {σ : Nat → Nat} (hσ : ∀ i j, σ i = σ j → i = j) (S : Sim (f19V m σ) (tmpl (List.range f19W.length) f19W []) z0) : J FF (fnOf FF 19) [] (.code (fnOf FF 19).body) z0 (.bool false) :=
  jR (R := gm (f19_p1V m σ) (.bool false)) (by kernel_rfl) (J_end (show Hold FF (f19_p1V m σ) f19_p1F from ⟨(valL_good hσ (okL (by kernel_rfl)) (mdF_ok m) (.n)),
    holdF_of (AllP.append (rflF fun _ => by kernel_rfl) (.c (fLen (e := eI) (l := (m.q 0).l) (b := (m.q 0).c) (by kernel_rfl) (by kernel_rfl)) <| .c (fT (by kernel_rfl) (decide_eq_false h0)) <| .c (fLen (e := eI) (l := (m.q 1).l) (b := (m.q 1).c) (by kernel_rfl) (by kernel_rfl)) <| .c (fT (by kernel_rfl) (decide_eq_true h1)) <| .n)),
    holdA_of (.n),
    holdN_of (.n),
    holdS_of (.n)⟩) (S.more (ρ' := (f19_p1V m σ)) (s0 := σ) (n0 := 0) rfl rfl rfl rfl (f19E m σ) (f19G m σ) (by kernel_rfl) (by kernel_rfl)) f19_p1Q)
def f19_p2V (m : Md) (σ : Nat → Nat) : Val := (valL (ap (mdT m) ([.int .i64 (List.length (m.q 0).l : Int), .bool (decide ((List.length (m.q 0).l : Int) > 1000)), .int .i64 (List.length (m.q 1).l : Int), .bool (decide ((List.length (m.q 1).l : Int) > 1000)), .int .i64 (List.length (m.q 2).l : Int), .bool (decide ((List.length (m.q 2).l : Int) > 1000))])) (mdF m) [] σ 0)
def f19_p2F : Facts := ⟨(List.append (α := AOp × AV) [(.bin .gtr (cT 32) (cI 1000), (vt 33)), (.bin .gtr (cT 34) (cI 1000), (vt 35)), (.bin .gtr (cT 36) (cI 1000), (vt 37))] [(.len 0 (cF 0), (vt 32)), mF 33, (.len 0 (cF 1), (vt 34)), mF 35, (.len 0 (cF 2), (vt 36)), mT 37]), [], [], []⟩
theorem f19_p2Q : endS (fnOf FF 19) (stepK f19_p2F FF [2] 4000 [] (.code (fnOf FF 19).body) (tmpl (List.range f19W.length) f19W [])) = some (.bool false) := by kernel_rfl
theorem f19_p2 (m : Md) (h0 : ¬ ((List.length (m.q 0).l : Int) > 1000)) (h1 : ¬ ((List.length (m.q 1).l : Int) > 1000)) (h2 : (List.length (m.q 2).l : Int) > 1000) {z0 : St} {σ : Nat → Nat} (hσ : ∀ i j, σ i = σ j → i = j) (S : Sim (f19V m σ) (tmpl (List.range f19W.length) f19W []) z0) : J FF (fnOf FF 19) [] (.code (fnOf FF 19).body) z0 (.bool false) :=
  jR (R := gm (f19_p2V m σ) (.bool false)) (by kernel_rfl) (J_end (show Hold FF (f19_p2V m σ) f19_p2F from ⟨(valL_good hσ (okL (by kernel_rfl)) (mdF_ok m) (.n)),
    holdF_of (AllP.append (rflF fun _ => by kernel_rfl) (.c (fLen (e := eI) (l := (m.q 0).l) (b := (m.q 0).c) (by kernel_rfl) (by kernel_rfl)) <| .c (fT (by kernel_rfl) (decide_eq_false h0)) <| .c (fLen (e := eI) (l := (m.q 1).l) (b := (m.q 1).c) (by kernel_rfl) (by kernel_rfl)) <| .c (fT (by kernel_rfl) (decide_eq_false h1)) <| .c (fLen (e := eI) (l := (m.q 2).l) (b := (m.q 2).c) (by kernel_rfl) (by kernel_rfl)) <| .c (fT (by kernel_rfl) (decide_eq_true h2)) <| .n)),
    holdA_of (.n),
    holdN_of (.n),
    holdS_of (.n)⟩) (S.more (ρ' := (f19_p2V m σ)) (s0 := σ) (n0 := 0) rfl rfl rfl rfl (f19E m σ) (f19G m σ) (by kernel_rfl) (by kernel_rfl)) f19_p2Q)
def f19_p3V (m : Md) (σ : Nat → Nat) : Val := (valL (ap (mdT m) ([.int .i64 (List.length (m.q 0).l : Int), .bool (decide ((List.length (m.q 0).l : Int) > 1000)), .int .i64 (List.length (m.q 1).l : Int), .bool (decide ((List.length (m.q 1).l : Int) > 1000)), .int .i64 (List.length (m.q 2).l : Int), .bool (decide ((List.length (m.q 2).l : Int) > 1000)), .int .i64 (List.length (m.q 3).l : Int), .bool (decide ((List.length (m.q 3).l : Int) > 1000))])) (mdF m) [] σ 0)
def f19_p3F : Facts := ⟨(List.append (α := AOp × AV) [(.bin .gtr (cT 32) (cI 1000), (vt 33)), (.bin .gtr (cT 34) (cI 1000), (vt 35)), (.bin .gtr (cT 36) (cI 1000), (vt 37)), (.bin .gtr (cT 38) (cI 1000), (vt 39))] [(.len 0 (cF 0), (vt 32)), mF 33, (.len 0 (cF 1), (vt 34)), mF 35, (.len 0 (cF 2), (vt 36)), mF 37, (.len 0 (cF 3), (vt 38)), mT 39]), [], [], []⟩
theorem f19_p3Q : endS (fnOf FF 19) (stepK f19_p3F FF [2] 4000 [] (.code (fnOf FF 19).body) (tmpl (List.range f19W.length) f19W [])) = some (.bool false) := by kernel_rfl
theorem f19_p3 (m : Md) (h0 : ¬ ((List.length (m.q 0).l : Int) > 1000)) (h1 : ¬ ((List.length (m.q 1).l : Int) > 1000)) (h2 : ¬ ((List.length (m.q 2).l : Int) > 1000)) (h3 : (List.length (m.q 3).l : Int) > 1000) {z0 : St} {σ : Nat → Nat} (hσ : ∀ i j, σ i = σ j → i = j) (S : Sim (f19V m σ) (tmpl (List.range f19W.length) f19W []) z0) : J FF (fnOf FF 19) [] (.code (fnOf FF 19).body) z0 (.bool false) :=
  jR (R := gm (f19_p3V m σ) (.bool false)) (by kernel_rfl) (J_end (show Hold FF (f19_p3V m σ) f19_p3F from ⟨(valL_good hσ (okL (by kernel_rfl)) (mdF_ok m) (.n)),
    holdF_of (AllP.append (rflF fun _ => by kernel_rfl) (.c (fLen (e := eI) (l := (m.q 0).l) (b := (m.q 0).c) (by kernel_rfl) (by kernel_rfl)) <| .c (fT (by kernel_rfl) (decide_eq_false h0)) <| .c (fLen (e := eI) (l := (m.q 1).l) (b := (m.q 1).c) (by kernel_rfl) (by kernel_rfl)) <| .c (fT (by kernel_rfl) (decide_eq_false h1)) <| .c (fLen (e := eI) (l := (m.q 2).l) (b := (m.q 2).c) (by kernel_rfl) (by kernel_rfl)) <| .c (fT (by kernel_rfl) (decide_eq_false h2)) <| .c (fLen (e := eI) (l := (m.q 3).l) (b := (m.q 3).c) (by kernel_rfl) (by kernel_rfl)) <| .c (fT (by kernel_rfl) (decide_eq_true h3)) <| .n)),
    holdA_of (.n),
    holdN_of (.n),
    holdS_of (.n)⟩) (S.more (ρ' := (f19_p3V m σ)) (s0 := σ) (n0 := 0) rfl rfl rfl rfl (f19E m σ) (f19G m σ) (by kernel_rfl) (by kernel_rfl)) f19_p3Q)
def f19_p4V (m : Md) (σ : Nat → Nat) : Val := (valL (ap (mdT m) ([.int .i64 (List.length (m.q 0).l : Int), .bool (decide ((List.length (m.q 0).l : Int) > 1000)), .int .i64 (List.length (m.q 1).l : Int), .bool (decide ((List.length (m.q 1).l : Int) > 1000)), .int .i64 (List.length (m.q 2).l : Int), .bool (decide ((List.length (m.q 2).l : Int) > 1000)), .int .i64 (List.length (m.q 3).l : Int), .bool (decide ((List.length (m.q 3).l : Int) > 1000)), .int .i64 (List.length (m.q 4).l : Int), .bool (decide ((List.length (m.q 4).l : Int) > 1000))])) (mdF m) [] σ 0)
def f19_p4F : Facts := ⟨(List.append (α := AOp × AV) [(.bin .gtr (cT 32) (cI 1000), (vt 33)), (.bin .gtr (cT 34) (cI 1000), (vt 35)), (.bin .gtr (cT 36) (cI 1000), (vt 37)), (.bin .gtr (cT 38) (cI 1000), (vt 39)), (.bin .gtr (cT 40) (cI 1000), (vt 41))] [(.len 0 (cF 0), (vt 32)), mF 33, (.len 0 (cF 1), (vt 34)), mF 35, (.len 0 (cF 2), (vt 36)), mF 37, (.len 0 (cF 3), (vt 38)), mF 39, (.len 0 (cF 4), (vt 40)), mT 41]), [], [], []⟩
theorem f19_p4Q : endS (fnOf FF 19) (stepK f19_p4F FF [2] 4000 [] (.code (fnOf FF 19).body) (tmpl (List.range f19W.length) f19W [])) = some (.bool false) := by kernel_rfl
theorem f19_p4 (m : Md) (h0 : ¬ ((List.length (m.q 0).l : Int) > 1000)) (h1 : ¬ ((List.length (m.q 1).l : Int) > 1000)) (h2 : ¬ ((List.length (m.q 2).l : Int) > 1000)) (h3 : ¬ ((List.length (m.q 3).l : Int) > 1000)) (h4 : (List.length (m.q 4).l : Int) > 1000) {z0 : St} {σ : Nat → Nat} (hσ : ∀ i j, σ i = σ j → i = j) (S : Sim (f19V m σ) (tmpl (List.range f19W.length) f19W []) z0) : J FF (fnOf FF 19) [] (.code (fnOf FF 19).body) z0 (.bool false) :=
  jR (R := gm (f19_p4V m σ) (.bool false)) (by kernel_rfl) (J_end (show Hold FF (f19_p4V m σ) f19_p4F from ⟨(valL_good hσ (okL (by kernel_rfl)) (mdF_ok m) (.n)),
    holdF_of (AllP.append (rflF fun _ => by kernel_rfl) (.c (fLen (e := eI) (l := (m.q 0).l) (b := (m.q 0).c) (by kernel_rfl) (by kernel_rfl)) <| .c (fT (by kernel_rfl) (decide_eq_false h0)) <| .c (fLen (e := eI) (l := (m.q 1).l) (b := (m.q 1).c) (by kernel_rfl) (by kernel_rfl)) <| .c (fT (by kernel_rfl) (decide_eq_false h1)) <| .c (fLen (e := eI) (l := (m.q 2).l) (b := (m.q 2).c) (by kernel_rfl) (by kernel_rfl)) <| .c (fT (by kernel_rfl) (decide_eq_false h2)) <| .c (fLen (e := eI) (l := (m.q 3).l) (b := (m.q 3).c) (by kernel_rfl) (by kernel_rfl)) <| .c (fT (by kernel_rfl) (decide_eq_false h3)) <| .c (fLen (e := eI) (l := (m.q 4).l) (b := (m.q 4).c) (by kernel_rfl) (by kernel_rfl)) <| .c (fT (by kernel_rfl) (decide_eq_true h4)) <| .n)),
    holdA_of (.n),
    holdN_of (.n),
    holdS_of (.n)⟩) (S.more (ρ' := (f19_p4V m σ)) (s0 := σ) (n0 := 0) rfl rfl rfl rfl (f19E m σ) (f19G m σ) (by kernel_rfl) (by kernel_rfl)) f19_p4Q)
def f19_p5V (m : Md) (σ : Nat → Nat) : Val := (valL (ap (mdT m) ([.int .i64 (List.length (m.q 0).l : Int), .bool (decide ((List.length (m.q 0).l : Int) > 1000)), .int .i64 (List.length (m.q 1).l : Int), .bool (decide ((List.length (m.q 1).l : Int) > 1000)), .int .i64 (List.length (m.q 2).l : Int), .bool (decide ((List.length (m.q 2).l : Int) > 1000)), .int .i64 (List.length (m.q 3).l : Int), .bool (decide ((List.length (m.q 3).l : Int) > 1000)), .int .i64 (List.length (m.q 4).l : Int), .bool (decide ((List.length (m.q 4).l : Int) > 1000)), .int .i64 (List.length (m.q 5).l : Int), .bool (decide ((List.length (m.q 5).l : Int) > 1000))])) (mdF m) [] σ 0)
def f19_p5F : Facts := ⟨(List.append (α := AOp × AV) [(.bin .gtr (cT 32) (cI 1000), (vt 33)), (.bin .gtr (cT 34) (cI 1000), (vt 35)), (.bin .gtr (cT 36) (cI 1000), (vt 37)), (.bin .gtr (cT 38) (cI 1000), (vt 39)), (.bin .gtr (cT 40) (cI 1000), (vt 41)), (.bin .gtr (cT 42) (cI 1000), (vt 43))] [(.len 0 (cF 0), (vt 32)), mF 33, (.len 0 (cF 1), (vt 34)), mF 35, (.len 0 (cF 2), (vt 36)), mF 37, (.len 0 (cF 3), (vt 38)), mF 39, (.len 0 (cF 4), (vt 40)), mF 41, (.len 0 (cF 5), (vt 42)), mT 43]), [], [], []⟩
theorem f19_p5Q : endS (fnOf FF 19) (stepK f19_p5F FF [2] 4000 [] (.code (fnOf FF 19).body) (tmpl (List.range f19W.length) f19W [])) = some (.bool false) := by kernel_rfl
theorem f19_p5 (m : Md) (h0 : ¬ ((List.length (m.q 0).l : Int) > 1000)) (h1 : ¬ ((List.length (m.q 1).l : Int) > 1000)) (h2 : ¬ ((List.length (m.q 2).l : Int) > 1000)) (h3 : ¬ ((List.length (m.q 3).l : Int) > 1000)) (h4 : ¬ ((List.length (m.q 4).l : Int) > 1000)) (h5 : (List.length (m.q 5).l : Int) > 1000) {z0 : St} {σ : Nat → Nat} (hσ : ∀ i j, σ i = σ j → i = j) (S : Sim (f19V m σ) (tmpl (List.range f19W.length) f19W []) z0) : J FF (fnOf FF 19) [] (.code (fnOf FF 19).body) z0 (.bool false) :=
  jR (R := gm (f19_p5V m σ) (.bool false)) (by kernel_rfl) (J_end (show Hold FF (f19_p5V m σ) f19_p5F from ⟨(valL_good hσ (okL (by kernel_rfl)) (mdF_ok m) (.n)),
    holdF_of (AllP.append (rflF fun _ => by kernel_rfl) (.c (fLen (e := eI) (l := (m.q 0).l) (b := (m.q 0).c) (by kernel_rfl) (by kernel_rfl)) <| .c (fT (by kernel_rfl) (decide_eq_false h0)) <| .c (fLen (e := eI) (l := (m.q 1).l) (b := (m.q 1).c) (by kernel_rfl) (by kernel_rfl)) <| .c (fT (by kernel_rfl) (decide_eq_false h1)) <| .c (fLen (e := eI) (l := (m.q 2).l) (b := (m.q 2).c) (by kernel_rfl) (by kernel_rfl)) <| .c (fT (by kernel_rfl) (decide_eq_false h2)) <| .c (fLen (e := eI) (l := (m.q 3).l) (b := (m.q 3).c) (by kernel_rfl) (by kernel_rfl)) <| .c (fT (by kernel_rfl) (decide_eq_false h3)) <| .c (fLen (e := eI) (l := (m.q 4).l) (b := (m.q 4).c) (by kernel_rfl) (by kernel_rfl)) <| .c (fT (by kernel_rfl) (decide_eq_false h4)) <| .c (fLen (e := eI) (l := (m.q 5).l) (b := (m.q 5).c) (by kernel_rfl) (by kernel_rfl)) <| .c (fT (by kernel_rfl) (decide_eq_true h5)) <| .n)),
    holdA_of (.n),
    holdN_of (.n),
    holdS_of (.n)⟩) (S.more (ρ' := (f19_p5V m σ)) (s0 := σ) (n0 := 0) rfl rfl rfl rfl (f19E m σ) (f19G m σ) (by kernel_rfl) (by kernel_rfl)) f19_p5Q)
def f19_p6V (m : Md) (σ : Nat → Nat) : Val := (valL (ap (mdT m) ([.int .i64 (List.length (m.q 0).l : Int), .bool (decide ((List.length (m.q 0).l : Int) > 1000)), .int .i64 (List.length (m.q 1).l : Int), .bool (decide ((List.length (m.q 1).l : Int) > 1000)), .int .i64 (List.length (m.q 2).l : Int), .bool (decide ((List.length (m.q 2).l : Int) > 1000)), .int .i64 (List.length (m.q 3).l : Int), .bool (decide ((List.length (m.q 3).l : Int) > 1000)), .int .i64 (List.length (m.q 4).l : Int), .bool (decide ((List.length (m.q 4).l : Int) > 1000)), .int .i64 (List.length (m.q 5).l : Int), .bool (decide ((List.length (m.q 5).l : Int) > 1000)), .int .i64 (List.length (m.q 6).l : Int), .bool (decide ((List.length (m.q 6).l : Int) > 1000))])) (mdF m) [] σ 0)
def f19_p6F : Facts := ⟨(List.append (α := AOp × AV) [(.bin .gtr (cT 32) (cI 1000), (vt 33)), (.bin .gtr (cT 34) (cI 1000), (vt 35)), (.bin .gtr (cT 36) (cI 1000), (vt 37)), (.bin .gtr (cT 38) (cI 1000), (vt 39)), (.bin .gtr (cT 40) (cI 1000), (vt 41)), (.bin .gtr (cT 42) (cI 1000), (vt 43)), (.bin .gtr (cT 44) (cI 1000), (vt 45))] [(.len 0 (cF 0), (vt 32)), mF 33, (.len 0 (cF 1), (vt 34)), mF 35, (.len 0 (cF 2), (vt 36)), mF 37, (.len 0 (cF 3), (vt 38)), mF 39, (.len 0 (cF 4), (vt 40)), mF 41, (.len 0 (cF 5), (vt 42)), mF 43, (.len 0 (cF 6), (vt 44)), mT 45]), [], [], []⟩
theorem f19_p6Q : endS (fnOf FF 19) (stepK f19_p6F FF [2] 4000 [] (.code (fnOf FF 19).body) (tmpl (List.range f19W.length) f19W [])) = some (.bool false) := by kernel_rfl
theorem f19_p6 (m : Md) (h0 : ¬ ((List.length (m.q 0).l : Int) > 1000)) (h1 : ¬ ((List.length (m.q 1).l : Int) > 1000)) (h2 : ¬ ((List.length (m.q 2).l : Int) > 1000)) (h3 : ¬ ((List.length (m.q 3).l : Int) > 1000)) (h4 : ¬ ((List.length (m.q 4).l : Int) > 1000)) (h5 : ¬ ((List.length (m.q 5).l : Int) > 1000)) (h6 : (List.length (m.q 6).l : Int) > 1000) {z0 : St} {σ : Nat → Nat} (hσ : ∀ i j, σ i = σ j → i = j) (S : Sim (f19V m σ) (tmpl (List.range f19W.length) f19W []) z0) : J FF (fnOf FF 19) [] (.code (fnOf FF 19).body) z0 (.bool false) :=
  jR (R := gm (f19_p6V m σ) (.bool false)) (by kernel_rfl) (J_end (show Hold FF (f19_p6V m σ) f19_p6F from ⟨(valL_good hσ (okL (by kernel_rfl)) (mdF_ok m) (.n)),
    holdF_of (AllP.append (rflF fun _ => by kernel_rfl) (.c (fLen (e := eI) (l := (m.q 0).l) (b := (m.q 0).c) (by kernel_rfl) (by kernel_rfl)) <| .c (fT (by kernel_rfl) (decide_eq_false h0)) <| .c (fLen (e := eI) (l := (m.q 1).l) (b := (m.q 1).c) (by kernel_rfl) (by kernel_rfl)) <| .c (fT (by kernel_rfl) (decide_eq_false h1)) <| .c (fLen (e := eI) (l := (m.q 2).l) (b := (m.q 2).c) (by kernel_rfl) (by kernel_rfl)) <| .c (fT (by kernel_rfl) (decide_eq_false h2)) <| .c (fLen (e := eI) (l := (m.q 3).l) (b := (m.q 3).c) (by kernel_rfl) (by kernel_rfl)) <| .c (fT (by kernel_rfl) (decide_eq_false h3)) <| .c (fLen (e := eI) (l := (m.q 4).l) (b := (m.q 4).c) (by kernel_rfl) (by kernel_rfl)) <| .c (fT (by kernel_rfl) (decide_eq_false h4)) <| .c (fLen (e := eI) (l := (m.q 5).l) (b := (m.q 5).c) (by kernel_rfl) (by kernel_rfl)) <| .c (fT (by kernel_rfl) (decide_eq_false h5)) <| .c (fLen (e := eI) (l := (m.q 6).l) (b := (m.q 6).c) (by kernel_rfl) (by kernel_rfl)) <| .c (fT (by kernel_rfl) (decide_eq_true h6)) <| .n)),
    holdA_of (.n),
    holdN_of (.n),
    holdS_of (.n)⟩) (S.more (ρ' := (f19_p6V m σ)) (s0 := σ) (n0 := 0) rfl rfl rfl rfl (f19E m σ) (f19G m σ) (by kernel_rfl) (by kernel_rfl)) f19_p6Q)
def f19_p7V (m : Md) (σ : Nat → Nat) : Val := (valL (ap (mdT m) ([.int .i64 (List.length (m.q 0).l : Int), .bool (decide ((List.length (m.q 0).l : Int) > 1000)), .int .i64 (List.length (m.q 1).l : Int), .bool (decide ((List.length (m.q 1).l : Int) > 1000)), .int .i64 (List.length (m.q 2).l : Int), .bool (decide ((List.length (m.q 2).l : Int) > 1000)), .int .i64 (List.length (m.q 3).l : Int), .bool (decide ((List.length (m.q 3).l : Int) > 1000)), .int .i64 (List.length (m.q 4).l : Int), .bool (decide ((List.length (m.q 4).l : Int) > 1000)), .int .i64 (List.length (m.q 5).l : Int), .bool (decide ((List.length (m.q 5).l : Int) > 1000)), .int .i64 (List.length (m.q 6).l : Int), .bool (decide ((List.length (m.q 6).l : Int) > 1000)), .int .i64 (List.length (m.q 7).l : Int), .bool (decide ((List.length (m.q 7).l : Int) > 1000))])) (mdF m) [] σ 0)
def f19_p7F : Facts := ⟨(List.append (α := AOp × AV) [(.bin .gtr (cT 32) (cI 1000), (vt 33)), (.bin .gtr (cT 34) (cI 1000), (vt 35)), (.bin .gtr (cT 36) (cI 1000), (vt 37)), (.bin .gtr (cT 38) (cI 1000), (vt 39)), (.bin .gtr (cT 40) (cI 1000), (vt 41)), (.bin .gtr (cT 42) (cI 1000), (vt 43)), (.bin .gtr (cT 44) (cI 1000), (vt 45)), (.bin .gtr (cT 46) (cI 1000), (vt 47))] [(.len 0 (cF 0), (vt 32)), mF 33, (.len 0 (cF 1), (vt 34)), mF 35, (.len 0 (cF 2), (vt 36)), mF 37, (.len 0 (cF 3), (vt 38)), mF 39, (.len 0 (cF 4), (vt 40)), mF 41, (.len 0 (cF 5), (vt 42)), mF 43, (.len 0 (cF 6), (vt 44)), mF 45, (.len 0 (cF 7), (vt 46)), mT 47]), [], [], []⟩
theorem f19_p7Q : endS (fnOf FF 19) (stepK f19_p7F FF [2] 4000 [] (.code (fnOf FF 19).body) (tmpl (List.range f19W.length) f19W [])) = some (.bool false) := by kernel_rfl
theorem f19_p7 (m : Md) (h0 : ¬ ((List.length (m.q 0).l : Int) > 1000)) (h1 : ¬ ((List.length (m.q 1).l : Int) > 1000)) (h2 : ¬ ((List.length (m.q 2).l : Int) > 1000)) (h3 : ¬ ((List.length (m.q 3).l : Int) > 1000)) (h4 : ¬ ((List.length (m.q 4).l : Int) > 1000)) (h5 : ¬ ((List.length (m.q 5).l : Int) > 1000)) (h6 : ¬ ((List.length (m.q 6).l : Int) > 1000)) (h7 : (List.length (m.q 7).l : Int) > 1000) {z0 : St} {σ : Nat → Nat} (hσ : ∀ i j, σ i = σ j → i = j) (S : Sim (f19V m σ) (tmpl (List.range f19W.length) f19W []) z0) : J FF (fnOf FF 19) [] (.code (fnOf FF 19).body) z0 (.bool false) :=
  jR (R := gm (f19_p7V m σ) (.bool false)) (by kernel_rfl) (J_end (show Hold FF (f19_p7V m σ) f19_p7F from ⟨(valL_good hσ (okL (by kernel_rfl)) (mdF_ok m) (.n)),
    holdF_of (AllP.append (rflF fun _ => by kernel_rfl) (.c (fLen (e := eI) (l := (m.q 0).l) (b := (m.q 0).c) (by kernel_rfl) (by kernel_rfl)) <| .c (fT (by kernel_rfl) (decide_eq_false h0)) <| .c (fLen (e := eI) (l := (m.q 1).l) (b := (m.q 1).c) (by kernel_rfl) (by kernel_rfl)) <| .c (fT (by kernel_rfl) (decide_eq_false h1)) <| .c (fLen (e := eI) (l := (m.q 2).l) (b := (m.q 2).c) (by kernel_rfl) (by kernel_rfl)) <| .c (fT (by kernel_rfl) (decide_eq_false h2)) <| .c (fLen (e := eI) (l := (m.q 3).l) (b := (m.q 3).c) (by kernel_rfl) (by kernel_rfl)) <| .c (fT (by kernel_rfl) (decide_eq_false h3)) <| .c (fLen (e := eI) (l := (m.q 4).l) (b := (m.q 4).c) (by kernel_rfl) (by kernel_rfl)) <| .c (fT (by kernel_rfl) (decide_eq_false h4)) <| .c (fLen (e := eI) (l := (m.q 5).l) (b := (m.q 5).c) (by kernel_rfl) (by kernel_rfl)) <| .c (fT (by kernel_rfl) (decide_eq_false h5)) <| .c (fLen (e := eI) (l := (m.q 6).l) (b := (m.q 6).c) (by kernel_rfl) (by kernel_rfl)) <| .c (fT (by kernel_rfl) (decide_eq_false h6)) <| .c (fLen (e := eI) (l := (m.q 7).l) (b := (m.q 7).c) (by kernel_rfl) (by kernel_rfl)) <| .c (fT (by kernel_rfl) (decide_eq_true h7)) <| .n)),
    holdA_of (.n),
    holdN_of (.n),
    holdS_of (.n)⟩) (S.more (ρ' := (f19_p7V m σ)) (s0 := σ) (n0 := 0) rfl rfl rfl rfl (f19E m σ) (f19G m σ) (by kernel_rfl) (by kernel_rfl)) f19_p7Q)
def f19_p8V (m : Md) (σ : Nat → Nat) : Val := (valL (ap (mdT m) ([.int .i64 (List.length (m.q 0).l : Int), .bool (decide ((List.length (m.q 0).l : Int) > 1000)), .int .i64 (List.length (m.q 1).l : Int), .bool (decide ((List.length (m.q 1).l : Int) > 1000)), .int .i64 (List.length (m.q 2).l : Int), .bool (decide ((List.length (m.q 2).l : Int) > 1000)), .int .i64 (List.length (m.q 3).l : Int), .bool (decide ((List.length (m.q 3).l : Int) > 1000)), .int .i64 (List.length (m.q 4).l : Int), .bool (decide ((List.length (m.q 4).l : Int) > 1000)), .int .i64 (List.length (m.q 5).l : Int), .bool (decide ((List.length (m.q 5).l : Int) > 1000)), .int .i64 (List.length (m.q 6).l : Int), .bool (decide ((List.length (m.q 6).l : Int) > 1000)), .int .i64 (List.length (m.q 7).l : Int), .bool (decide ((List.length (m.q 7).l : Int) > 1000))])) (mdF m) [] σ 0)
def f19_p8F : Facts := ⟨(List.append (α := AOp × AV) [(.bin .gtr (cT 32) (cI 1000), (vt 33)), (.bin .gtr (cT 34) (cI 1000), (vt 35)), (.bin .gtr (cT 36) (cI 1000), (vt 37)), (.bin .gtr (cT 38) (cI 1000), (vt 39)), (.bin .gtr (cT 40) (cI 1000), (vt 41)), (.bin .gtr (cT 42) (cI 1000), (vt 43)), (.bin .gtr (cT 44) (cI 1000), (vt 45)), (.bin .gtr (cT 46) (cI 1000), (vt 47))] [(.len 0 (cF 0), (vt 32)), mF 33, (.len 0 (cF 1), (vt 34)), mF 35, (.len 0 (cF 2), (vt 36)), mF 37, (.len 0 (cF 3), (vt 38)), mF 39, (.len 0 (cF 4), (vt 40)), mF 41, (.len 0 (cF 5), (vt 42)), mF 43, (.len 0 (cF 6), (vt 44)), mF 45, (.len 0 (cF 7), (vt 46)), mF 47]), [], [], []⟩
theorem f19_p8Q : keep [1, 4] [0] (stepK f19_p8F FF [2] 4000 [] (.code (fnOf FF 19).body) (tmpl (List.range f19W.length) f19W [])) = some (cutK (fnOf FF 19) 2, .loop (cutB (fnOf FF 19) 2), [(.ptr 0 0), (.int .i64 0)], [.cells (vF 0 10 ++ vT 0 32) false], 1) := by kernel_rfl
theorem f19_p8 (m : Md) (h0 : ¬ ((List.length (m.q 0).l : Int) > 1000)) (h1 : ¬ ((List.length (m.q 1).l : Int) > 1000)) (h2 : ¬ ((List.length (m.q 2).l : Int) > 1000)) (h3 : ¬ ((List.length (m.q 3).l : Int) > 1000)) (h4 : ¬ ((List.length (m.q 4).l : Int) > 1000)) (h5 : ¬ ((List.length (m.q 5).l : Int) > 1000)) (h6 : ¬ ((List.length (m.q 6).l : Int) > 1000)) (h7 : ¬ ((List.length (m.q 7).l : Int) > 1000)) {z0 : St} {σ : Nat → Nat} (hσ : ∀ i j, σ i = σ j → i = j) (S : Sim (f19V m σ) (tmpl (List.range f19W.length) f19W []) z0) {r0 : AV} (hj : ∀ (σ1 : Nat → Nat) (c1 : St), (∀ i j, σ1 i = σ1 j → i = j) → Sim (f19_2V m 0 σ1) (tmpl [1, 4] f19_2W f19_2C) c1 → J FF (fnOf FF 19) (cutK (fnOf FF 19) 2) (.code (.loop (cutB (fnOf FF 19) 2))) c1 r0) : J FF (fnOf FF 19) [] (.code (fnOf FF 19).body) z0 r0 :=
  J_next (show Hold FF (f19_p8V m σ) f19_p8F from ⟨(valL_good hσ (okL (by kernel_rfl)) (mdF_ok m) (.n)),
    holdF_of (AllP.append (rflF fun _ => by kernel_rfl) (.c (fLen (e := eI) (l := (m.q 0).l) (b := (m.q 0).c) (by kernel_rfl) (by kernel_rfl)) <| .c (fT (by kernel_rfl) (decide_eq_false h0)) <| .c (fLen (e := eI) (l := (m.q 1).l) (b := (m.q 1).c) (by kernel_rfl) (by kernel_rfl)) <| .c (fT (by kernel_rfl) (decide_eq_false h1)) <| .c (fLen (e := eI) (l := (m.q 2).l) (b := (m.q 2).c) (by kernel_rfl) (by kernel_rfl)) <| .c (fT (by kernel_rfl) (decide_eq_false h2)) <| .c (fLen (e := eI) (l := (m.q 3).l) (b := (m.q 3).c) (by kernel_rfl) (by kernel_rfl)) <| .c (fT (by kernel_rfl) (decide_eq_false h3)) <| .c (fLen (e := eI) (l := (m.q 4).l) (b := (m.q 4).c) (by kernel_rfl) (by kernel_rfl)) <| .c (fT (by kernel_rfl) (decide_eq_false h4)) <| .c (fLen (e := eI) (l := (m.q 5).l) (b := (m.q 5).c) (by kernel_rfl) (by kernel_rfl)) <| .c (fT (by kernel_rfl) (decide_eq_false h5)) <| .c (fLen (e := eI) (l := (m.q 6).l) (b := (m.q 6).c) (by kernel_rfl) (by kernel_rfl)) <| .c (fT (by kernel_rfl) (decide_eq_false h6)) <| .c (fLen (e := eI) (l := (m.q 7).l) (b := (m.q 7).c) (by kernel_rfl) (by kernel_rfl)) <| .c (fT (by kernel_rfl) (decide_eq_false h7)) <| .n)),
    holdA_of (.n),
    holdN_of (.n),
    holdS_of (.n)⟩) (S.more (ρ' := (f19_p8V m σ)) (s0 := σ) (n0 := 0) rfl rfl rfl rfl (f19E m σ) (f19G m σ) (by kernel_rfl) (by kernel_rfl)) f19_p8Q f19_2W f19_2C (f19_2V m 0 (sig σ [0] 1)) (X := f19_2X m 0 (sig σ [0] 1)) (Y := f19_2Y m 0 (sig σ [0] 1)) rfl rfl (by kernel_rfl) (f19_2E m 0 _) (by kernel_rfl) (f19_2G m 0 _) (fun c1 hi S2 => hj _ c1 hi S2)
theorem f19_ok {fu : Nat} (m : Md) {r0 : AV} (h : f19 fu m = some r0) : Spec FF 19 [(Md.av m)] r0 := by
  unfold f19 at h
  have hσ : ∀ i j : Nat, (fun i : Nat => i) i = (fun i : Nat => i) j → i = j := fun _ _ e => e
  exact spec_begin (ρ := f19V m (fun i => i)) (xs := f19W) (by kernel_rfl) rfl rfl (by kernel_rfl) (fun z0 S => iteE h (fun h0 h => jE h (f19_p0 m h0 hσ S)) (fun h0 h => iteE h (fun h1 h => jE h (f19_p1 m h0 h1 hσ S)) (fun h1 h => iteE h (fun h2 h => jE h (f19_p2 m h0 h1 h2 hσ S)) (fun h2 h => iteE h (fun h3 h => jE h (f19_p3 m h0 h1 h2 h3 hσ S)) (fun h3 h => iteE h (fun h4 h => jE h (f19_p4 m h0 h1 h2 h3 h4 hσ S)) (fun h4 h => iteE h (fun h5 h => jE h (f19_p5 m h0 h1 h2 h3 h4 h5 hσ S)) (fun h5 h => iteE h (fun h6 h => jE h (f19_p6 m h0 h1 h2 h3 h4 h5 h6 hσ S)) (fun h6 h => iteE h (fun h7 h => jE h (f19_p7 m h0 h1 h2 h3 h4 h5 h6 h7 hσ S)) (fun h7 h => f19_p8 m h0 h1 h2 h3 h4 h5 h6 h7 hσ S (fun σ1 c1 hi S1 => f19_2_ok _ _ _ hi h S1))))))))))

end Go.Proofs.Hz
