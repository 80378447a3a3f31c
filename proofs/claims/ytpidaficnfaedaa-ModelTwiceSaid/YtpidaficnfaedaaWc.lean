/-
  Chapter 17: what the walked functions answer (part d).
  Conditions: none.
-/
import Derived.Test.YtpidaficnfaedaaWb
open Go Go.Proofs
namespace Go.Proofs.Hz
theorem f48_eq (n : Int) : f48 n = some (.tup [.int .i64 (unordF n).1, .bool (unordF n).2]) := by
  have hs : shT .shr .i64 n 1 = n / 2 := by have := sh_r n 1 (by omega); simpa using this
  unfold f48 unordF
  rw [hs, bv_and1]
  by_cases h1 : n < 0
  · rw [if_pos h1, if_pos (.inl h1)]
  · rw [if_neg h1]
    by_cases h2 : n / 2 > 65535
    · rw [if_pos h2, if_pos (by omega)]
    · rw [if_neg h2]
      by_cases h3 : n % 2 = 0
      · rw [if_pos h3, if_pos (by omega)]
      · rw [if_neg h3, if_neg (by omega)]
theorem f44_eq (x y : Int) : f44 x y = some (.bool (lessF x y)) := by simp [f44, isNaN2F, lessF]
theorem f46_eq {l : List Int} {bl : Bool} {a g : Int} {y : Sl} (h : withF l a g [] = some y) : f46 l bl a g = some (.im (y.l.map eI) y.c) := by
  unfold withF at h
  split at h
  · rename_i hc
    unfold f46
    rw [w64_id' (by omega), if_pos (by omega), if_pos (by omega), h]
    rfl
  · cases h
theorem f46x_eq {l : List Int} {bl : Bool} {a g x : Int} {y : Sl} (h : withF l a g [x] = some y) : f46x l bl a g x = some (.im (y.l.map eI) y.c) := by
  unfold withF at h
  split at h
  · rename_i hc
    unfold f46x
    rw [w64_id' (by omega), if_pos (by omega), if_pos (by omega), h]
    rfl
  · cases h
theorem f15_eq (m n : Md) (h : okM m = true) : f15 m n = some (.bool (sameF m n)) := by
  simp only [okM, List.range, List.range.loop, List.all_cons, List.all_nil, Bool.and_true, Bool.and_eq_true, decide_eq_true_eq] at h
  obtain ⟨⟨k0, k1, k2, k3, k4, k5, k6, k7⟩, hk, hv⟩ := h
  unfold f15 sameF
  simp only [List.range, List.range.loop, List.all_cons, List.all_nil, Bool.and_true]
  rw [if_pos k0]
  by_cases e0 : eqL (m.q 0).l (n.q 0).l = true
  rotate_left 1
  · simp [e0]
  rw [if_neg (by simp [e0]), if_pos k1]
  by_cases e1 : eqL (m.q 1).l (n.q 1).l = true
  rotate_left 1
  · simp [e1]
  rw [if_neg (by simp [e1]), if_pos k2]
  by_cases e2 : eqL (m.q 2).l (n.q 2).l = true
  rotate_left 1
  · simp [e2]
  rw [if_neg (by simp [e2]), if_pos k3]
  by_cases e3 : eqL (m.q 3).l (n.q 3).l = true
  rotate_left 1
  · simp [e3]
  rw [if_neg (by simp [e3]), if_pos k4]
  by_cases e4 : eqL (m.q 4).l (n.q 4).l = true
  rotate_left 1
  · simp [e4]
  rw [if_neg (by simp [e4]), if_pos k5]
  by_cases e5 : eqL (m.q 5).l (n.q 5).l = true
  rotate_left 1
  · simp [e5]
  rw [if_neg (by simp [e5]), if_pos k6]
  by_cases e6 : eqL (m.q 6).l (n.q 6).l = true
  rotate_left 1
  · simp [e6]
  rw [if_neg (by simp [e6]), if_pos k7]
  by_cases e7 : eqL (m.q 7).l (n.q 7).l = true
  rotate_left 1
  · simp [e7]
  rw [if_neg (by simp [e7]), if_pos hk, if_pos hv]
  simp only [e0, e1, e2, e3, e4, e5, e6, e7, Bool.true_and]
  by_cases ek : eqL m.k.l n.k.l = true
  rotate_left 1
  · simp [ek]
  rw [if_pos ek]
  by_cases ev : eqL m.v.l n.v.l = true
  rotate_left 1
  · simp [ev]
  rw [if_pos ev]
  simp only [ek, ev, Bool.true_and]
  split
  · rename_i he
    rw [he, Bool.true_and]
  · rename_i he
    simp only [Bool.not_eq_true] at he
    rw [he, Bool.false_and]
theorem f11_eq (m : Md) : f11 m = some (.bool (smallF m)) := by
  unfold f11 smallF
  simp only [List.range, List.range.loop, List.all_cons, List.all_nil, Bool.and_true]
  by_cases h0 : (m.q 0).l.length ≤ 40
  rotate_left 1
  · rw [if_pos (by omega)]; simp [h0]
  rw [if_neg (by omega)]
  by_cases h1 : (m.q 1).l.length ≤ 40
  rotate_left 1
  · rw [if_pos (by omega)]; simp [h1]
  rw [if_neg (by omega)]
  by_cases h2 : (m.q 2).l.length ≤ 40
  rotate_left 1
  · rw [if_pos (by omega)]; simp [h2]
  rw [if_neg (by omega)]
  by_cases h3 : (m.q 3).l.length ≤ 40
  rotate_left 1
  · rw [if_pos (by omega)]; simp [h3]
  rw [if_neg (by omega)]
  by_cases h4 : (m.q 4).l.length ≤ 40
  rotate_left 1
  · rw [if_pos (by omega)]; simp [h4]
  rw [if_neg (by omega)]
  by_cases h5 : (m.q 5).l.length ≤ 40
  rotate_left 1
  · rw [if_pos (by omega)]; simp [h5]
  rw [if_neg (by omega)]
  by_cases h6 : (m.q 6).l.length ≤ 40
  rotate_left 1
  · rw [if_pos (by omega)]; simp [h6]
  rw [if_neg (by omega)]
  by_cases h7 : (m.q 7).l.length ≤ 40
  rotate_left 1
  · rw [if_pos (by omega)]; simp [h7]
  rw [if_neg (by omega)]
  by_cases hk : m.k.l.length ≤ 40
  rotate_left 1
  · rw [if_neg (by omega)]; simp [hk]
  rw [if_pos (by omega), if_pos (by omega)]
  simp [h0, h1, h2, h3, h4, h5, h6, h7, hk]
theorem lessF_ok (x y : Int) : Spec FF 44 [.int .i64 x, .int .i64 y] (.bool (lessF x y)) := f44_ok x y (f44_eq x y)
theorem same15_ok (m n : Md) (h : okM m = true) : Spec FF 15 [m.av, n.av] (.bool (sameF m n)) := f15_ok m n (f15_eq m n h)
theorem small_ok (m : Md) : Spec FF 11 [m.av] (.bool (smallF m)) := f11_ok m (f11_eq m)
theorem unord_ok (n : Int) : Spec FF 48 [.int .i64 n] (.tup [.int .i64 (unordF n).1, .bool (unordF n).2]) := f48_ok n (f48_eq n)
theorem with0_ok {l : List Int} (bl : Bool) {a g : Int} (bm : Bool) {y : Sl} (h : withF l a g [] = some y) (hm : bm = true) : Spec FF 46 [.im (l.map eI) bl, .int .i64 a, .int .i64 g, .im [] bm] (.im (y.l.map eI) y.c) := by
  subst hm; exact f46_ok l bl a g (f46_eq h)
theorem with1_ok {l : List Int} (bl : Bool) {a g x : Int} {y : Sl} (h : withF l a g [x] = some y) : Spec FF 46 [.im (l.map eI) bl, .int .i64 a, .int .i64 g, .im [[.int .i64 x]] true] (.im (y.l.map eI) y.c) := f46x_ok l bl a g x (f46x_eq h)
end Go.Proofs.Hz
open Go Go.Proofs
namespace Go.Proofs.Hz
def f27_0 : Nat → List Int → Bool → Int → Int → Int → Option AV
  | 0, _, _, _, _, _ => none
  | fu + 1, l, bl, x, p0, p1 =>
    if p0 < p1 then
      if 0 ≤ (IntKind.wrap .i64 (shT .shr .u64 (IntKind.wrap .u64 (w64 (p0 + p1))) 1)) then Option.bind (l[Int.toNat (IntKind.wrap .i64 (shT .shr .u64 (IntKind.wrap .u64 (w64 (p0 + p1))) 1))]?) fun x2 =>
      if (lessF x2 x) = true then
        f27_0 fu l bl x (w64 ((IntKind.wrap .i64 (shT .shr .u64 (IntKind.wrap .u64 (w64 (p0 + p1))) 1)) + 1)) p1
      else
        f27_0 fu l bl x p0 (IntKind.wrap .i64 (shT .shr .u64 (IntKind.wrap .u64 (w64 (p0 + p1))) 1)) else none
    else
      if p0 < (List.length l : Int) then
        if 0 ≤ p0 then Option.bind (l[Int.toNat p0]?) fun x3 =>
        if x3 = x then
          some (.tup [(.int .i64 p0), (.bool true)])
        else
          if (isNaNF x3) = true then
            some (.tup [(.int .i64 p0), (.bool (isNaNF x))])
          else
            some (.tup [(.int .i64 p0), (.bool false)]) else none
      else
        some (.tup [(.int .i64 p0), (.bool false)])
def f27_0W : List AV := ([(vf 0)] ++ vT 0 4)
def f27_0C : List Blk := []
def f27_0V (l : List Int) (bl : Bool) (x : Int) (p0 : Int) (p1 : Int) (σ : Nat → Nat) : Val := (valL ([.int .i64 x, .int .i64 (List.length l : Int), .int .i64 p0, .int .i64 p1]) ([.im (List.map eI l) bl]) [] σ 0)
def f27_0X (l : List Int) (bl : Bool) (x : Int) (p0 : Int) (p1 : Int) (_σ : Nat → Nat) : List AV := [(.im (List.map eI l) bl), (.int .i64 x), (.int .i64 (List.length l : Int)), (.int .i64 p0), (.int .i64 p1)]
def f27_0Y (_l : List Int) (_bl : Bool) (_x : Int) (_p0 : Int) (_p1 : Int) (_σ : Nat → Nat) : List Blk := []
theorem f27_0E (l : List Int) (bl : Bool) (x : Int) (p0 : Int) (p1 : Int) (σ : Nat → Nat) : f27_0W.map (gm (f27_0V l bl x p0 p1 σ)) = f27_0X l bl x p0 p1 σ := by kernel_rfl
theorem f27_0G (l : List Int) (bl : Bool) (x : Int) (p0 : Int) (p1 : Int) (σ : Nat → Nat) : f27_0C.map (gB (f27_0V l bl x p0 p1 σ)) = f27_0Y l bl x p0 p1 σ := by kernel_rfl
theorem f27_0_ok : ∀ (fu : Nat) (l : List Int) (bl : Bool) (x : Int) (p0 : Int) (p1 : Int) {r0 : AV} {z0 : St} {σ : Nat → Nat}, (∀ i j, σ i = σ j → i = j) → f27_0 fu l bl x p0 p1 = some r0 → Sim (f27_0V l bl x p0 p1 σ) (tmpl [0, 1, 6, 7, 8] f27_0W f27_0C) z0 → J FF (fnOf FF 27) (cutK (fnOf FF 27) 0) (.code (.loop (cutB (fnOf FF 27) 0))) z0 r0 := by
  intro fu
  induction fu with
  | zero =>
    intro _ _ _ _ _ _ _ _ _ h _
    unfold f27_0 at h
    cases h
  | succ fu ih =>
    intro l bl x p0 p1 r0 z0 σ hσ h S
    unfold f27_0 at h
    exact J_enter (have H := Tok.start hσ S 0 4 1 0 ([.int .i64 x, .int .i64 (List.length l : Int), .int .i64 p0, .int .i64 p1]) ([.im (List.map eI l) bl]) [] (.c (OkF.im eI_ok _ _) <| .n) (.n) (f27_0E l bl x p0 p1 _) (f27_0G l bl x p0 p1 _); have H := H.t 5 [.bool (decide (p0 < p1))] |>.r [(.bin .lss (cT 2) (cT 3), (vt 4))]; iteE h (fun h0 h => have H := H.t 9 [.int .i64 (w64 (p0 + p1)), .int .u64 (IntKind.wrap .u64 (w64 (p0 + p1))), .int .u64 (shT .shr .u64 (IntKind.wrap .u64 (w64 (p0 + p1))) 1), .int .i64 (IntKind.wrap .i64 (shT .shr .u64 (IntKind.wrap .u64 (w64 (p0 + p1))) 1))] |>.r [(.bin .add (cT 2) (cT 3), (vt 5)), (.conv .u64 (cT 5), (vt 6)), (.conv .i64 (cT 7), (vt 8))] |>.m 4 true (decide_eq_true h0) |>.c (p := (.bin .shr (cT 6) (.c (.int .u64 1)), (vt 7))) (fun _ _ _ => fSh (k := .u64) (k' := .u64) (a := (IntKind.wrap .u64 (w64 (p0 + p1)))) (b := 1) (by simp) (by kernel_rfl) (by kernel_rfl) (by decide) (by kernel_rfl)); reqE h (fun h1 h => bindE h (fun x2 h2 h => have H := H.t 11 [.int .i64 x2, .bool (lessF x2 x)] |>.c (p := (.iaS 1 (cF 0) (cT 8), (.ip [(vt 9)] 0))) (fun _ _ _ => fIa (sz := 1) (e := eI) (l := l) (b := bl) (k := .i64) (n := (IntKind.wrap .i64 (shT .shr .u64 (IntKind.wrap .u64 (w64 (p0 + p1))) 1))) (y := x2) eI_ok (by kernel_rfl) (by kernel_rfl) h1 h2 (by kernel_rfl)) |>.s [(vt 9), (vt 0)] (vt 10) (lessF_ok x2 x); iteE h (fun h3 h => have H := H.t 12 [.int .i64 (w64 ((IntKind.wrap .i64 (shT .shr .u64 (IntKind.wrap .u64 (w64 (p0 + p1))) 1)) + 1))] |>.r [(.bin .add (cT 8) (cI 1), (vt 11))] |>.m 10 true h3; H.k [0] [0, 1, 6, 7, 8] [] [(vf 0), (vt 0), (vt 1), (vt 11), (vt 3)] [] 0 (f27_0V l bl x (w64 ((IntKind.wrap .i64 (shT .shr .u64 (IntKind.wrap .u64 (w64 (p0 + p1))) 1)) + 1)) p1 _) (f27_0E l bl x (w64 ((IntKind.wrap .i64 (shT .shr .u64 (IntKind.wrap .u64 (w64 (p0 + p1))) 1)) + 1)) p1 _) (f27_0G l bl x (w64 ((IntKind.wrap .i64 (shT .shr .u64 (IntKind.wrap .u64 (w64 (p0 + p1))) 1)) + 1)) p1 _) (fun _ hi S => ih _ _ _ _ _ hi h S)) (fun h3 h => have H := H.m 10 false (bF h3); H.k [0] [0, 1, 6, 7, 8] [] [(vf 0), (vt 0), (vt 1), (vt 2), (vt 8)] [] 0 (f27_0V l bl x p0 (IntKind.wrap .i64 (shT .shr .u64 (IntKind.wrap .u64 (w64 (p0 + p1))) 1)) _) (f27_0E l bl x p0 (IntKind.wrap .i64 (shT .shr .u64 (IntKind.wrap .u64 (w64 (p0 + p1))) 1)) _) (f27_0G l bl x p0 (IntKind.wrap .i64 (shT .shr .u64 (IntKind.wrap .u64 (w64 (p0 + p1))) 1)) _) (fun _ hi S => ih _ _ _ _ _ hi h S))))) (fun h0 h => have H := H.t 6 [.bool (decide (p0 < (List.length l : Int)))] |>.r [(.bin .lss (cT 2) (cT 1), (vt 5))] |>.m 4 false (decide_eq_false h0); iteE h (fun h1 h => have H := H.m 5 true (decide_eq_true h1); reqE h (fun h2 h => bindE h (fun x3 h3 h => have H := H.t 8 [.int .i64 x3, .bool (decide (x3 = x))] |>.r [(.bin .eql (cT 6) (cT 0), (vt 7))] |>.c (p := (.iaS 1 (cF 0) (cT 2), (.ip [(vt 6)] 0))) (fun _ _ _ => fIa (sz := 1) (e := eI) (l := l) (b := bl) (k := .i64) (n := p0) (y := x3) eI_ok (by kernel_rfl) (by kernel_rfl) h2 h3 (by kernel_rfl)); iteE h (fun h4 h => have H := H.m 7 true (decide_eq_true h4); H.e [0] h) (fun h4 h => have H := H.t 9 [.bool (isNaNF x3)] |>.m 7 false (decide_eq_false h4) |>.s [(vt 6)] (vt 8) (isNaNF_ok x3); iteE h (fun h5 h => have H := H.t 10 [.bool (isNaNF x)] |>.m 8 true h5 |>.s [(vt 0)] (vt 9) (isNaNF_ok x); H.e [0] h) (fun h5 h => have H := H.m 8 false (bF h5); H.e [0] h))))) (fun h1 h => have H := H.m 5 false (decide_eq_false h1); H.e [0] h)))
def f27 (fu : Nat) (l : List Int) (bl : Bool) (x : Int) : Option AV :=
  f27_0 fu l bl x 0 (List.length l : Int)
def f27W : List AV := [(vf 0), (vt 0)]
def f27V (l : List Int) (bl : Bool) (x : Int) (σ : Nat → Nat) : Val := (valL ([.int .i64 x]) ([.im (List.map eI l) bl]) [] σ 0)
def f27X (l : List Int) (bl : Bool) (x : Int) (_σ : Nat → Nat) : List AV := [(.im (List.map eI l) bl), (.int .i64 x)]
def f27Y (_l : List Int) (_bl : Bool) (_x : Int) (_σ : Nat → Nat) : List Blk := []
theorem f27E (l : List Int) (bl : Bool) (x : Int) (σ : Nat → Nat) : f27W.map (gm (f27V l bl x σ)) = f27X l bl x σ := by kernel_rfl
theorem f27G (l : List Int) (bl : Bool) (x : Int) (σ : Nat → Nat) : ([] : List Blk).map (gB (f27V l bl x σ)) = f27Y l bl x σ := by kernel_rfl
theorem f27_ok {fu : Nat} (l : List Int) (bl : Bool) (x : Int) {r0 : AV} (h : f27 fu l bl x = some r0) : Spec FF 27 [(.im (List.map eI l) bl), (.int .i64 x)] r0 := by
  unfold f27 at h
  have hσ : ∀ i j : Nat, (fun i : Nat => i) i = (fun i : Nat => i) j → i = j := fun _ _ e => e
  exact spec_begin (ρ := f27V l bl x (fun i => i)) (xs := f27W) (by kernel_rfl) rfl rfl (by kernel_rfl) (fun z0 S => have H := Tok.start hσ S 0 1 1 0 ([.int .i64 x]) ([.im (List.map eI l) bl]) [] (.c (OkF.im eI_ok _ _) <| .n) .n (f27E l bl x _) (f27G l bl x _); have H := H.t 2 [.int .i64 (List.length l : Int)] |>.c (p := (.len 0 (cF 0), (vt 1))) (fun _ _ _ => fLen (e := eI) (l := l) (b := bl) (by kernel_rfl) (by kernel_rfl)); H.k [0] [0, 1, 6, 7, 8] [] [(vf 0), (vt 0), (vt 1), (.int .i64 0), (vt 1)] [] 0 (f27_0V l bl x 0 (List.length l : Int) _) (f27_0E l bl x 0 (List.length l : Int) _) (f27_0G l bl x 0 (List.length l : Int) _) (fun _ hi S => f27_0_ok _ _ _ _ _ _ hi h S))

def f31 (m : Md) (at' : Int) : Option AV :=
  Option.bind (withF m.k.l at' 1 ([] : List Int)) fun x0 =>
  Option.bind (withF m.v.l at' 1 ([] : List Int)) fun x1 =>
  some (Md.av (Md.setV (Md.setK m ⟨x0.l, x0.c⟩) ⟨x1.l, x1.c⟩))
def f31W : List AV := [(.agg (vF 0 10 ++ vT 0 32)), (vt 32)]
def f31V (m : Md) (at' : Int) (σ : Nat → Nat) : Val := (valL (ap (mdT m) ([.int .i64 at'])) (mdF m) [] σ 0)
def f31X (m : Md) (at' : Int) (_σ : Nat → Nat) : List AV := [(Md.av m), (.int .i64 at')]
def f31Y (_m : Md) (_at' : Int) (_σ : Nat → Nat) : List Blk := []
theorem f31E (m : Md) (at' : Int) (σ : Nat → Nat) : f31W.map (gm (f31V m at' σ)) = f31X m at' σ := by kernel_rfl
theorem f31G (m : Md) (at' : Int) (σ : Nat → Nat) : ([] : List Blk).map (gB (f31V m at' σ)) = f31Y m at' σ := by kernel_rfl
theorem f31_ok (m : Md) (at' : Int) {r0 : AV} (h : f31 m at' = some r0) : Spec FF 31 [(Md.av m), (.int .i64 at')] r0 := by
  unfold f31 at h
  have hσ : ∀ i j : Nat, (fun i : Nat => i) i = (fun i : Nat => i) j → i = j := fun _ _ e => e
  exact spec_begin (ρ := f31V m at' (fun i => i)) (xs := f31W) (by kernel_rfl) rfl rfl (by kernel_rfl) (fun z0 S => have H := Tok.start hσ S 0 33 10 0 (ap (mdT m) ([.int .i64 at'])) (mdF m) [] (mdF_ok m) .n (f31E m at' _) (f31G m at' _); bindE h (fun x0 h0 h => have H := H.f 11 [.im (List.map eI x0.l) x0.c] (.c (OkF.im eI_ok _ _) <| .n) |>.s [(vf 8), (vt 32), (.int .i64 1), (.im [] true)] (vf 10) (with0_ok m.k.c true h0 rfl); bindE h (fun x1 h1 h => have H := H.f 12 [.im (List.map eI x1.l) x1.c] (.c (OkF.im eI_ok _ _) <| .n) |>.s [(vf 9), (vt 32), (.int .i64 1), (.im [] true)] (vf 11) (with0_ok m.v.c true h1 rfl); H.e [] h)))

end Go.Proofs.Hz
open Go Go.Proofs
namespace Go.Proofs.Hz
theorem f31_eq {m : Md} {a : Int} {y : Md} (h : cutF m a = some y) : f31 m a = some y.av := by
  unfold cutF at h
  unfold f31
  cases h1 : withF m.k.l a 1 [] with
  | none => rw [h1] at h; cases h
  | some k =>
    rw [h1] at h
    cases h2 : withF m.v.l a 1 [] with
    | none => rw [h2] at h; cases h
    | some v => rw [h2] at h; cases h; rfl
theorem w64_idc {n : Int} (h : -9223372036854775808 ≤ n ∧ n < 9223372036854775808) : w64 n = n := by
  unfold w64 IntKind.wrap
  simp [IntKind.signed, IntKind.bits]
  omega
/-- The middle. -/
theorem mid_eq {i j : Nat} (h : i ≤ 1000000) (h2 : j ≤ 1000000) : IntKind.wrap .i64 (shT .shr .u64 (IntKind.wrap .u64 (w64 ((i : Int) + (j : Int)))) 1) = (((i + j) / 2 : Nat) : Int) := by
  rw [w64_idc (by omega)]
  have h1 : IntKind.wrap .u64 ((i : Int) + (j : Int)) = ((i + j : Nat) : Int) := by
    unfold IntKind.wrap
    simp [IntKind.signed, IntKind.bits]
    omega
  rw [h1]
  have h3 : shT .shr .u64 ((i + j : Nat) : Int) 1 = (((i + j) / 2 : Nat) : Int) := by
    have hn : ¬ ((1 : Int) < 0) := by omega
    simp only [shT, shBin, if_neg hn, IntKind.bits]
    rw [Int.fdiv_eq_ediv_of_nonneg _ (by simp)]
    simp
  rw [h3]
  have := w64_idc (n := (((i + j) / 2 : Nat) : Int)) (by omega)
  exact this
theorem lbF_le (l : List Int) (x : Int) : lbF l x ≤ l.length := (List.takeWhile_prefix _).length_le
theorem takeWhile_get {p : Int → Bool} : ∀ (l : List Int) (i : Nat) (h : i < l.length), i < (l.takeWhile p).length → p l[i] = true
  | [], i, h, _ => by simp at h
  | a :: l, i, h, hi => by
    rw [List.takeWhile_cons] at hi
    split at hi
    · rename_i hp
      cases i with
      | zero => simpa using hp
      | succ i =>
        simp only [List.length_cons] at hi h
        simpa using takeWhile_get l i (by omega) (by omega)
    · simp at hi
theorem takeWhile_stop {p : Int → Bool} : ∀ (l : List Int) (h : (l.takeWhile p).length < l.length), p l[(l.takeWhile p).length] = false
  | [], h => by simp at h
  | a :: l, h => by
    by_cases hp : p a = true
    · have e : (a :: l).takeWhile p = a :: l.takeWhile p := by simp [hp]
      have h' : (l.takeWhile p).length < l.length := by rw [e] at h; simpa using h
      have := takeWhile_stop l h'
      simp only [e, List.length_cons, List.getElem_cons_succ]
      exact this
    · have e : (a :: l).takeWhile p = [] := by simp [hp]
      simp only [e, List.length_nil, List.getElem_cons_zero]
      simpa using hp
/-- Below the place all is less; from there on nothing is. -/
theorem lb_lt {l : List Int} {x : Int} {i : Nat} (h : i < l.length) (hi : i < lbF l x) : l[i] < x := by
  have := takeWhile_get l i h hi; simpa using this
theorem lb_ge {l : List Int} {x : Int} (hs : l.Pairwise (· < ·)) {i : Nat} (h : i < l.length) (hi : lbF l x ≤ i) : x ≤ l[i] := by
  have h1 : lbF l x < l.length := by omega
  have h2 := takeWhile_stop (p := fun y => decide (y < x)) l h1
  have h3 : x ≤ l[lbF l x] := by
    exact Int.not_lt.1 (of_decide_eq_false h2)
  by_cases e : lbF l x = i
  · subst e; exact h3
  · have := List.pairwise_iff_getElem.1 hs (lbF l x) i h1 h (by omega)
    omega
theorem mem_lb {l : List Int} {x : Int} (hs : l.Pairwise (· < ·)) : x ∈ l ↔ ∃ h : lbF l x < l.length, l[lbF l x] = x := by
  constructor
  · intro hm
    obtain ⟨i, hi, e⟩ := List.getElem_of_mem hm
    have h1 : lbF l x ≤ i := by
      by_cases h : i < lbF l x
      · have := lb_lt hi h; omega
      · omega
    have h2 : ¬ lbF l x < i := fun hlt => by
      have h3 := List.pairwise_iff_getElem.1 hs (lbF l x) i (by omega) hi hlt
      have h4 := lb_ge hs (x := x) (i := lbF l x) (by omega) (Nat.le_refl _)
      omega
    have h3 : lbF l x = i := by omega
    exact ⟨by omega, by simp only [h3]; exact e⟩
  · rintro ⟨h, e⟩
    rw [← e]; exact List.getElem_mem h
theorem f27_0_eq {l : List Int} (bl : Bool) {x : Int} (hs : l.Pairwise (· < ·)) (hl : l.length ≤ 1000000) : ∀ (k i j : Nat), i ≤ lbF l x → lbF l x ≤ j → j ≤ l.length → j - i < k → f27_0 k l bl x i j = some (.tup [.int .i64 (lbF l x : Nat), .bool (decide (x ∈ l))]) := by
  intro k
  induction k with
  | zero => intro i j _ _ _ h; omega
  | succ k ih =>
    intro i j h1 h2 h3 h4
    unfold f27_0
    by_cases h : i < j
    · rw [if_pos (by omega), mid_eq (by omega) (by omega), if_pos (by omega), Int.toNat_natCast, List.getElem?_eq_getElem (show (i + j) / 2 < l.length by omega)]
      simp only [Option.bind_some, lessF, decide_eq_true_eq]
      by_cases hlt : l[(i + j) / 2] < x
      · rw [if_pos hlt, w64_idc (by omega), show (((i + j) / 2 : Nat) : Int) + 1 = (((i + j) / 2 + 1 : Nat) : Int) by omega]
        refine ih _ _ ?_ h2 h3 (by omega)
        have : ¬ lbF l x ≤ (i + j) / 2 := fun hle => by
          have := lb_ge hs (x := x) (i := (i + j) / 2) (by omega) hle; omega
        omega
      · rw [if_neg hlt]
        refine ih _ _ h1 ?_ (by omega) (by omega)
        by_cases hle : lbF l x ≤ (i + j) / 2
        · exact hle
        · exact absurd (lb_lt (x := x) (i := (i + j) / 2) (by omega) (by omega)) hlt
    · have hij : i = lbF l x := by omega
      rw [if_neg (by omega), hij]
      by_cases hlt : lbF l x < l.length
      · rw [if_pos (by omega), if_pos (by omega), Int.toNat_natCast, List.getElem?_eq_getElem hlt]
        simp only [Option.bind_some]
        by_cases e : l[lbF l x] = x
        · rw [if_pos e]
          have : x ∈ l := (mem_lb hs).2 ⟨hlt, e⟩
          simp [this]
        · rw [if_neg e]
          have : ¬ x ∈ l := fun hm => e ((mem_lb hs).1 hm).2
          simp [isNaNF, this]
      · rw [if_neg (by omega)]
        have : ¬ x ∈ l := fun hm => hlt ((mem_lb hs).1 hm).1
        simp [this]
theorem f27_eq {l : List Int} (bl : Bool) {x : Int} {y : Int × Bool} (h : searchF l x = some y) : f27 (l.length + 1) l bl x = some (.tup [.int .i64 y.1, .bool y.2]) := by
  unfold searchF at h
  split at h
  · rename_i hc
    cases h
    unfold f27
    have := f27_0_eq bl (x := x) hc.1 hc.2 (l.length + 1) 0 l.length (Nat.zero_le _) (lbF_le _ _) (Nat.le_refl _) (by omega)
    exact this
  · cases h
theorem search_ok (b : Bool) {l : List Int} {x : Int} {y : Int × Bool} (h : searchF l x = some y) : Spec FF 27 [.im (l.map eI) b, .int .i64 x] (.tup [.int .i64 y.1, .bool y.2]) := f27_ok l b x (f27_eq b h)
theorem cut_ok {m : Md} {a : Int} {y : Md} (h : cutF m a = some y) : Spec FF 31 [m.av, .int .i64 a] y.av := f31_ok m a (f31_eq h)
end Go.Proofs.Hz
open Go Go.Proofs
namespace Go.Proofs.Hz
def f30 (m : Md) (name : Int) (val : Int) : Option AV :=
  Option.bind (searchF m.k.l name) fun x0 =>
  Option.bind (withF m.k.l x0.1 0 [name]) fun x1 =>
  Option.bind (withF m.v.l x0.1 0 [val]) fun x2 =>
  some (Md.av (Md.setV (Md.setK m ⟨x1.l, x1.c⟩) ⟨x2.l, x2.c⟩))
def f30W : List AV := [(.agg (vF 0 10 ++ vT 0 32)), (vt 32), (vt 33)]
def f30V (m : Md) (name : Int) (val : Int) (σ : Nat → Nat) : Val := (valL (ap (mdT m) ([.int .i64 name, .int .i64 val])) (mdF m) [] σ 0)
def f30X (m : Md) (name : Int) (val : Int) (_σ : Nat → Nat) : List AV := [(Md.av m), (.int .i64 name), (.int .i64 val)]
def f30Y (_m : Md) (_name : Int) (_val : Int) (_σ : Nat → Nat) : List Blk := []
theorem f30E (m : Md) (name : Int) (val : Int) (σ : Nat → Nat) : f30W.map (gm (f30V m name val σ)) = f30X m name val σ := by kernel_rfl
theorem f30G (m : Md) (name : Int) (val : Int) (σ : Nat → Nat) : ([] : List Blk).map (gB (f30V m name val σ)) = f30Y m name val σ := by kernel_rfl
theorem f30_ok (m : Md) (name : Int) (val : Int) {r0 : AV} (h : f30 m name val = some r0) : Spec FF 30 [(Md.av m), (.int .i64 name), (.int .i64 val)] r0 := by
  unfold f30 at h
  have hσ : ∀ i j : Nat, (fun i : Nat => i) i = (fun i : Nat => i) j → i = j := fun _ _ e => e
  exact spec_begin (ρ := f30V m name val (fun i => i)) (xs := f30W) (by kernel_rfl) rfl rfl (by kernel_rfl) (fun z0 S => have H := Tok.start hσ S 0 34 10 0 (ap (mdT m) ([.int .i64 name, .int .i64 val])) (mdF m) [] (mdF_ok m) .n (f30E m name val _) (f30G m name val _); bindE h (fun x0 h0 h => have H := H.t 36 [.int .i64 x0.1, .bool x0.2] |>.s [(vf 8), (vt 32)] (.tup [(vt 34), (vt 35)]) (search_ok m.k.c h0); bindE h (fun x1 h1 h => have H := H.f 11 [.im (List.map eI x1.l) x1.c] (.c (OkF.im eI_ok _ _) <| .n) |>.s [(vf 8), (vt 34), (.int .i64 0), (.im [[(vt 32)]] true)] (vf 10) (with1_ok m.k.c h1); bindE h (fun x2 h2 h => have H := H.f 12 [.im (List.map eI x2.l) x2.c] (.c (OkF.im eI_ok _ _) <| .n) |>.s [(vf 9), (vt 34), (.int .i64 0), (.im [[(vt 33)]] true)] (vf 11) (with1_ok m.v.c h2); H.e [] h))))

end Go.Proofs.Hz
open Go Go.Proofs
namespace Go.Proofs.Hz
theorem f30_eq {m : Md} {n v : Int} {y : Md} (h : laidF m n v = some y) : f30 m n v = some y.av := by
  unfold laidF at h
  unfold f30
  cases h0 : searchF m.k.l n with
  | none => rw [h0] at h; cases h
  | some s =>
    rw [h0] at h
    simp only [Option.bind_some] at h ⊢
    cases h1 : withF m.k.l s.1 0 [n] with
    | none => rw [h1] at h; cases h
    | some k =>
      rw [h1] at h
      simp only [Option.bind_some] at h ⊢
      cases h2 : withF m.v.l s.1 0 [v] with
      | none => rw [h2] at h; cases h
      | some w => rw [h2] at h; cases h; rfl
theorem laid_ok {m : Md} {n v : Int} {y : Md} (h : laidF m n v = some y) : Spec FF 30 [m.av, .int .i64 n, .int .i64 v] y.av := f30_ok m n v (f30_eq h)
end Go.Proofs.Hz
